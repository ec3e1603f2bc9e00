/-
  The ring's counts as two functions of the place; a place, room, growth, sum, now.
-/
import Derived.Test.YtbnkmhlnoaebcaaRgB
import Derived.Test.YtbnkmhlnoaebcaaLayW
namespace Go.Proofs.Ytbnkmhlnoaebcaa
open Go
set_option linter.unusedVariables false
set_option linter.unusedSimpArgs false

def lL (k : Nat) (G T : Nat → Nat) : List Int :=
  match k with
  | 0 => []
  | k + 1 => lL k G T ++ [(G k : Int), (T k : Int)]
theorem lL_len (G T : Nat → Nat) : ∀ k, (lL k G T).length = k * 2
  | 0 => rfl
  | k + 1 => by simp [lL, lL_len G T k]; omega
theorem lL_get (G T : Nat → Nat) : ∀ (k j : Nat), j < k → (lL k G T).getD (j * 2) 0 = (G j : Int) ∧ (lL k G T).getD (j * 2 + 1) 0 = (T j : Int)
  | 0, j, h => by omega
  | k + 1, j, h => by
    have hl := lL_len G T k
    by_cases hj : j < k
    · have := lL_get G T k j hj
      simp only [lL, List.getD_eq_getElem?_getD] at this ⊢
      rw [List.getElem?_append_left (by omega), List.getElem?_append_left (by omega)]
      exact this
    · obtain rfl : j = k := by omega
      simp only [lL, List.getD_eq_getElem?_getD]
      rw [List.getElem?_append_right (by omega), List.getElem?_append_right (by omega), hl]
      simp
theorem lL_ext {a b : List Int} {k : Nat} (ha : a.length = k * 2) (hb : b.length = k * 2) (h : ∀ j, j < k → a.getD (j * 2) 0 = b.getD (j * 2) 0 ∧ a.getD (j * 2 + 1) 0 = b.getD (j * 2 + 1) 0) : a = b := by
  apply List.ext_getElem (by omega)
  intro i h1 h2
  have hj := h (i / 2) (by omega)
  have e : a.getD i 0 = b.getD i 0 := by
    rcases Nat.mod_two_eq_zero_or_one i with hm | hm
    · rw [show i = i / 2 * 2 by omega]; exact hj.1
    · rw [show i = i / 2 * 2 + 1 by omega]; exact hj.2
  simpa [List.getD, h1, h2] using e
def upd (G : Nat → Nat) (j x : Nat) : Nat → Nat := fun i => if i = j then x else G i
theorem getD_set {l : List Int} {i j : Nat} {x : Int} (h : i < l.length) : (l.set i x).getD j 0 = if j = i then x else l.getD j 0 := by
  simp only [List.getD_eq_getElem?_getD, List.getElem?_set]
  by_cases hij : i = j
  · subst hij; simp [h]
  · simp [hij, Ne.symm hij]
theorem lL_set0 {G T : Nat → Nat} {k j x : Nat} (h : j < k) : (lL k G T).set (j * 2) (x : Int) = lL k (upd G j x) T := by
  have hl := lL_len G T k
  refine lL_ext (k := k) (by simp [lL_len]) (lL_len _ _ _) fun i hi => ?_
  rw [getD_set (by omega), getD_set (by omega), (lL_get _ _ _ _ hi).1, (lL_get _ _ _ _ hi).2, (lL_get _ _ _ _ hi).1, (lL_get _ _ _ _ hi).2]
  unfold upd
  constructor
  · by_cases hij : i = j
    · subst hij; simp
    · rw [if_neg (by omega), if_neg hij]
  · rw [if_neg (by omega)]
theorem lL_set1 {G T : Nat → Nat} {k j x : Nat} (h : j < k) : (lL k G T).set (j * 2 + 1) (x : Int) = lL k G (upd T j x) := by
  have hl := lL_len G T k
  refine lL_ext (k := k) (by simp [lL_len]) (lL_len _ _ _) fun i hi => ?_
  rw [getD_set (by omega), getD_set (by omega), (lL_get _ _ _ _ hi).1, (lL_get _ _ _ _ hi).2, (lL_get _ _ _ _ hi).1, (lL_get _ _ _ _ hi).2]
  unfold upd
  constructor
  · rw [if_neg (by omega)]
  · by_cases hij : i = j
    · subst hij; simp
    · rw [if_neg (by omega), if_neg hij]
theorem set2_eq {l : List Int} {i : Nat} {x y : Int} (h : i + 2 ≤ l.length) : l.take i ++ ([x, y] ++ l.drop (i + 2)) = (l.set i x).set (i + 1) y := by
  apply List.ext_getElem
  · simp; omega
  · intro n h1 h2
    have hn : n < l.length := by simpa using h2
    have e : ∀ (a b : List Int) (ha : n < a.length) (hb : n < b.length), a.getD n 0 = b.getD n 0 → a[n] = b[n] := fun a b ha hb hh => by simpa [List.getD, ha, hb] using hh
    apply e
    rw [getD_set (by simp; omega), getD_set (by omega)]
    simp only [List.getD_eq_getElem?_getD]
    by_cases c1 : n < i
    · rw [List.getElem?_append_left (by simp; omega), List.getElem?_take_of_lt c1, if_neg (by omega), if_neg (by omega)]
    · rw [List.getElem?_append_right (by simp; omega)]
      have : (l.take i).length = i := by simp; omega
      rw [this]
      by_cases c2 : n = i
      · subst c2; simp
      · by_cases c3 : n = i + 1
        · subst c3; simp
        · rw [if_neg c3, if_neg c2, List.getElem?_append_right (by simp; omega), List.getElem?_drop]
          simp only [List.length_cons, List.length_nil]
          rw [show i + 2 + (n - i - (0 + 1 + 1)) = n by omega]
theorem lL_zero2 {G T : Nat → Nat} {k j : Nat} (h : j < k) : (lL k G T).take (j * 2) ++ ([0, 0] ++ (lL k G T).drop (j * 2 + 2)) = lL k (upd G j 0) (upd T j 0) := by
  have hl := lL_len G T k
  rw [set2_eq (by omega)]
  have e0 : (lL k G T).set (j * 2) 0 = lL k (upd G j 0) T := lL_set0 h
  rw [e0]
  exact lL_set1 h
def sumN (f : Nat → Nat) : Nat → Nat
  | 0 => 0
  | k + 1 => sumN f k + f k
theorem sumN_congr {f g : Nat → Nat} : ∀ {k : Nat}, (∀ j, j < k → f j = g j) → sumN f k = sumN g k
  | 0, _ => rfl
  | k + 1, h => by rw [sumN, sumN, sumN_congr (fun j hj => h j (by omega)), h k (by omega)]
theorem sumN_upd (f : Nat → Nat) {j x : Nat} : ∀ {k : Nat}, j < k → sumN (upd f j x) k + f j = sumN f k + x
  | 0, h => by omega
  | k + 1, h => by
    rw [sumN, sumN]
    by_cases hj : j < k
    · have := sumN_upd f (x := x) hj
      have e : upd f j x k = f k := by unfold upd; rw [if_neg (by omega)]
      rw [e]; omega
    · obtain rfl : j = k := by omega
      have e : sumN (upd f j x) j = sumN f j := sumN_congr fun i hi => by unfold upd; rw [if_neg (by omega)]
      have e2 : upd f j x j = x := by unfold upd; rw [if_pos rfl]
      rw [e, e2]; omega
theorem sumN_ge (f : Nat → Nat) {j : Nat} : ∀ {k : Nat}, j < k → f j ≤ sumN f k
  | 0, h => by omega
  | k + 1, h => by
    rw [sumN]
    by_cases hj : j < k
    · have := sumN_ge f hj; omega
    · obtain rfl : j = k := by omega
      omega
theorem sumN_add (f g : Nat → Nat) : ∀ k, sumN (fun j => f j + g j) k = sumN f k + sumN g k
  | 0 => rfl
  | k + 1 => by simp only [sumN]; rw [sumN_add f g k]; omega

/-- a ring's cells, and its buckets' -/
abbrev rbM (lb w k ne now sg st : Nat) : MB := .cells [iv .i64 w, ms lb 0 k k, iv .i64 ne, iv .i64 now, nu sg, nu st] 6 64
abbrev lbM (k : Nat) (G T : Nat → Nat) : MB := .zs .u64 (lL k G T) (k * 2) 43

theorem at_ct (rb lb w k ne now sg st n : Nat) (hk : 1 ≤ k) (hk2 : k ≤ 60) (hn : n ≤ 9223372036854775807) :
    ACt Try.prog 30 [pt rb 0, iv .i64 n] [(rb, rbM lb w k ne now sg st)] (fun r F' => r = pt lb (n % k * 2) ∧ F' = [(rb, rbM lb w k ne now sg st)]) := by
  refine ACt.intro Try.func30 rfl (by kernel_rfl) (by simp [Try.ntmps30]) (fun cx => ?_)
  simp only [argE, Try.ntmps30, Try.results30]
  have n1 : ¬ (k : Int) = 0 := by omega
  have hm := Nat.mod_lt n (show k > 0 by omega)
  obtain ⟨M, hM⟩ : ∃ M, M = n % k := ⟨_, rfl⟩
  rw [← hM] at hm ⊢
  have e3 : (n : Int).tmod (k : Int) = (M : Int) := by rw [hM, Int.tmod_eq_emod_of_nonneg (by omega)]; simp
  have e4 : IntKind.i64.wrap (M : Int) = (M : Int) := wrap_i64_nat (by omega)
  first | (have FRx := FR; clear FRx) | (have FR : ¬ ((1 : Nat) = 0) := Nat.one_ne_zero)
  repeat' first
    | (refine Sm.mk ?_; try simp -dsimp only [rvc, drawF, headN, pureH, maxLen_eq, stp, dvc, calleeOf, gcall, pev, eff, newB, okd, og, ogs, ogo, ogp, slv, bltv, opd, litv, strip, one, both, putE, St.put, look, gdOf, gdv, picka, pickv, pickw, binv, bini, bins, binb, binp, bina, shp, eqCells, unv, convv, nilv, faddv, addp, idxav, idxp, load1, load1m, loadn, loadnm, loadv, hget, hset, hrep, hdel, slicev, List.length_append, bnd, shift1, lenv, IntKind.bits, Nat.reducePow, Int.reducePow, Nat.min_def, extractv, fieldv, indexv, min2v, max2v, mkiv, cellsA, fillA, buildv, stC, oneC, rowMB, intsA, plN, appE, appZ, appC, appNZ, appNC, repA_one, VwL, srcC, srcZ, srcM, fresh_nil, fresh_cons, freshBut_nil, freshBut_cons, intsA_map, ne_eq, true_implies, forall_const, List.length_map, List.map_append, drop_getD0, Int.toNat_natCast, List.length_drop, List.length_take, Int.cast_ofNat_Int, isBoolT, isPtrT, isSliceT, uOk, List.size_toArray, List.length_cons, List.length_nil, List.getElem?_toArray, List.getElem?_cons_zero, List.getElem?_cons_succ, Option.bind_some, Option.map_some, Option.map_none, Option.isSome_some, Nat.reduceAdd, Nat.reduceMul, Nat.reduceSub, Nat.reduceLT, Nat.reduceLeDiff, Nat.reduceEqDiff, Nat.reduceBEq, Nat.reduceDiv, Nat.reduceMod, ↓reduceIte, reduceCtorEq, if_true, if_false, true_and, and_true, ite_true, ite_false, Bool.true_and, Bool.and_true, Bool.not_true, Bool.not_false, Bool.or_false, Bool.false_or, Bool.true_or, Bool.or_true, Bool.false_and, Bool.and_false, List.map_cons, List.map_nil, List.mem_cons, List.not_mem_nil, or_false, false_or, true_or, or_true, forall_eq_or_imp, forall_eq, List.all_cons, List.all_nil, List.append_nil, List.nil_append, List.cons_append, List.getD_cons_zero, List.getD_cons_succ, List.take_succ_cons, List.take_zero, List.drop_succ_cons, List.drop_zero, List.set_cons_zero, List.set_cons_succ, List.replicate_succ, List.replicate_zero, Value.oneCell', Nat.add_zero, Nat.zero_add, Nat.mul_one, Nat.one_mul, Int.toNat_zero, Int.reduceToNat, Int.reduceLT, Int.reduceLE, Nat.le_refl, Int.le_refl, Option.some.injEq, TypeDesc.slice.injEq, TypeDesc.int.injEq, List.length_replicate, TypeDesc.pointer.injEq, exists_eq, exists_eq_left, exists_eq_left', exists_eq', implies_true, beq_true, beq_false, and_self, beq_self_eq_true, bne_self_eq_false, decide_true, decide_false, cond_true, cond_false, Bool.not_eq_true', Bool.not_eq_false', imp_self, Bool.cond_false_right, Bool.cond_true_right, Bool.cond_true_left, Bool.cond_false_left, tyc0, tyc2, zmb2, tyc3, zmb3, tyc4, zmb4, tyc26, mth26_30, mth26_39, mth26_38, con26, zmb26, tyc32, elt32, mkz32, mkc32, apT32, elk32, zmb32, tyc41, zmb41, tyc43, foff43_0, fpart43_0, foff43_1, fpart43_1, fe43, zmb43, bldT43, tyc64, foff64_0, fpart64_0, foff64_1, fpart64_1, foff64_2, fpart64_2, foff64_3, fpart64_3, foff64_4, fpart64_4, zmb64, bldT64, tyc65, zmb65, tyc84, elt84, mkz84, mkc84, apT84, elk84, zmb84, Try.underlying0, Try.underlying2, Try.underlying3, Try.underlying4, Try.underlying26, Try.underlying32, Try.underlying41, Try.underlying43, Try.underlying64, Try.underlying65, Try.underlying84, SeqQ, BlkQ, LoopQ, BodyQ, n1, e3, e4, FR])
    | (refine WP.seq fun K hK => ?_)
    | (refine WP.region (rvc_sound _ _ (Sm.out ?_)))
    | (refine WP.drawK rfl mixed (by decide +kernel) (Sm.out ?_))
    | (refine And.intro ?_ ?_; focus (first | assumption | omega | decide | trivial | (intro hob; simp only [hob, Bool.not_eq_true', Bool.not_eq_false', Bool.not_false, Bool.not_true, Bool.true_and, Bool.and_true, Bool.false_and, Bool.and_false, true_and, and_true, imp_self, implies_true, and_self]; done) | (intros; (repeat' refine And.intro ?_ ?_) <;> first | assumption | omega | trivial | decide) | (intros; simp only [decide_eq_true_eq, decide_eq_false_iff_not, Bool.and_eq_true, Bool.or_eq_true, Bool.and_eq_false_iff, Bool.or_eq_false_iff, bne_iff_ne, bne_eq_false_iff_eq, Bool.not_eq_true', Bool.not_eq_false', Int.not_lt, Int.not_le] at *; (repeat' refine And.intro ?_ ?_) <;> first | assumption | omega | trivial)))
    | (refine WP.block ?_)
    | (refine WP.cond rfl (fun hc => ?_) (fun hc => ?_) <;> (try simp only [decide_eq_true_eq, decide_eq_false_iff_not, Bool.and_eq_true, Bool.or_eq_true, Bool.and_eq_false_iff, Bool.or_eq_false_iff, Bool.not_eq_true', Bool.not_eq_false', Int.not_lt, Int.not_le, reduceCtorEq, false_and, and_false, false_or, or_false, true_and, and_true, true_or, or_true, not_true_eq_false, not_false_eq_true, beq_iff_eq, beq_eq_false_iff_ne, bne_iff_ne, bne_eq_false_iff_eq, ne_eq, Decidable.not_not] at hc) <;> (try (exact absurd hc (by decide))) <;> (try (exfalso; omega)))
    | (refine WP.skip ?_; simp only [SeqQ, BlkQ, LoopQ, BodyQ, ↓reduceIte, Nat.reduceEqDiff, reduceCtorEq, look, true_and])
    | (refine WP.exit ?_; simp only [SeqQ, BlkQ, LoopQ, BodyQ, ↓reduceIte, Nat.reduceEqDiff, reduceCtorEq, look, true_and])
    | (refine WP.ret (Sm.out ?_))
    | (refine ExG.mk (x := AV.any) (fun hg => absurd hg (by decide)) (Sm.out ?_))
    | (refine Or.inl (ExG.mk (x := AV.any) (fun hg => absurd hg (by decide)) (Sm.out ?_)))
    | (refine Or.inl (And.intro (fun hg => absurd hg (by decide)) (ExG.mk (x := AV.any) (fun hg => absurd hg (by decide)) (Sm.out ?_))))
    | (refine Rt.mk ?_; refine And.intro ?_ ?_ <;> (intro hg; first | exact absurd hg (by decide) | refine Sm.out ?_))
    | (refine Nu.mk ?_; first | ((fail_if_success (have hx := nb1)); intro nb1) | ((fail_if_success (have hx := nb2)); intro nb2) | ((fail_if_success (have hx := nb3)); intro nb3) | ((fail_if_success (have hx := nb4)); intro nb4) | ((fail_if_success (have hx := nb5)); intro nb5) | ((fail_if_success (have hx := nb6)); intro nb6) | ((fail_if_success (have hx := nb7)); intro nb7) | ((fail_if_success (have hx := nb8)); intro nb8) | ((fail_if_success (have hx := nb9)); intro nb9) | ((fail_if_success (have hx := nb10)); intro nb10) | ((fail_if_success (have hx := nb11)); intro nb11) | ((fail_if_success (have hx := nb12)); intro nb12) | ((fail_if_success (have hx := nb13)); intro nb13) | ((fail_if_success (have hx := nb14)); intro nb14))
    | (refine Fr.mk ?_; intro hfr; replace FR := And.intro hfr FR; clear hfr; refine Sm.out ?_)
    | (refine Two.mk ?_ ?_)
    | (refine Cs.mk ?_; intro hcs; first | exact False.elim hcs | (exfalso; omega) | (refine Sm.out ?_))
    | (refine (show VwL _ _ _ from ?_); simp only [VwL, and_true, true_and])
    | exact Vw.same _
    | (refine Vw.row' (by simp only [hget, ↓reduceIte, if_true, if_false, FR, n1, e3, e4]; first | done | rfl) ?_ ?_ ?_ ?_)
    | (refine And.intro (Vw.same _) ?_)
    | (refine And.intro (Vw.row' (by simp only [hget, ↓reduceIte, if_true, if_false, FR, n1, e3, e4]; first | done | rfl) ?_ ?_ ?_ ?_) ?_)
    | go_step
    | omega
    | (simp only [maxLen_eq]; omega)
  (refine OutQ.upd (by simp only [resv, look, loadv, loadn, loadnm, load1, load1m, hget, maxLen_eq, ↓reduceIte, if_true, if_false, ite_true, ite_false, Nat.reduceEqDiff, Nat.reduceAdd, Nat.reduceMul, Nat.reduceLeDiff, Nat.reduceLT, reduceCtorEq, true_and, and_true, and_self, List.length_cons, List.length_nil, List.length_map, List.length_replicate, List.take_succ_cons, List.take_zero, List.drop_zero, List.drop_succ_cons, List.map_cons, List.map_nil, List.getD_cons_zero, List.getD_cons_succ, Nat.zero_add, Nat.add_zero, Nat.le_refl, Option.some.injEq, ne_eq, tyc0, tyc2, tyc3, tyc4, tyc26, tyc32, tyc41, tyc43, tyc64, tyc65, tyc84, FR]) (by simp only [resv, resA, look, loadv, loadn, loadnm, load1, load1m, hget, maxLen_eq, ↓reduceIte, if_true, if_false, ite_true, ite_false, Nat.reduceEqDiff, Nat.reduceAdd, Nat.reduceMul, Nat.reduceLeDiff, Nat.reduceLT, reduceCtorEq, true_and, and_true, and_self, List.length_cons, List.length_nil, List.length_map, List.length_replicate, List.take_succ_cons, List.take_zero, List.drop_zero, List.drop_succ_cons, List.map_cons, List.map_nil, List.getD_cons_zero, List.getD_cons_succ, Nat.zero_add, Nat.add_zero, Nat.le_refl, Option.some.injEq, ne_eq, tyc0, tyc2, tyc3, tyc4, tyc26, tyc32, tyc41, tyc43, tyc64, tyc65, tyc84, FR]; first | done | rfl) (by simp only [hget, ↓reduceIte, if_true, if_false, FR]; first | done | rfl) ?_ <;> first | exact rfl | (simp only [look, loadv, loadn, loadnm, load1, load1m, hget, maxLen_eq, ↓reduceIte, if_true, if_false, ite_true, ite_false, Nat.reduceEqDiff, Nat.reduceAdd, Nat.reduceMul, Nat.reduceLeDiff, Nat.reduceLT, reduceCtorEq, true_and, and_true, and_self, List.length_cons, List.length_nil, List.length_map, List.length_replicate, List.take_succ_cons, List.take_zero, List.drop_zero, List.drop_succ_cons, List.map_cons, List.map_nil, List.getD_cons_zero, List.getD_cons_succ, Nat.zero_add, Nat.add_zero, Nat.le_refl, Option.some.injEq, ne_eq, tyc0, tyc2, tyc3, tyc4, tyc26, tyc32, tyc41, tyc43, tyc64, tyc65, tyc84, FR]; done) | skip)
theorem room_ct (rb lb w k ne now sg st g t : Nat) (hst : st ≤ 9223372036854775807) :
    ACt Try.prog 38 [pt rb 0, cnt g t] [(rb, rbM lb w k ne now sg st)] (fun r F' => r = bv (decide (st + t ≤ 9223372036854775807)) ∧ F' = [(rb, rbM lb w k ne now sg st)]) := by
  refine ACt.intro Try.func38 rfl (by kernel_rfl) (by simp [Try.ntmps38]) (fun cx => ?_)
  simp only [argE, Try.ntmps38, Try.results38]
  by_cases h : t ≤ 9223372036854775807
  · have e1 : decide ((t : Int) ≤ 9223372036854775807) = true := by simp; omega
    have e2 : IntKind.u64.wrap (9223372036854775807 - (t : Int)) = 9223372036854775807 - (t : Int) := wrap_u64 (by omega) (by omega)
    have e3 : decide ((st : Int) ≤ 9223372036854775807 - (t : Int)) = decide (st + t ≤ 9223372036854775807) := by rw [Bool.eq_iff_iff]; simp; omega
    first | (have FRx := FR; clear FRx) | (have FR : ¬ ((1 : Nat) = 0) := Nat.one_ne_zero)
    repeat' first
      | (refine Sm.mk ?_; try simp -dsimp only [rvc, drawF, headN, pureH, maxLen_eq, stp, dvc, calleeOf, gcall, pev, eff, newB, okd, og, ogs, ogo, ogp, slv, bltv, opd, litv, strip, one, both, putE, St.put, look, gdOf, gdv, picka, pickv, pickw, binv, bini, bins, binb, binp, bina, shp, eqCells, unv, convv, nilv, faddv, addp, idxav, idxp, load1, load1m, loadn, loadnm, loadv, hget, hset, hrep, hdel, slicev, List.length_append, bnd, shift1, lenv, IntKind.bits, Nat.reducePow, Int.reducePow, Nat.min_def, extractv, fieldv, indexv, min2v, max2v, mkiv, cellsA, fillA, buildv, stC, oneC, rowMB, intsA, plN, appE, appZ, appC, appNZ, appNC, repA_one, VwL, srcC, srcZ, srcM, fresh_nil, fresh_cons, freshBut_nil, freshBut_cons, intsA_map, ne_eq, true_implies, forall_const, List.length_map, List.map_append, drop_getD0, Int.toNat_natCast, List.length_drop, List.length_take, Int.cast_ofNat_Int, isBoolT, isPtrT, isSliceT, uOk, List.size_toArray, List.length_cons, List.length_nil, List.getElem?_toArray, List.getElem?_cons_zero, List.getElem?_cons_succ, Option.bind_some, Option.map_some, Option.map_none, Option.isSome_some, Nat.reduceAdd, Nat.reduceMul, Nat.reduceSub, Nat.reduceLT, Nat.reduceLeDiff, Nat.reduceEqDiff, Nat.reduceBEq, Nat.reduceDiv, Nat.reduceMod, ↓reduceIte, reduceCtorEq, if_true, if_false, true_and, and_true, ite_true, ite_false, Bool.true_and, Bool.and_true, Bool.not_true, Bool.not_false, Bool.or_false, Bool.false_or, Bool.true_or, Bool.or_true, Bool.false_and, Bool.and_false, List.map_cons, List.map_nil, List.mem_cons, List.not_mem_nil, or_false, false_or, true_or, or_true, forall_eq_or_imp, forall_eq, List.all_cons, List.all_nil, List.append_nil, List.nil_append, List.cons_append, List.getD_cons_zero, List.getD_cons_succ, List.take_succ_cons, List.take_zero, List.drop_succ_cons, List.drop_zero, List.set_cons_zero, List.set_cons_succ, List.replicate_succ, List.replicate_zero, Value.oneCell', Nat.add_zero, Nat.zero_add, Nat.mul_one, Nat.one_mul, Int.toNat_zero, Int.reduceToNat, Int.reduceLT, Int.reduceLE, Nat.le_refl, Int.le_refl, Option.some.injEq, TypeDesc.slice.injEq, TypeDesc.int.injEq, List.length_replicate, TypeDesc.pointer.injEq, exists_eq, exists_eq_left, exists_eq_left', exists_eq', implies_true, beq_true, beq_false, and_self, beq_self_eq_true, bne_self_eq_false, decide_true, decide_false, cond_true, cond_false, Bool.not_eq_true', Bool.not_eq_false', imp_self, Bool.cond_false_right, Bool.cond_true_right, Bool.cond_true_left, Bool.cond_false_left, tyc0, tyc2, zmb2, tyc3, zmb3, tyc4, zmb4, tyc26, mth26_30, mth26_39, mth26_38, con26, zmb26, tyc32, elt32, mkz32, mkc32, apT32, elk32, zmb32, tyc41, zmb41, tyc43, foff43_0, fpart43_0, foff43_1, fpart43_1, fe43, zmb43, bldT43, tyc64, foff64_0, fpart64_0, foff64_1, fpart64_1, foff64_2, fpart64_2, foff64_3, fpart64_3, foff64_4, fpart64_4, zmb64, bldT64, tyc65, zmb65, tyc84, elt84, mkz84, mkc84, apT84, elk84, zmb84, Try.underlying0, Try.underlying2, Try.underlying3, Try.underlying4, Try.underlying26, Try.underlying32, Try.underlying41, Try.underlying43, Try.underlying64, Try.underlying65, Try.underlying84, SeqQ, BlkQ, LoopQ, BodyQ, e1, e2, e3, FR])
      | (refine WP.seq fun K hK => ?_)
      | (refine WP.region (rvc_sound _ _ (Sm.out ?_)))
      | (refine WP.drawK rfl mixed (by decide +kernel) (Sm.out ?_))
      | (refine And.intro ?_ ?_; focus (first | assumption | omega | decide | trivial | (intro hob; simp only [hob, Bool.not_eq_true', Bool.not_eq_false', Bool.not_false, Bool.not_true, Bool.true_and, Bool.and_true, Bool.false_and, Bool.and_false, true_and, and_true, imp_self, implies_true, and_self]; done) | (intros; (repeat' refine And.intro ?_ ?_) <;> first | assumption | omega | trivial | decide) | (intros; simp only [decide_eq_true_eq, decide_eq_false_iff_not, Bool.and_eq_true, Bool.or_eq_true, Bool.and_eq_false_iff, Bool.or_eq_false_iff, bne_iff_ne, bne_eq_false_iff_eq, Bool.not_eq_true', Bool.not_eq_false', Int.not_lt, Int.not_le] at *; (repeat' refine And.intro ?_ ?_) <;> first | assumption | omega | trivial)))
      | (refine WP.block ?_)
      | (refine WP.cond rfl (fun hc => ?_) (fun hc => ?_) <;> (try simp only [decide_eq_true_eq, decide_eq_false_iff_not, Bool.and_eq_true, Bool.or_eq_true, Bool.and_eq_false_iff, Bool.or_eq_false_iff, Bool.not_eq_true', Bool.not_eq_false', Int.not_lt, Int.not_le, reduceCtorEq, false_and, and_false, false_or, or_false, true_and, and_true, true_or, or_true, not_true_eq_false, not_false_eq_true, beq_iff_eq, beq_eq_false_iff_ne, bne_iff_ne, bne_eq_false_iff_eq, ne_eq, Decidable.not_not] at hc) <;> (try (exact absurd hc (by decide))) <;> (try (exfalso; omega)))
      | (refine WP.skip ?_; simp only [SeqQ, BlkQ, LoopQ, BodyQ, ↓reduceIte, Nat.reduceEqDiff, reduceCtorEq, look, true_and])
      | (refine WP.exit ?_; simp only [SeqQ, BlkQ, LoopQ, BodyQ, ↓reduceIte, Nat.reduceEqDiff, reduceCtorEq, look, true_and])
      | (refine WP.ret (Sm.out ?_))
      | (refine ExG.mk (x := AV.any) (fun hg => absurd hg (by decide)) (Sm.out ?_))
      | (refine Or.inl (ExG.mk (x := AV.any) (fun hg => absurd hg (by decide)) (Sm.out ?_)))
      | (refine Or.inl (And.intro (fun hg => absurd hg (by decide)) (ExG.mk (x := AV.any) (fun hg => absurd hg (by decide)) (Sm.out ?_))))
      | (refine Rt.mk ?_; refine And.intro ?_ ?_ <;> (intro hg; first | exact absurd hg (by decide) | refine Sm.out ?_))
      | (refine Nu.mk ?_; first | ((fail_if_success (have hx := nb1)); intro nb1) | ((fail_if_success (have hx := nb2)); intro nb2) | ((fail_if_success (have hx := nb3)); intro nb3) | ((fail_if_success (have hx := nb4)); intro nb4) | ((fail_if_success (have hx := nb5)); intro nb5) | ((fail_if_success (have hx := nb6)); intro nb6) | ((fail_if_success (have hx := nb7)); intro nb7) | ((fail_if_success (have hx := nb8)); intro nb8) | ((fail_if_success (have hx := nb9)); intro nb9) | ((fail_if_success (have hx := nb10)); intro nb10) | ((fail_if_success (have hx := nb11)); intro nb11) | ((fail_if_success (have hx := nb12)); intro nb12) | ((fail_if_success (have hx := nb13)); intro nb13) | ((fail_if_success (have hx := nb14)); intro nb14))
      | (refine Fr.mk ?_; intro hfr; replace FR := And.intro hfr FR; clear hfr; refine Sm.out ?_)
      | (refine Two.mk ?_ ?_)
      | (refine Cs.mk ?_; intro hcs; first | exact False.elim hcs | (exfalso; omega) | (refine Sm.out ?_))
      | (refine (show VwL _ _ _ from ?_); simp only [VwL, and_true, true_and])
      | exact Vw.same _
      | (refine Vw.row' (by simp only [hget, ↓reduceIte, if_true, if_false, FR, e1, e2, e3]; first | done | rfl) ?_ ?_ ?_ ?_)
      | (refine And.intro (Vw.same _) ?_)
      | (refine And.intro (Vw.row' (by simp only [hget, ↓reduceIte, if_true, if_false, FR, e1, e2, e3]; first | done | rfl) ?_ ?_ ?_ ?_) ?_)
      | go_step
      | omega
      | (simp only [maxLen_eq]; omega)
    (refine OutQ.upd (by simp only [resv, look, loadv, loadn, loadnm, load1, load1m, hget, maxLen_eq, ↓reduceIte, if_true, if_false, ite_true, ite_false, Nat.reduceEqDiff, Nat.reduceAdd, Nat.reduceMul, Nat.reduceLeDiff, Nat.reduceLT, reduceCtorEq, true_and, and_true, and_self, List.length_cons, List.length_nil, List.length_map, List.length_replicate, List.take_succ_cons, List.take_zero, List.drop_zero, List.drop_succ_cons, List.map_cons, List.map_nil, List.getD_cons_zero, List.getD_cons_succ, Nat.zero_add, Nat.add_zero, Nat.le_refl, Option.some.injEq, ne_eq, tyc0, tyc2, tyc3, tyc4, tyc26, tyc32, tyc41, tyc43, tyc64, tyc65, tyc84, FR]) (by simp only [resv, resA, look, loadv, loadn, loadnm, load1, load1m, hget, maxLen_eq, ↓reduceIte, if_true, if_false, ite_true, ite_false, Nat.reduceEqDiff, Nat.reduceAdd, Nat.reduceMul, Nat.reduceLeDiff, Nat.reduceLT, reduceCtorEq, true_and, and_true, and_self, List.length_cons, List.length_nil, List.length_map, List.length_replicate, List.take_succ_cons, List.take_zero, List.drop_zero, List.drop_succ_cons, List.map_cons, List.map_nil, List.getD_cons_zero, List.getD_cons_succ, Nat.zero_add, Nat.add_zero, Nat.le_refl, Option.some.injEq, ne_eq, tyc0, tyc2, tyc3, tyc4, tyc26, tyc32, tyc41, tyc43, tyc64, tyc65, tyc84, FR]; first | done | rfl) (by simp only [hget, ↓reduceIte, if_true, if_false, FR]; first | done | rfl) ?_ <;> first | exact rfl | (simp only [look, loadv, loadn, loadnm, load1, load1m, hget, maxLen_eq, ↓reduceIte, if_true, if_false, ite_true, ite_false, Nat.reduceEqDiff, Nat.reduceAdd, Nat.reduceMul, Nat.reduceLeDiff, Nat.reduceLT, reduceCtorEq, true_and, and_true, and_self, List.length_cons, List.length_nil, List.length_map, List.length_replicate, List.take_succ_cons, List.take_zero, List.drop_zero, List.drop_succ_cons, List.map_cons, List.map_nil, List.getD_cons_zero, List.getD_cons_succ, Nat.zero_add, Nat.add_zero, Nat.le_refl, Option.some.injEq, ne_eq, tyc0, tyc2, tyc3, tyc4, tyc26, tyc32, tyc41, tyc43, tyc64, tyc65, tyc84, FR]; done) | skip)
  · have e1 : decide ((t : Int) ≤ 9223372036854775807) = false := by simp; omega
    rw [decide_eq_false (show ¬ st + t ≤ 9223372036854775807 by omega)]
    first | (have FRx := FR; clear FRx) | (have FR : ¬ ((1 : Nat) = 0) := Nat.one_ne_zero)
    repeat' first
      | (refine Sm.mk ?_; try simp -dsimp only [rvc, drawF, headN, pureH, maxLen_eq, stp, dvc, calleeOf, gcall, pev, eff, newB, okd, og, ogs, ogo, ogp, slv, bltv, opd, litv, strip, one, both, putE, St.put, look, gdOf, gdv, picka, pickv, pickw, binv, bini, bins, binb, binp, bina, shp, eqCells, unv, convv, nilv, faddv, addp, idxav, idxp, load1, load1m, loadn, loadnm, loadv, hget, hset, hrep, hdel, slicev, List.length_append, bnd, shift1, lenv, IntKind.bits, Nat.reducePow, Int.reducePow, Nat.min_def, extractv, fieldv, indexv, min2v, max2v, mkiv, cellsA, fillA, buildv, stC, oneC, rowMB, intsA, plN, appE, appZ, appC, appNZ, appNC, repA_one, VwL, srcC, srcZ, srcM, fresh_nil, fresh_cons, freshBut_nil, freshBut_cons, intsA_map, ne_eq, true_implies, forall_const, List.length_map, List.map_append, drop_getD0, Int.toNat_natCast, List.length_drop, List.length_take, Int.cast_ofNat_Int, isBoolT, isPtrT, isSliceT, uOk, List.size_toArray, List.length_cons, List.length_nil, List.getElem?_toArray, List.getElem?_cons_zero, List.getElem?_cons_succ, Option.bind_some, Option.map_some, Option.map_none, Option.isSome_some, Nat.reduceAdd, Nat.reduceMul, Nat.reduceSub, Nat.reduceLT, Nat.reduceLeDiff, Nat.reduceEqDiff, Nat.reduceBEq, Nat.reduceDiv, Nat.reduceMod, ↓reduceIte, reduceCtorEq, if_true, if_false, true_and, and_true, ite_true, ite_false, Bool.true_and, Bool.and_true, Bool.not_true, Bool.not_false, Bool.or_false, Bool.false_or, Bool.true_or, Bool.or_true, Bool.false_and, Bool.and_false, List.map_cons, List.map_nil, List.mem_cons, List.not_mem_nil, or_false, false_or, true_or, or_true, forall_eq_or_imp, forall_eq, List.all_cons, List.all_nil, List.append_nil, List.nil_append, List.cons_append, List.getD_cons_zero, List.getD_cons_succ, List.take_succ_cons, List.take_zero, List.drop_succ_cons, List.drop_zero, List.set_cons_zero, List.set_cons_succ, List.replicate_succ, List.replicate_zero, Value.oneCell', Nat.add_zero, Nat.zero_add, Nat.mul_one, Nat.one_mul, Int.toNat_zero, Int.reduceToNat, Int.reduceLT, Int.reduceLE, Nat.le_refl, Int.le_refl, Option.some.injEq, TypeDesc.slice.injEq, TypeDesc.int.injEq, List.length_replicate, TypeDesc.pointer.injEq, exists_eq, exists_eq_left, exists_eq_left', exists_eq', implies_true, beq_true, beq_false, and_self, beq_self_eq_true, bne_self_eq_false, decide_true, decide_false, cond_true, cond_false, Bool.not_eq_true', Bool.not_eq_false', imp_self, Bool.cond_false_right, Bool.cond_true_right, Bool.cond_true_left, Bool.cond_false_left, tyc0, tyc2, zmb2, tyc3, zmb3, tyc4, zmb4, tyc26, mth26_30, mth26_39, mth26_38, con26, zmb26, tyc32, elt32, mkz32, mkc32, apT32, elk32, zmb32, tyc41, zmb41, tyc43, foff43_0, fpart43_0, foff43_1, fpart43_1, fe43, zmb43, bldT43, tyc64, foff64_0, fpart64_0, foff64_1, fpart64_1, foff64_2, fpart64_2, foff64_3, fpart64_3, foff64_4, fpart64_4, zmb64, bldT64, tyc65, zmb65, tyc84, elt84, mkz84, mkc84, apT84, elk84, zmb84, Try.underlying0, Try.underlying2, Try.underlying3, Try.underlying4, Try.underlying26, Try.underlying32, Try.underlying41, Try.underlying43, Try.underlying64, Try.underlying65, Try.underlying84, SeqQ, BlkQ, LoopQ, BodyQ, e1, FR])
      | (refine WP.seq fun K hK => ?_)
      | (refine WP.region (rvc_sound _ _ (Sm.out ?_)))
      | (refine WP.drawK rfl mixed (by decide +kernel) (Sm.out ?_))
      | (refine And.intro ?_ ?_; focus (first | assumption | omega | decide | trivial | (intro hob; simp only [hob, Bool.not_eq_true', Bool.not_eq_false', Bool.not_false, Bool.not_true, Bool.true_and, Bool.and_true, Bool.false_and, Bool.and_false, true_and, and_true, imp_self, implies_true, and_self]; done) | (intros; (repeat' refine And.intro ?_ ?_) <;> first | assumption | omega | trivial | decide) | (intros; simp only [decide_eq_true_eq, decide_eq_false_iff_not, Bool.and_eq_true, Bool.or_eq_true, Bool.and_eq_false_iff, Bool.or_eq_false_iff, bne_iff_ne, bne_eq_false_iff_eq, Bool.not_eq_true', Bool.not_eq_false', Int.not_lt, Int.not_le] at *; (repeat' refine And.intro ?_ ?_) <;> first | assumption | omega | trivial)))
      | (refine WP.block ?_)
      | (refine WP.cond rfl (fun hc => ?_) (fun hc => ?_) <;> (try simp only [decide_eq_true_eq, decide_eq_false_iff_not, Bool.and_eq_true, Bool.or_eq_true, Bool.and_eq_false_iff, Bool.or_eq_false_iff, Bool.not_eq_true', Bool.not_eq_false', Int.not_lt, Int.not_le, reduceCtorEq, false_and, and_false, false_or, or_false, true_and, and_true, true_or, or_true, not_true_eq_false, not_false_eq_true, beq_iff_eq, beq_eq_false_iff_ne, bne_iff_ne, bne_eq_false_iff_eq, ne_eq, Decidable.not_not] at hc) <;> (try (exact absurd hc (by decide))) <;> (try (exfalso; omega)))
      | (refine WP.skip ?_; simp only [SeqQ, BlkQ, LoopQ, BodyQ, ↓reduceIte, Nat.reduceEqDiff, reduceCtorEq, look, true_and])
      | (refine WP.exit ?_; simp only [SeqQ, BlkQ, LoopQ, BodyQ, ↓reduceIte, Nat.reduceEqDiff, reduceCtorEq, look, true_and])
      | (refine WP.ret (Sm.out ?_))
      | (refine ExG.mk (x := AV.any) (fun hg => absurd hg (by decide)) (Sm.out ?_))
      | (refine Or.inl (ExG.mk (x := AV.any) (fun hg => absurd hg (by decide)) (Sm.out ?_)))
      | (refine Or.inl (And.intro (fun hg => absurd hg (by decide)) (ExG.mk (x := AV.any) (fun hg => absurd hg (by decide)) (Sm.out ?_))))
      | (refine Rt.mk ?_; refine And.intro ?_ ?_ <;> (intro hg; first | exact absurd hg (by decide) | refine Sm.out ?_))
      | (refine Nu.mk ?_; first | ((fail_if_success (have hx := nb1)); intro nb1) | ((fail_if_success (have hx := nb2)); intro nb2) | ((fail_if_success (have hx := nb3)); intro nb3) | ((fail_if_success (have hx := nb4)); intro nb4) | ((fail_if_success (have hx := nb5)); intro nb5) | ((fail_if_success (have hx := nb6)); intro nb6) | ((fail_if_success (have hx := nb7)); intro nb7) | ((fail_if_success (have hx := nb8)); intro nb8) | ((fail_if_success (have hx := nb9)); intro nb9) | ((fail_if_success (have hx := nb10)); intro nb10) | ((fail_if_success (have hx := nb11)); intro nb11) | ((fail_if_success (have hx := nb12)); intro nb12) | ((fail_if_success (have hx := nb13)); intro nb13) | ((fail_if_success (have hx := nb14)); intro nb14))
      | (refine Fr.mk ?_; intro hfr; replace FR := And.intro hfr FR; clear hfr; refine Sm.out ?_)
      | (refine Two.mk ?_ ?_)
      | (refine Cs.mk ?_; intro hcs; first | exact False.elim hcs | (exfalso; omega) | (refine Sm.out ?_))
      | (refine (show VwL _ _ _ from ?_); simp only [VwL, and_true, true_and])
      | exact Vw.same _
      | (refine Vw.row' (by simp only [hget, ↓reduceIte, if_true, if_false, FR, e1]; first | done | rfl) ?_ ?_ ?_ ?_)
      | (refine And.intro (Vw.same _) ?_)
      | (refine And.intro (Vw.row' (by simp only [hget, ↓reduceIte, if_true, if_false, FR, e1]; first | done | rfl) ?_ ?_ ?_ ?_) ?_)
      | go_step
      | omega
      | (simp only [maxLen_eq]; omega)
    (refine OutQ.upd (by simp only [resv, look, loadv, loadn, loadnm, load1, load1m, hget, maxLen_eq, ↓reduceIte, if_true, if_false, ite_true, ite_false, Nat.reduceEqDiff, Nat.reduceAdd, Nat.reduceMul, Nat.reduceLeDiff, Nat.reduceLT, reduceCtorEq, true_and, and_true, and_self, List.length_cons, List.length_nil, List.length_map, List.length_replicate, List.take_succ_cons, List.take_zero, List.drop_zero, List.drop_succ_cons, List.map_cons, List.map_nil, List.getD_cons_zero, List.getD_cons_succ, Nat.zero_add, Nat.add_zero, Nat.le_refl, Option.some.injEq, ne_eq, tyc0, tyc2, tyc3, tyc4, tyc26, tyc32, tyc41, tyc43, tyc64, tyc65, tyc84, FR]) (by simp only [resv, resA, look, loadv, loadn, loadnm, load1, load1m, hget, maxLen_eq, ↓reduceIte, if_true, if_false, ite_true, ite_false, Nat.reduceEqDiff, Nat.reduceAdd, Nat.reduceMul, Nat.reduceLeDiff, Nat.reduceLT, reduceCtorEq, true_and, and_true, and_self, List.length_cons, List.length_nil, List.length_map, List.length_replicate, List.take_succ_cons, List.take_zero, List.drop_zero, List.drop_succ_cons, List.map_cons, List.map_nil, List.getD_cons_zero, List.getD_cons_succ, Nat.zero_add, Nat.add_zero, Nat.le_refl, Option.some.injEq, ne_eq, tyc0, tyc2, tyc3, tyc4, tyc26, tyc32, tyc41, tyc43, tyc64, tyc65, tyc84, FR]; first | done | rfl) (by simp only [hget, ↓reduceIte, if_true, if_false, FR]; first | done | rfl) ?_ <;> first | exact rfl | (simp only [look, loadv, loadn, loadnm, load1, load1m, hget, maxLen_eq, ↓reduceIte, if_true, if_false, ite_true, ite_false, Nat.reduceEqDiff, Nat.reduceAdd, Nat.reduceMul, Nat.reduceLeDiff, Nat.reduceLT, reduceCtorEq, true_and, and_true, and_self, List.length_cons, List.length_nil, List.length_map, List.length_replicate, List.take_succ_cons, List.take_zero, List.drop_zero, List.drop_succ_cons, List.map_cons, List.map_nil, List.getD_cons_zero, List.getD_cons_succ, Nat.zero_add, Nat.add_zero, Nat.le_refl, Option.some.injEq, ne_eq, tyc0, tyc2, tyc3, tyc4, tyc26, tyc32, tyc41, tyc43, tyc64, tyc65, tyc84, FR]; done) | skip)
theorem sum_ct (rb lb w k ne now sg st : Nat) : ACt Try.prog 17 [pt rb 0] [(rb, rbM lb w k ne now sg st)] (fun r F' => r = cnt sg st ∧ F' = [(rb, rbM lb w k ne now sg st)]) := by
  refine ACt.intro Try.func17 rfl (by kernel_rfl) (by simp [Try.ntmps17]) (fun cx => ?_)
  simp only [argE, Try.ntmps17, Try.results17]
  first | (have FRx := FR; clear FRx) | (have FR : ¬ ((1 : Nat) = 0) := Nat.one_ne_zero)
  repeat' first
    | (refine Sm.mk ?_; try simp -dsimp only [rvc, drawF, headN, pureH, maxLen_eq, stp, dvc, calleeOf, gcall, pev, eff, newB, okd, og, ogs, ogo, ogp, slv, bltv, opd, litv, strip, one, both, putE, St.put, look, gdOf, gdv, picka, pickv, pickw, binv, bini, bins, binb, binp, bina, shp, eqCells, unv, convv, nilv, faddv, addp, idxav, idxp, load1, load1m, loadn, loadnm, loadv, hget, hset, hrep, hdel, slicev, List.length_append, bnd, shift1, lenv, IntKind.bits, Nat.reducePow, Int.reducePow, Nat.min_def, extractv, fieldv, indexv, min2v, max2v, mkiv, cellsA, fillA, buildv, stC, oneC, rowMB, intsA, plN, appE, appZ, appC, appNZ, appNC, repA_one, VwL, srcC, srcZ, srcM, fresh_nil, fresh_cons, freshBut_nil, freshBut_cons, intsA_map, ne_eq, true_implies, forall_const, List.length_map, List.map_append, drop_getD0, Int.toNat_natCast, List.length_drop, List.length_take, Int.cast_ofNat_Int, isBoolT, isPtrT, isSliceT, uOk, List.size_toArray, List.length_cons, List.length_nil, List.getElem?_toArray, List.getElem?_cons_zero, List.getElem?_cons_succ, Option.bind_some, Option.map_some, Option.map_none, Option.isSome_some, Nat.reduceAdd, Nat.reduceMul, Nat.reduceSub, Nat.reduceLT, Nat.reduceLeDiff, Nat.reduceEqDiff, Nat.reduceBEq, Nat.reduceDiv, Nat.reduceMod, ↓reduceIte, reduceCtorEq, if_true, if_false, true_and, and_true, ite_true, ite_false, Bool.true_and, Bool.and_true, Bool.not_true, Bool.not_false, Bool.or_false, Bool.false_or, Bool.true_or, Bool.or_true, Bool.false_and, Bool.and_false, List.map_cons, List.map_nil, List.mem_cons, List.not_mem_nil, or_false, false_or, true_or, or_true, forall_eq_or_imp, forall_eq, List.all_cons, List.all_nil, List.append_nil, List.nil_append, List.cons_append, List.getD_cons_zero, List.getD_cons_succ, List.take_succ_cons, List.take_zero, List.drop_succ_cons, List.drop_zero, List.set_cons_zero, List.set_cons_succ, List.replicate_succ, List.replicate_zero, Value.oneCell', Nat.add_zero, Nat.zero_add, Nat.mul_one, Nat.one_mul, Int.toNat_zero, Int.reduceToNat, Int.reduceLT, Int.reduceLE, Nat.le_refl, Int.le_refl, Option.some.injEq, TypeDesc.slice.injEq, TypeDesc.int.injEq, List.length_replicate, TypeDesc.pointer.injEq, exists_eq, exists_eq_left, exists_eq_left', exists_eq', implies_true, beq_true, beq_false, and_self, beq_self_eq_true, bne_self_eq_false, decide_true, decide_false, cond_true, cond_false, Bool.not_eq_true', Bool.not_eq_false', imp_self, Bool.cond_false_right, Bool.cond_true_right, Bool.cond_true_left, Bool.cond_false_left, tyc0, tyc2, zmb2, tyc3, zmb3, tyc4, zmb4, tyc26, mth26_30, mth26_39, mth26_38, con26, zmb26, tyc32, elt32, mkz32, mkc32, apT32, elk32, zmb32, tyc41, zmb41, tyc43, foff43_0, fpart43_0, foff43_1, fpart43_1, fe43, zmb43, bldT43, tyc64, foff64_0, fpart64_0, foff64_1, fpart64_1, foff64_2, fpart64_2, foff64_3, fpart64_3, foff64_4, fpart64_4, zmb64, bldT64, tyc65, zmb65, tyc84, elt84, mkz84, mkc84, apT84, elk84, zmb84, Try.underlying0, Try.underlying2, Try.underlying3, Try.underlying4, Try.underlying26, Try.underlying32, Try.underlying41, Try.underlying43, Try.underlying64, Try.underlying65, Try.underlying84, SeqQ, BlkQ, LoopQ, BodyQ, FR])
    | (refine WP.seq fun K hK => ?_)
    | (refine WP.region (rvc_sound _ _ (Sm.out ?_)))
    | (refine WP.drawK rfl mixed (by decide +kernel) (Sm.out ?_))
    | (refine And.intro ?_ ?_; focus (first | assumption | omega | decide | trivial | (intro hob; simp only [hob, Bool.not_eq_true', Bool.not_eq_false', Bool.not_false, Bool.not_true, Bool.true_and, Bool.and_true, Bool.false_and, Bool.and_false, true_and, and_true, imp_self, implies_true, and_self]; done) | (intros; (repeat' refine And.intro ?_ ?_) <;> first | assumption | omega | trivial | decide) | (intros; simp only [decide_eq_true_eq, decide_eq_false_iff_not, Bool.and_eq_true, Bool.or_eq_true, Bool.and_eq_false_iff, Bool.or_eq_false_iff, bne_iff_ne, bne_eq_false_iff_eq, Bool.not_eq_true', Bool.not_eq_false', Int.not_lt, Int.not_le] at *; (repeat' refine And.intro ?_ ?_) <;> first | assumption | omega | trivial)))
    | (refine WP.block ?_)
    | (refine WP.cond rfl (fun hc => ?_) (fun hc => ?_) <;> (try simp only [decide_eq_true_eq, decide_eq_false_iff_not, Bool.and_eq_true, Bool.or_eq_true, Bool.and_eq_false_iff, Bool.or_eq_false_iff, Bool.not_eq_true', Bool.not_eq_false', Int.not_lt, Int.not_le, reduceCtorEq, false_and, and_false, false_or, or_false, true_and, and_true, true_or, or_true, not_true_eq_false, not_false_eq_true, beq_iff_eq, beq_eq_false_iff_ne, bne_iff_ne, bne_eq_false_iff_eq, ne_eq, Decidable.not_not] at hc) <;> (try (exact absurd hc (by decide))) <;> (try (exfalso; omega)))
    | (refine WP.skip ?_; simp only [SeqQ, BlkQ, LoopQ, BodyQ, ↓reduceIte, Nat.reduceEqDiff, reduceCtorEq, look, true_and])
    | (refine WP.exit ?_; simp only [SeqQ, BlkQ, LoopQ, BodyQ, ↓reduceIte, Nat.reduceEqDiff, reduceCtorEq, look, true_and])
    | (refine WP.ret (Sm.out ?_))
    | (refine ExG.mk (x := AV.any) (fun hg => absurd hg (by decide)) (Sm.out ?_))
    | (refine Or.inl (ExG.mk (x := AV.any) (fun hg => absurd hg (by decide)) (Sm.out ?_)))
    | (refine Or.inl (And.intro (fun hg => absurd hg (by decide)) (ExG.mk (x := AV.any) (fun hg => absurd hg (by decide)) (Sm.out ?_))))
    | (refine Rt.mk ?_; refine And.intro ?_ ?_ <;> (intro hg; first | exact absurd hg (by decide) | refine Sm.out ?_))
    | (refine Nu.mk ?_; first | ((fail_if_success (have hx := nb1)); intro nb1) | ((fail_if_success (have hx := nb2)); intro nb2) | ((fail_if_success (have hx := nb3)); intro nb3) | ((fail_if_success (have hx := nb4)); intro nb4) | ((fail_if_success (have hx := nb5)); intro nb5) | ((fail_if_success (have hx := nb6)); intro nb6) | ((fail_if_success (have hx := nb7)); intro nb7) | ((fail_if_success (have hx := nb8)); intro nb8) | ((fail_if_success (have hx := nb9)); intro nb9) | ((fail_if_success (have hx := nb10)); intro nb10) | ((fail_if_success (have hx := nb11)); intro nb11) | ((fail_if_success (have hx := nb12)); intro nb12) | ((fail_if_success (have hx := nb13)); intro nb13) | ((fail_if_success (have hx := nb14)); intro nb14))
    | (refine Fr.mk ?_; intro hfr; replace FR := And.intro hfr FR; clear hfr; refine Sm.out ?_)
    | (refine Two.mk ?_ ?_)
    | (refine Cs.mk ?_; intro hcs; first | exact False.elim hcs | (exfalso; omega) | (refine Sm.out ?_))
    | (refine (show VwL _ _ _ from ?_); simp only [VwL, and_true, true_and])
    | exact Vw.same _
    | (refine Vw.row' (by simp only [hget, ↓reduceIte, if_true, if_false, FR]; first | done | rfl) ?_ ?_ ?_ ?_)
    | (refine And.intro (Vw.same _) ?_)
    | (refine And.intro (Vw.row' (by simp only [hget, ↓reduceIte, if_true, if_false, FR]; first | done | rfl) ?_ ?_ ?_ ?_) ?_)
    | go_step
    | omega
    | (simp only [maxLen_eq]; omega)
  (refine OutQ.upd (by simp only [resv, look, loadv, loadn, loadnm, load1, load1m, hget, maxLen_eq, ↓reduceIte, if_true, if_false, ite_true, ite_false, Nat.reduceEqDiff, Nat.reduceAdd, Nat.reduceMul, Nat.reduceLeDiff, Nat.reduceLT, reduceCtorEq, true_and, and_true, and_self, List.length_cons, List.length_nil, List.length_map, List.length_replicate, List.take_succ_cons, List.take_zero, List.drop_zero, List.drop_succ_cons, List.map_cons, List.map_nil, List.getD_cons_zero, List.getD_cons_succ, Nat.zero_add, Nat.add_zero, Nat.le_refl, Option.some.injEq, ne_eq, tyc0, tyc2, tyc3, tyc4, tyc26, tyc32, tyc41, tyc43, tyc64, tyc65, tyc84, FR]) (by simp only [resv, resA, look, loadv, loadn, loadnm, load1, load1m, hget, maxLen_eq, ↓reduceIte, if_true, if_false, ite_true, ite_false, Nat.reduceEqDiff, Nat.reduceAdd, Nat.reduceMul, Nat.reduceLeDiff, Nat.reduceLT, reduceCtorEq, true_and, and_true, and_self, List.length_cons, List.length_nil, List.length_map, List.length_replicate, List.take_succ_cons, List.take_zero, List.drop_zero, List.drop_succ_cons, List.map_cons, List.map_nil, List.getD_cons_zero, List.getD_cons_succ, Nat.zero_add, Nat.add_zero, Nat.le_refl, Option.some.injEq, ne_eq, tyc0, tyc2, tyc3, tyc4, tyc26, tyc32, tyc41, tyc43, tyc64, tyc65, tyc84, FR]; first | done | rfl) (by simp only [hget, ↓reduceIte, if_true, if_false, FR]; first | done | rfl) ?_ <;> first | exact rfl | (simp only [look, loadv, loadn, loadnm, load1, load1m, hget, maxLen_eq, ↓reduceIte, if_true, if_false, ite_true, ite_false, Nat.reduceEqDiff, Nat.reduceAdd, Nat.reduceMul, Nat.reduceLeDiff, Nat.reduceLT, reduceCtorEq, true_and, and_true, and_self, List.length_cons, List.length_nil, List.length_map, List.length_replicate, List.take_succ_cons, List.take_zero, List.drop_zero, List.drop_succ_cons, List.map_cons, List.map_nil, List.getD_cons_zero, List.getD_cons_succ, Nat.zero_add, Nat.add_zero, Nat.le_refl, Option.some.injEq, ne_eq, tyc0, tyc2, tyc3, tyc4, tyc26, tyc32, tyc41, tyc43, tyc64, tyc65, tyc84, FR]; done) | skip)
theorem now_ct (rb lb w k ne now sg st : Nat) : ACt Try.prog 13 [pt rb 0] [(rb, rbM lb w k ne now sg st)] (fun r F' => r = iv .i64 now ∧ F' = [(rb, rbM lb w k ne now sg st)]) := by
  refine ACt.intro Try.func13 rfl (by kernel_rfl) (by simp [Try.ntmps13]) (fun cx => ?_)
  simp only [argE, Try.ntmps13, Try.results13]
  first | (have FRx := FR; clear FRx) | (have FR : ¬ ((1 : Nat) = 0) := Nat.one_ne_zero)
  repeat' first
    | (refine Sm.mk ?_; try simp -dsimp only [rvc, drawF, headN, pureH, maxLen_eq, stp, dvc, calleeOf, gcall, pev, eff, newB, okd, og, ogs, ogo, ogp, slv, bltv, opd, litv, strip, one, both, putE, St.put, look, gdOf, gdv, picka, pickv, pickw, binv, bini, bins, binb, binp, bina, shp, eqCells, unv, convv, nilv, faddv, addp, idxav, idxp, load1, load1m, loadn, loadnm, loadv, hget, hset, hrep, hdel, slicev, List.length_append, bnd, shift1, lenv, IntKind.bits, Nat.reducePow, Int.reducePow, Nat.min_def, extractv, fieldv, indexv, min2v, max2v, mkiv, cellsA, fillA, buildv, stC, oneC, rowMB, intsA, plN, appE, appZ, appC, appNZ, appNC, repA_one, VwL, srcC, srcZ, srcM, fresh_nil, fresh_cons, freshBut_nil, freshBut_cons, intsA_map, ne_eq, true_implies, forall_const, List.length_map, List.map_append, drop_getD0, Int.toNat_natCast, List.length_drop, List.length_take, Int.cast_ofNat_Int, isBoolT, isPtrT, isSliceT, uOk, List.size_toArray, List.length_cons, List.length_nil, List.getElem?_toArray, List.getElem?_cons_zero, List.getElem?_cons_succ, Option.bind_some, Option.map_some, Option.map_none, Option.isSome_some, Nat.reduceAdd, Nat.reduceMul, Nat.reduceSub, Nat.reduceLT, Nat.reduceLeDiff, Nat.reduceEqDiff, Nat.reduceBEq, Nat.reduceDiv, Nat.reduceMod, ↓reduceIte, reduceCtorEq, if_true, if_false, true_and, and_true, ite_true, ite_false, Bool.true_and, Bool.and_true, Bool.not_true, Bool.not_false, Bool.or_false, Bool.false_or, Bool.true_or, Bool.or_true, Bool.false_and, Bool.and_false, List.map_cons, List.map_nil, List.mem_cons, List.not_mem_nil, or_false, false_or, true_or, or_true, forall_eq_or_imp, forall_eq, List.all_cons, List.all_nil, List.append_nil, List.nil_append, List.cons_append, List.getD_cons_zero, List.getD_cons_succ, List.take_succ_cons, List.take_zero, List.drop_succ_cons, List.drop_zero, List.set_cons_zero, List.set_cons_succ, List.replicate_succ, List.replicate_zero, Value.oneCell', Nat.add_zero, Nat.zero_add, Nat.mul_one, Nat.one_mul, Int.toNat_zero, Int.reduceToNat, Int.reduceLT, Int.reduceLE, Nat.le_refl, Int.le_refl, Option.some.injEq, TypeDesc.slice.injEq, TypeDesc.int.injEq, List.length_replicate, TypeDesc.pointer.injEq, exists_eq, exists_eq_left, exists_eq_left', exists_eq', implies_true, beq_true, beq_false, and_self, beq_self_eq_true, bne_self_eq_false, decide_true, decide_false, cond_true, cond_false, Bool.not_eq_true', Bool.not_eq_false', imp_self, Bool.cond_false_right, Bool.cond_true_right, Bool.cond_true_left, Bool.cond_false_left, tyc0, tyc2, zmb2, tyc3, zmb3, tyc4, zmb4, tyc26, mth26_30, mth26_39, mth26_38, con26, zmb26, tyc32, elt32, mkz32, mkc32, apT32, elk32, zmb32, tyc41, zmb41, tyc43, foff43_0, fpart43_0, foff43_1, fpart43_1, fe43, zmb43, bldT43, tyc64, foff64_0, fpart64_0, foff64_1, fpart64_1, foff64_2, fpart64_2, foff64_3, fpart64_3, foff64_4, fpart64_4, zmb64, bldT64, tyc65, zmb65, tyc84, elt84, mkz84, mkc84, apT84, elk84, zmb84, Try.underlying0, Try.underlying2, Try.underlying3, Try.underlying4, Try.underlying26, Try.underlying32, Try.underlying41, Try.underlying43, Try.underlying64, Try.underlying65, Try.underlying84, SeqQ, BlkQ, LoopQ, BodyQ, FR])
    | (refine WP.seq fun K hK => ?_)
    | (refine WP.region (rvc_sound _ _ (Sm.out ?_)))
    | (refine WP.drawK rfl mixed (by decide +kernel) (Sm.out ?_))
    | (refine And.intro ?_ ?_; focus (first | assumption | omega | decide | trivial | (intro hob; simp only [hob, Bool.not_eq_true', Bool.not_eq_false', Bool.not_false, Bool.not_true, Bool.true_and, Bool.and_true, Bool.false_and, Bool.and_false, true_and, and_true, imp_self, implies_true, and_self]; done) | (intros; (repeat' refine And.intro ?_ ?_) <;> first | assumption | omega | trivial | decide) | (intros; simp only [decide_eq_true_eq, decide_eq_false_iff_not, Bool.and_eq_true, Bool.or_eq_true, Bool.and_eq_false_iff, Bool.or_eq_false_iff, bne_iff_ne, bne_eq_false_iff_eq, Bool.not_eq_true', Bool.not_eq_false', Int.not_lt, Int.not_le] at *; (repeat' refine And.intro ?_ ?_) <;> first | assumption | omega | trivial)))
    | (refine WP.block ?_)
    | (refine WP.cond rfl (fun hc => ?_) (fun hc => ?_) <;> (try simp only [decide_eq_true_eq, decide_eq_false_iff_not, Bool.and_eq_true, Bool.or_eq_true, Bool.and_eq_false_iff, Bool.or_eq_false_iff, Bool.not_eq_true', Bool.not_eq_false', Int.not_lt, Int.not_le, reduceCtorEq, false_and, and_false, false_or, or_false, true_and, and_true, true_or, or_true, not_true_eq_false, not_false_eq_true, beq_iff_eq, beq_eq_false_iff_ne, bne_iff_ne, bne_eq_false_iff_eq, ne_eq, Decidable.not_not] at hc) <;> (try (exact absurd hc (by decide))) <;> (try (exfalso; omega)))
    | (refine WP.skip ?_; simp only [SeqQ, BlkQ, LoopQ, BodyQ, ↓reduceIte, Nat.reduceEqDiff, reduceCtorEq, look, true_and])
    | (refine WP.exit ?_; simp only [SeqQ, BlkQ, LoopQ, BodyQ, ↓reduceIte, Nat.reduceEqDiff, reduceCtorEq, look, true_and])
    | (refine WP.ret (Sm.out ?_))
    | (refine ExG.mk (x := AV.any) (fun hg => absurd hg (by decide)) (Sm.out ?_))
    | (refine Or.inl (ExG.mk (x := AV.any) (fun hg => absurd hg (by decide)) (Sm.out ?_)))
    | (refine Or.inl (And.intro (fun hg => absurd hg (by decide)) (ExG.mk (x := AV.any) (fun hg => absurd hg (by decide)) (Sm.out ?_))))
    | (refine Rt.mk ?_; refine And.intro ?_ ?_ <;> (intro hg; first | exact absurd hg (by decide) | refine Sm.out ?_))
    | (refine Nu.mk ?_; first | ((fail_if_success (have hx := nb1)); intro nb1) | ((fail_if_success (have hx := nb2)); intro nb2) | ((fail_if_success (have hx := nb3)); intro nb3) | ((fail_if_success (have hx := nb4)); intro nb4) | ((fail_if_success (have hx := nb5)); intro nb5) | ((fail_if_success (have hx := nb6)); intro nb6) | ((fail_if_success (have hx := nb7)); intro nb7) | ((fail_if_success (have hx := nb8)); intro nb8) | ((fail_if_success (have hx := nb9)); intro nb9) | ((fail_if_success (have hx := nb10)); intro nb10) | ((fail_if_success (have hx := nb11)); intro nb11) | ((fail_if_success (have hx := nb12)); intro nb12) | ((fail_if_success (have hx := nb13)); intro nb13) | ((fail_if_success (have hx := nb14)); intro nb14))
    | (refine Fr.mk ?_; intro hfr; replace FR := And.intro hfr FR; clear hfr; refine Sm.out ?_)
    | (refine Two.mk ?_ ?_)
    | (refine Cs.mk ?_; intro hcs; first | exact False.elim hcs | (exfalso; omega) | (refine Sm.out ?_))
    | (refine (show VwL _ _ _ from ?_); simp only [VwL, and_true, true_and])
    | exact Vw.same _
    | (refine Vw.row' (by simp only [hget, ↓reduceIte, if_true, if_false, FR]; first | done | rfl) ?_ ?_ ?_ ?_)
    | (refine And.intro (Vw.same _) ?_)
    | (refine And.intro (Vw.row' (by simp only [hget, ↓reduceIte, if_true, if_false, FR]; first | done | rfl) ?_ ?_ ?_ ?_) ?_)
    | go_step
    | omega
    | (simp only [maxLen_eq]; omega)
  (refine OutQ.upd (by simp only [resv, look, loadv, loadn, loadnm, load1, load1m, hget, maxLen_eq, ↓reduceIte, if_true, if_false, ite_true, ite_false, Nat.reduceEqDiff, Nat.reduceAdd, Nat.reduceMul, Nat.reduceLeDiff, Nat.reduceLT, reduceCtorEq, true_and, and_true, and_self, List.length_cons, List.length_nil, List.length_map, List.length_replicate, List.take_succ_cons, List.take_zero, List.drop_zero, List.drop_succ_cons, List.map_cons, List.map_nil, List.getD_cons_zero, List.getD_cons_succ, Nat.zero_add, Nat.add_zero, Nat.le_refl, Option.some.injEq, ne_eq, tyc0, tyc2, tyc3, tyc4, tyc26, tyc32, tyc41, tyc43, tyc64, tyc65, tyc84, FR]) (by simp only [resv, resA, look, loadv, loadn, loadnm, load1, load1m, hget, maxLen_eq, ↓reduceIte, if_true, if_false, ite_true, ite_false, Nat.reduceEqDiff, Nat.reduceAdd, Nat.reduceMul, Nat.reduceLeDiff, Nat.reduceLT, reduceCtorEq, true_and, and_true, and_self, List.length_cons, List.length_nil, List.length_map, List.length_replicate, List.take_succ_cons, List.take_zero, List.drop_zero, List.drop_succ_cons, List.map_cons, List.map_nil, List.getD_cons_zero, List.getD_cons_succ, Nat.zero_add, Nat.add_zero, Nat.le_refl, Option.some.injEq, ne_eq, tyc0, tyc2, tyc3, tyc4, tyc26, tyc32, tyc41, tyc43, tyc64, tyc65, tyc84, FR]; first | done | rfl) (by simp only [hget, ↓reduceIte, if_true, if_false, FR]; first | done | rfl) ?_ <;> first | exact rfl | (simp only [look, loadv, loadn, loadnm, load1, load1m, hget, maxLen_eq, ↓reduceIte, if_true, if_false, ite_true, ite_false, Nat.reduceEqDiff, Nat.reduceAdd, Nat.reduceMul, Nat.reduceLeDiff, Nat.reduceLT, reduceCtorEq, true_and, and_true, and_self, List.length_cons, List.length_nil, List.length_map, List.length_replicate, List.take_succ_cons, List.take_zero, List.drop_zero, List.drop_succ_cons, List.map_cons, List.map_nil, List.getD_cons_zero, List.getD_cons_succ, Nat.zero_add, Nat.add_zero, Nat.le_refl, Option.some.injEq, ne_eq, tyc0, tyc2, tyc3, tyc4, tyc26, tyc32, tyc41, tyc43, tyc64, tyc65, tyc84, FR]; done) | skip)
end Go.Proofs.Ytbnkmhlnoaebcaa
