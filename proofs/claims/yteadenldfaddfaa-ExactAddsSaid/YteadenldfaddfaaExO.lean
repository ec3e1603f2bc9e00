/-
  The walk of the law ExactAdds.
-/
import Derived.Test.YteadenldfaddfaaExN
namespace Go.Proofs.Yteadenldfaddfaa
open Go
set_option linter.unusedVariables false
set_option linter.unusedSimpArgs false

theorem wide_of (h l : Nat) (hl : l < 18446744073709551616) : (.agg [nu h, nu l] : AV) = wideA (h * 18446744073709551616 + l) := by
  unfold wideA
  rw [(hilo h l hl).1, (hilo h l hl).2]
theorem bitsW_ct (a : Nat) (ha : a < 340282366920938463463374607431768211456) : ACt Try.prog 11 [wideA a] [] (Fn (.sl 128 (bl (bitsN a 128)))) := by
  have := bits_ct (a / 18446744073709551616) (a % 18446744073709551616) (by omega) (by omega)
  rw [show a / 18446744073709551616 * 18446744073709551616 + a % 18446744073709551616 = a by omega] at this
  exact this
theorem bits_val (a : Nat) (ha : a < 340282366920938463463374607431768211456) : valB (bitsN a 128) = a := by
  have p : (2 : Nat) ^ 128 = 340282366920938463463374607431768211456 := by decide
  rw [valB_bitsN, p, Nat.mod_eq_of_lt ha]
theorem bits_take (a : Nat) : (bl (bitsN a 128)).take 64 = bl (bitsN a 64) := by
  unfold bitsN
  rw [← List.map_take, ← List.map_take, List.take_range]
  rfl
theorem minusF_len (x y : List Bool) : (minusF x y).length = x.length := minusG_len x y _ 0 0
theorem isA_ct (n : Nat) (l : List Bool) (k : Nat) (hn : n < 340282366920938463463374607431768211456) (hk : l.length = k) (hl : k ≤ 1000000) (hv : valB l = n) : ACt Try.prog 19 [wideA n, iv .i64 0, .sl k (bl l)] [] (Fn (bv true)) := by
  have := is_ct n l k hk hl hv
  unfold wideV at this
  rw [hiV_in hn, loV_in hn, codeV_in hn] at this
  exact this

set_option maxRecDepth 8000 in
set_option maxHeartbeats 4000000 in
theorem adds_ct (a b n : Nat) (ha : a < 340282366920938463463374607431768211456) (hb : b < 340282366920938463463374607431768211456) (hn : n < 18446744073709551616) :
    ACt Try.prog 6 [wideA a, wideA b, nu n] [] (fun r _ => r = bv true) := by
  refine ACt.intro Try.func6 rfl (by kernel_rfl) (by simp [Try.ntmps6]) (fun cx => ?_)
  simp only [argE, Try.ntmps6, Try.results6]
  have s1 := bitsW_ct a ha
  have s2 := bitsW_ct b hb
  have s3 := bits0_ct n hn
  have v1 := bits_val a ha
  have v2 := bits_val b hb
  have v3 := bits_val n (by omega)
  have l1 := bitsN_len a 128
  have l2 := bitsN_len b 128
  have l3 := bitsN_len n 128
  have l4 := bitsN_len a 64
  have v4 : valB (bitsN a 64) = a % 18446744073709551616 := valB_bitsN a 64
  have r1 := rcmp_ct (bitsN a 128) (bitsN b 128) 128 128 l1 l2 (by omega) (by omega)
  rw [v1, v2] at r1
  have d1 := compare_ct a b
  have w1 := add2_ct (a / 18446744073709551616) (a % 18446744073709551616) (b / 18446744073709551616) (b % 18446744073709551616) (by omega) (by omega) (by omega) (by omega) (a + b) (by omega)
  have w2 := more_ct (a / 18446744073709551616) (a % 18446744073709551616) n (by omega) (by omega) hn (a * n) (by rw [show a / 18446744073709551616 * 18446744073709551616 + a % 18446744073709551616 = a by omega])
  have w3 := times_ct (a % 18446744073709551616) n (by omega) hn
  have p1 := plus2_ct (bitsN a 128) (bitsN b 128) 128 128 l1 l2 (by omega) (by omega)
  have p1l := plusF_len (bitsN a 128) (bitsN b 128)
  have i1 := is_ct (a + b) (plusF (bitsN a 128) (bitsN b 128)) _ rfl (by omega) (by rw [plusF_val, v1, v2])
  have p2 := rtimes2_ct (bitsN a 128) (bitsN n 128) 128 128 l1 l3 (by omega) (by omega)
  have p2l := timesA_len (bitsN a 128) (bitsN n 128)
  have i2 := is_ct (a * n) (timesA (bitsN a 128) (bitsN n 128)) _ rfl (by omega) (by rw [timesA_val, v1, v3])
  have p3 := rtimes2_ct (bitsN a 64) (bitsN n 128) 64 128 l4 l3 (by omega) (by omega)
  have p3l := timesA_len (bitsN a 64) (bitsN n 128)
  have hsm : a % 18446744073709551616 * n ≤ 18446744073709551615 * 18446744073709551615 := Nat.mul_le_mul (by omega) (by omega)
  have i3 := isA_ct (a % 18446744073709551616 * n) (timesA (bitsN a 64) (bitsN n 128)) _ (by omega) rfl (by omega) (by rw [timesA_val, v4, v3])
  have e1 := bits_take a
  obtain ⟨V, hV⟩ : ∃ V, V = cmpN a b := ⟨_, rfl⟩
  rw [← hV] at r1 d1
  have z1 : (V != V) = false := bne_self_eq_false _
  have z0 : ((0 : Int) == 0) = true := by decide
  have z3 : ((3 : Int) == 3) = true := by decide
  obtain ⟨A, hA⟩ : ∃ A, A = bitsN a 128 := ⟨_, rfl⟩
  obtain ⟨B, hB⟩ : ∃ B, B = bitsN b 128 := ⟨_, rfl⟩
  obtain ⟨C, hC⟩ : ∃ C, C = bitsN n 128 := ⟨_, rfl⟩
  obtain ⟨D, hD⟩ : ∃ D, D = bitsN a 64 := ⟨_, rfl⟩
  rw [← hA] at s1 r1 p1 i1 p2 i2 e1 v1 l1
  rw [← hB] at s2 r1 p1 i1 v2 l2
  rw [← hC] at s3 p2 i2 p3 i3
  rw [← hD] at e1 p3 i3
  obtain ⟨S, hS⟩ : ∃ S, S = a + b := ⟨_, rfl⟩
  obtain ⟨P, hP⟩ : ∃ P, P = a * n := ⟨_, rfl⟩
  obtain ⟨Q, hQ⟩ : ∃ Q, Q = a % 18446744073709551616 * n := ⟨_, rfl⟩
  rw [← hS] at w1 i1
  rw [← hP] at w2 i2
  rw [← hQ] at w3 i3
  clear hsm p1l p2l p3l v3 v4 l3 l4
  obtain ⟨p, q, e, w4, o1, o2⟩ : ∃ (p q : Nat) (e : Int), ACt Try.prog 22 [wideA a, wideA b] [] (Fn (.tup [.agg [nu p, nu q], iv .i64 e])) ∧ (a < b → p = 0 ∧ q = 0 ∧ e = 3) ∧ (¬ a < b → p = (a - b) / 18446744073709551616 ∧ q = (a - b) % 18446744073709551616 ∧ e = 0) := by
    by_cases hlt : a < b
    · exact ⟨0, 0, 3, less_bad (a / 18446744073709551616) (a % 18446744073709551616) (b / 18446744073709551616) (b % 18446744073709551616) (by omega) (by omega) (by omega) (by omega) (by omega), fun _ => ⟨rfl, rfl, rfl⟩, fun h => absurd hlt h⟩
    · exact ⟨_, _, 0, less_ct (a / 18446744073709551616) (a % 18446744073709551616) (b / 18446744073709551616) (b % 18446744073709551616) (by omega) (by omega) (by omega) (by omega) (a - b) (by omega), fun h => absurd h hlt, fun _ => ⟨rfl, rfl, rfl⟩⟩
  first | (have FRx := FR; clear FRx) | (have FR : ¬ ((1 : Nat) = 0) := Nat.one_ne_zero)
  repeat' first
    | (refine Sm.mk ?_; try simp -dsimp only [rvc, drawF, headN, pureH, maxLen_eq, stp, dvc, calleeOf, gcall, pev, eff, newB, okd, og, ogs, ogo, ogp, slv, bltv, opd, litv, strip, one, both, putE, St.put, look, gdOf, gdv, picka, pickv, pickw, binv, bini, bins, binb, binp, bina, shp, eqCells, unv, convv, nilv, faddv, addp, idxav, idxp, load1, load1m, loadn, loadnm, loadv, hget, hset, hrep, hdel, slicev, List.length_append, bnd, shift1, lenv, IntKind.bits, Nat.reducePow, Int.reducePow, Nat.min_def, extractv, fieldv, indexv, min2v, max2v, mkiv, cellsA, fillA, buildv, stC, oneC, rowMB, intsA, plN, appE, appZ, appC, appNZ, appNC, repA_one, VwL, srcC, srcZ, srcM, fresh_nil, fresh_cons, freshBut_nil, freshBut_cons, intsA_map, ne_eq, true_implies, forall_const, List.length_map, List.map_append, drop_getD0, Int.toNat_natCast, List.length_drop, List.length_take, Int.cast_ofNat_Int, isBoolT, isPtrT, isSliceT, uOk, List.size_toArray, List.length_cons, List.length_nil, List.getElem?_toArray, List.getElem?_cons_zero, List.getElem?_cons_succ, Option.bind_some, Option.map_some, Option.map_none, Option.isSome_some, Nat.reduceAdd, Nat.reduceMul, Nat.reduceSub, Nat.reduceLT, Nat.reduceLeDiff, Nat.reduceEqDiff, Nat.reduceBEq, Nat.reduceDiv, Nat.reduceMod, ↓reduceIte, reduceCtorEq, if_true, if_false, true_and, and_true, ite_true, ite_false, Bool.true_and, Bool.and_true, Bool.not_true, Bool.not_false, Bool.or_false, Bool.false_or, Bool.true_or, Bool.or_true, Bool.false_and, Bool.and_false, List.map_cons, List.map_nil, List.mem_cons, List.not_mem_nil, or_false, false_or, true_or, or_true, forall_eq_or_imp, forall_eq, List.all_cons, List.all_nil, List.append_nil, List.nil_append, List.cons_append, List.getD_cons_zero, List.getD_cons_succ, List.take_succ_cons, List.take_zero, List.drop_succ_cons, List.drop_zero, List.set_cons_zero, List.set_cons_succ, List.replicate_succ, List.replicate_zero, Value.oneCell', Nat.add_zero, Nat.zero_add, Nat.mul_one, Nat.one_mul, Int.toNat_zero, Int.reduceToNat, Int.reduceLT, Int.reduceLE, Nat.le_refl, Int.le_refl, Option.some.injEq, TypeDesc.slice.injEq, TypeDesc.int.injEq, List.length_replicate, TypeDesc.pointer.injEq, exists_eq, exists_eq_left, exists_eq_left', exists_eq', implies_true, beq_true, beq_false, and_self, beq_self_eq_true, bne_self_eq_false, decide_true, decide_false, cond_true, cond_false, Bool.not_eq_true', Bool.not_eq_false', imp_self, Bool.cond_false_right, Bool.cond_true_right, Bool.cond_true_left, Bool.cond_false_left, tyc0, tyc3, zmb3, tyc4, zmb4, tyc22, zmb22, tyc24, zmb24, tyc27, elt27, mkz27, mkc27, apT27, elk27, zmb27, tyc31, foff31_0, fpart31_0, foff31_1, fpart31_1, fe31, zmb31, bldT31, tyc43, Try.underlying0, Try.underlying3, Try.underlying4, Try.underlying22, Try.underlying24, Try.underlying27, Try.underlying31, Try.underlying43, SeqQ, BlkQ, LoopQ, BodyQ, z0, z1, e1, FR])
    | (refine CallV.fn (awake_ct) (Sm.out ?_))
    | (refine ExF.mk (awake_ct) (Sm.out ?_))
    | (refine ExG.mk (fun hg => awake_ct) (Sm.out ?_))
    | (refine Or.inl (ExG.mk (fun hg => awake_ct) (Sm.out ?_)))
    | (refine Or.inl (And.intro ?_ (ExG.mk (fun hg => awake_ct) (Sm.out ?_))); focus (first | omega | assumption | decide | trivial | (intros; (repeat' refine And.intro ?_ ?_) <;> first | assumption | omega | trivial | decide) | (intros; simp only [decide_eq_true_eq, decide_eq_false_iff_not, Bool.and_eq_true, Bool.or_eq_true, Bool.and_eq_false_iff, Bool.or_eq_false_iff, bne_iff_ne, bne_eq_false_iff_eq, Int.not_lt, Int.not_le] at *; (repeat' refine And.intro ?_ ?_) <;> first | assumption | omega | trivial)))
    | (refine CallV.fn (s1) (Sm.out ?_))
    | (refine ExF.mk (s1) (Sm.out ?_))
    | (refine ExG.mk (fun hg => s1) (Sm.out ?_))
    | (refine Or.inl (ExG.mk (fun hg => s1) (Sm.out ?_)))
    | (refine Or.inl (And.intro ?_ (ExG.mk (fun hg => s1) (Sm.out ?_))); focus (first | omega | assumption | decide | trivial | (intros; (repeat' refine And.intro ?_ ?_) <;> first | assumption | omega | trivial | decide) | (intros; simp only [decide_eq_true_eq, decide_eq_false_iff_not, Bool.and_eq_true, Bool.or_eq_true, Bool.and_eq_false_iff, Bool.or_eq_false_iff, bne_iff_ne, bne_eq_false_iff_eq, Int.not_lt, Int.not_le] at *; (repeat' refine And.intro ?_ ?_) <;> first | assumption | omega | trivial)))
    | (refine CallV.fn (s2) (Sm.out ?_))
    | (refine ExF.mk (s2) (Sm.out ?_))
    | (refine ExG.mk (fun hg => s2) (Sm.out ?_))
    | (refine Or.inl (ExG.mk (fun hg => s2) (Sm.out ?_)))
    | (refine Or.inl (And.intro ?_ (ExG.mk (fun hg => s2) (Sm.out ?_))); focus (first | omega | assumption | decide | trivial | (intros; (repeat' refine And.intro ?_ ?_) <;> first | assumption | omega | trivial | decide) | (intros; simp only [decide_eq_true_eq, decide_eq_false_iff_not, Bool.and_eq_true, Bool.or_eq_true, Bool.and_eq_false_iff, Bool.or_eq_false_iff, bne_iff_ne, bne_eq_false_iff_eq, Int.not_lt, Int.not_le] at *; (repeat' refine And.intro ?_ ?_) <;> first | assumption | omega | trivial)))
    | (refine CallV.fn (s3) (Sm.out ?_))
    | (refine ExF.mk (s3) (Sm.out ?_))
    | (refine ExG.mk (fun hg => s3) (Sm.out ?_))
    | (refine Or.inl (ExG.mk (fun hg => s3) (Sm.out ?_)))
    | (refine Or.inl (And.intro ?_ (ExG.mk (fun hg => s3) (Sm.out ?_))); focus (first | omega | assumption | decide | trivial | (intros; (repeat' refine And.intro ?_ ?_) <;> first | assumption | omega | trivial | decide) | (intros; simp only [decide_eq_true_eq, decide_eq_false_iff_not, Bool.and_eq_true, Bool.or_eq_true, Bool.and_eq_false_iff, Bool.or_eq_false_iff, bne_iff_ne, bne_eq_false_iff_eq, Int.not_lt, Int.not_le] at *; (repeat' refine And.intro ?_ ?_) <;> first | assumption | omega | trivial)))
    | (refine CallV.fn (r1) (Sm.out ?_))
    | (refine ExF.mk (r1) (Sm.out ?_))
    | (refine ExG.mk (fun hg => r1) (Sm.out ?_))
    | (refine Or.inl (ExG.mk (fun hg => r1) (Sm.out ?_)))
    | (refine Or.inl (And.intro ?_ (ExG.mk (fun hg => r1) (Sm.out ?_))); focus (first | omega | assumption | decide | trivial | (intros; (repeat' refine And.intro ?_ ?_) <;> first | assumption | omega | trivial | decide) | (intros; simp only [decide_eq_true_eq, decide_eq_false_iff_not, Bool.and_eq_true, Bool.or_eq_true, Bool.and_eq_false_iff, Bool.or_eq_false_iff, bne_iff_ne, bne_eq_false_iff_eq, Int.not_lt, Int.not_le] at *; (repeat' refine And.intro ?_ ?_) <;> first | assumption | omega | trivial)))
    | (refine CallV.fn (d1) (Sm.out ?_))
    | (refine ExF.mk (d1) (Sm.out ?_))
    | (refine ExG.mk (fun hg => d1) (Sm.out ?_))
    | (refine Or.inl (ExG.mk (fun hg => d1) (Sm.out ?_)))
    | (refine Or.inl (And.intro ?_ (ExG.mk (fun hg => d1) (Sm.out ?_))); focus (first | omega | assumption | decide | trivial | (intros; (repeat' refine And.intro ?_ ?_) <;> first | assumption | omega | trivial | decide) | (intros; simp only [decide_eq_true_eq, decide_eq_false_iff_not, Bool.and_eq_true, Bool.or_eq_true, Bool.and_eq_false_iff, Bool.or_eq_false_iff, bne_iff_ne, bne_eq_false_iff_eq, Int.not_lt, Int.not_le] at *; (repeat' refine And.intro ?_ ?_) <;> first | assumption | omega | trivial)))
    | (refine CallV.fn (w1) (Sm.out ?_))
    | (refine ExF.mk (w1) (Sm.out ?_))
    | (refine ExG.mk (fun hg => w1) (Sm.out ?_))
    | (refine Or.inl (ExG.mk (fun hg => w1) (Sm.out ?_)))
    | (refine Or.inl (And.intro ?_ (ExG.mk (fun hg => w1) (Sm.out ?_))); focus (first | omega | assumption | decide | trivial | (intros; (repeat' refine And.intro ?_ ?_) <;> first | assumption | omega | trivial | decide) | (intros; simp only [decide_eq_true_eq, decide_eq_false_iff_not, Bool.and_eq_true, Bool.or_eq_true, Bool.and_eq_false_iff, Bool.or_eq_false_iff, bne_iff_ne, bne_eq_false_iff_eq, Int.not_lt, Int.not_le] at *; (repeat' refine And.intro ?_ ?_) <;> first | assumption | omega | trivial)))
    | (refine CallV.fn (w2) (Sm.out ?_))
    | (refine ExF.mk (w2) (Sm.out ?_))
    | (refine ExG.mk (fun hg => w2) (Sm.out ?_))
    | (refine Or.inl (ExG.mk (fun hg => w2) (Sm.out ?_)))
    | (refine Or.inl (And.intro ?_ (ExG.mk (fun hg => w2) (Sm.out ?_))); focus (first | omega | assumption | decide | trivial | (intros; (repeat' refine And.intro ?_ ?_) <;> first | assumption | omega | trivial | decide) | (intros; simp only [decide_eq_true_eq, decide_eq_false_iff_not, Bool.and_eq_true, Bool.or_eq_true, Bool.and_eq_false_iff, Bool.or_eq_false_iff, bne_iff_ne, bne_eq_false_iff_eq, Int.not_lt, Int.not_le] at *; (repeat' refine And.intro ?_ ?_) <;> first | assumption | omega | trivial)))
    | (refine CallV.fn (w3) (Sm.out ?_))
    | (refine ExF.mk (w3) (Sm.out ?_))
    | (refine ExG.mk (fun hg => w3) (Sm.out ?_))
    | (refine Or.inl (ExG.mk (fun hg => w3) (Sm.out ?_)))
    | (refine Or.inl (And.intro ?_ (ExG.mk (fun hg => w3) (Sm.out ?_))); focus (first | omega | assumption | decide | trivial | (intros; (repeat' refine And.intro ?_ ?_) <;> first | assumption | omega | trivial | decide) | (intros; simp only [decide_eq_true_eq, decide_eq_false_iff_not, Bool.and_eq_true, Bool.or_eq_true, Bool.and_eq_false_iff, Bool.or_eq_false_iff, bne_iff_ne, bne_eq_false_iff_eq, Int.not_lt, Int.not_le] at *; (repeat' refine And.intro ?_ ?_) <;> first | assumption | omega | trivial)))
    | (refine CallV.fn (w4) (Sm.out ?_))
    | (refine ExF.mk (w4) (Sm.out ?_))
    | (refine ExG.mk (fun hg => w4) (Sm.out ?_))
    | (refine Or.inl (ExG.mk (fun hg => w4) (Sm.out ?_)))
    | (refine Or.inl (And.intro ?_ (ExG.mk (fun hg => w4) (Sm.out ?_))); focus (first | omega | assumption | decide | trivial | (intros; (repeat' refine And.intro ?_ ?_) <;> first | assumption | omega | trivial | decide) | (intros; simp only [decide_eq_true_eq, decide_eq_false_iff_not, Bool.and_eq_true, Bool.or_eq_true, Bool.and_eq_false_iff, Bool.or_eq_false_iff, bne_iff_ne, bne_eq_false_iff_eq, Int.not_lt, Int.not_le] at *; (repeat' refine And.intro ?_ ?_) <;> first | assumption | omega | trivial)))
    | (refine CallV.fn (p1) (Sm.out ?_))
    | (refine ExF.mk (p1) (Sm.out ?_))
    | (refine ExG.mk (fun hg => p1) (Sm.out ?_))
    | (refine Or.inl (ExG.mk (fun hg => p1) (Sm.out ?_)))
    | (refine Or.inl (And.intro ?_ (ExG.mk (fun hg => p1) (Sm.out ?_))); focus (first | omega | assumption | decide | trivial | (intros; (repeat' refine And.intro ?_ ?_) <;> first | assumption | omega | trivial | decide) | (intros; simp only [decide_eq_true_eq, decide_eq_false_iff_not, Bool.and_eq_true, Bool.or_eq_true, Bool.and_eq_false_iff, Bool.or_eq_false_iff, bne_iff_ne, bne_eq_false_iff_eq, Int.not_lt, Int.not_le] at *; (repeat' refine And.intro ?_ ?_) <;> first | assumption | omega | trivial)))
    | (refine CallV.fn (i1) (Sm.out ?_))
    | (refine ExF.mk (i1) (Sm.out ?_))
    | (refine ExG.mk (fun hg => i1) (Sm.out ?_))
    | (refine Or.inl (ExG.mk (fun hg => i1) (Sm.out ?_)))
    | (refine Or.inl (And.intro ?_ (ExG.mk (fun hg => i1) (Sm.out ?_))); focus (first | omega | assumption | decide | trivial | (intros; (repeat' refine And.intro ?_ ?_) <;> first | assumption | omega | trivial | decide) | (intros; simp only [decide_eq_true_eq, decide_eq_false_iff_not, Bool.and_eq_true, Bool.or_eq_true, Bool.and_eq_false_iff, Bool.or_eq_false_iff, bne_iff_ne, bne_eq_false_iff_eq, Int.not_lt, Int.not_le] at *; (repeat' refine And.intro ?_ ?_) <;> first | assumption | omega | trivial)))
    | (refine CallV.fn (p2) (Sm.out ?_))
    | (refine ExF.mk (p2) (Sm.out ?_))
    | (refine ExG.mk (fun hg => p2) (Sm.out ?_))
    | (refine Or.inl (ExG.mk (fun hg => p2) (Sm.out ?_)))
    | (refine Or.inl (And.intro ?_ (ExG.mk (fun hg => p2) (Sm.out ?_))); focus (first | omega | assumption | decide | trivial | (intros; (repeat' refine And.intro ?_ ?_) <;> first | assumption | omega | trivial | decide) | (intros; simp only [decide_eq_true_eq, decide_eq_false_iff_not, Bool.and_eq_true, Bool.or_eq_true, Bool.and_eq_false_iff, Bool.or_eq_false_iff, bne_iff_ne, bne_eq_false_iff_eq, Int.not_lt, Int.not_le] at *; (repeat' refine And.intro ?_ ?_) <;> first | assumption | omega | trivial)))
    | (refine CallV.fn (i2) (Sm.out ?_))
    | (refine ExF.mk (i2) (Sm.out ?_))
    | (refine ExG.mk (fun hg => i2) (Sm.out ?_))
    | (refine Or.inl (ExG.mk (fun hg => i2) (Sm.out ?_)))
    | (refine Or.inl (And.intro ?_ (ExG.mk (fun hg => i2) (Sm.out ?_))); focus (first | omega | assumption | decide | trivial | (intros; (repeat' refine And.intro ?_ ?_) <;> first | assumption | omega | trivial | decide) | (intros; simp only [decide_eq_true_eq, decide_eq_false_iff_not, Bool.and_eq_true, Bool.or_eq_true, Bool.and_eq_false_iff, Bool.or_eq_false_iff, bne_iff_ne, bne_eq_false_iff_eq, Int.not_lt, Int.not_le] at *; (repeat' refine And.intro ?_ ?_) <;> first | assumption | omega | trivial)))
    | (refine CallV.fn (p3) (Sm.out ?_))
    | (refine ExF.mk (p3) (Sm.out ?_))
    | (refine ExG.mk (fun hg => p3) (Sm.out ?_))
    | (refine Or.inl (ExG.mk (fun hg => p3) (Sm.out ?_)))
    | (refine Or.inl (And.intro ?_ (ExG.mk (fun hg => p3) (Sm.out ?_))); focus (first | omega | assumption | decide | trivial | (intros; (repeat' refine And.intro ?_ ?_) <;> first | assumption | omega | trivial | decide) | (intros; simp only [decide_eq_true_eq, decide_eq_false_iff_not, Bool.and_eq_true, Bool.or_eq_true, Bool.and_eq_false_iff, Bool.or_eq_false_iff, bne_iff_ne, bne_eq_false_iff_eq, Int.not_lt, Int.not_le] at *; (repeat' refine And.intro ?_ ?_) <;> first | assumption | omega | trivial)))
    | (refine CallV.fn (i3) (Sm.out ?_))
    | (refine ExF.mk (i3) (Sm.out ?_))
    | (refine ExG.mk (fun hg => i3) (Sm.out ?_))
    | (refine Or.inl (ExG.mk (fun hg => i3) (Sm.out ?_)))
    | (refine Or.inl (And.intro ?_ (ExG.mk (fun hg => i3) (Sm.out ?_))); focus (first | omega | assumption | decide | trivial | (intros; (repeat' refine And.intro ?_ ?_) <;> first | assumption | omega | trivial | decide) | (intros; simp only [decide_eq_true_eq, decide_eq_false_iff_not, Bool.and_eq_true, Bool.or_eq_true, Bool.and_eq_false_iff, Bool.or_eq_false_iff, bne_iff_ne, bne_eq_false_iff_eq, Int.not_lt, Int.not_le] at *; (repeat' refine And.intro ?_ ?_) <;> first | assumption | omega | trivial)))
    | (refine WP.seq fun K hK => ?_)
    | ((fail_if_success (show WP _ _ _ (.region 11 _ _) _ _)); refine WP.region (rvc_sound _ _ (Sm.out ?_)))
    | ((fail_if_success (show WP _ _ _ (.region 11 _ _) _ _)); refine WP.drawK rfl mixed (by decide +kernel) (Sm.out ?_))
    | (refine And.intro ?_ ?_; focus (first | assumption | omega | decide | trivial | (intro hob; simp only [hob, Bool.not_eq_true', Bool.not_eq_false', Bool.not_false, Bool.not_true, Bool.true_and, Bool.and_true, Bool.false_and, Bool.and_false, true_and, and_true, imp_self, implies_true, and_self]; done) | (intros; (repeat' refine And.intro ?_ ?_) <;> first | assumption | omega | trivial | decide) | (intros; simp only [decide_eq_true_eq, decide_eq_false_iff_not, Bool.and_eq_true, Bool.or_eq_true, Bool.and_eq_false_iff, Bool.or_eq_false_iff, bne_iff_ne, bne_eq_false_iff_eq, Int.not_lt, Int.not_le] at *; (repeat' refine And.intro ?_ ?_) <;> first | assumption | omega | trivial)))
    | (refine WP.block ?_)
    | (refine WP.cond rfl (fun hc => ?_) (fun hc => ?_) <;> (try simp only [decide_eq_true_eq, decide_eq_false_iff_not, Bool.and_eq_true, Bool.or_eq_true, Bool.and_eq_false_iff, Bool.or_eq_false_iff, Bool.not_eq_true', Bool.not_eq_false', Int.not_lt, Int.not_le, reduceCtorEq, false_and, and_false, false_or, or_false, true_and, and_true, true_or, or_true, not_true_eq_false, not_false_eq_true, beq_iff_eq, beq_eq_false_iff_ne, bne_iff_ne, bne_eq_false_iff_eq, ne_eq, Decidable.not_not] at hc) <;> (try (exact absurd hc (by decide))) <;> (try (exfalso; omega)))
    | (refine WP.skip ?_; simp only [SeqQ, BlkQ, LoopQ, BodyQ, ↓reduceIte, Nat.reduceEqDiff, reduceCtorEq, look, true_and])
    | (refine WP.exit ?_; simp only [SeqQ, BlkQ, LoopQ, BodyQ, ↓reduceIte, Nat.reduceEqDiff, reduceCtorEq, look, true_and])
    | (refine WP.ret (Sm.out ?_))
    | (refine ExG.mk (x := AV.any) (fun hg => absurd hg (by decide)) (Sm.out ?_))
    | (refine Or.inl (ExG.mk (x := AV.any) (fun hg => absurd hg (by decide)) (Sm.out ?_)))
    | (refine Or.inl (And.intro (fun hg => absurd hg (by decide)) (ExG.mk (x := AV.any) (fun hg => absurd hg (by decide)) (Sm.out ?_))))
    | (refine Rt.mk ?_; refine And.intro ?_ ?_ <;> (intro hg; first | exact absurd hg (by decide) | refine Sm.out ?_))
    | (refine Nu.mk ?_; first | ((fail_if_success (have hx := nb1)); intro nb1) | ((fail_if_success (have hx := nb2)); intro nb2) | ((fail_if_success (have hx := nb3)); intro nb3) | ((fail_if_success (have hx := nb4)); intro nb4) | ((fail_if_success (have hx := nb5)); intro nb5) | ((fail_if_success (have hx := nb6)); intro nb6) | ((fail_if_success (have hx := nb7)); intro nb7) | ((fail_if_success (have hx := nb8)); intro nb8) | ((fail_if_success (have hx := nb9)); intro nb9) | ((fail_if_success (have hx := nb10)); intro nb10) | ((fail_if_success (have hx := nb11)); intro nb11) | ((fail_if_success (have hx := nb12)); intro nb12) | ((fail_if_success (have hx := nb13)); intro nb13) | ((fail_if_success (have hx := nb14)); intro nb14) | ((fail_if_success (have hx := nb15)); intro nb15) | ((fail_if_success (have hx := nb16)); intro nb16) | ((fail_if_success (have hx := nb17)); intro nb17) | ((fail_if_success (have hx := nb18)); intro nb18) | ((fail_if_success (have hx := nb19)); intro nb19) | ((fail_if_success (have hx := nb20)); intro nb20) | ((fail_if_success (have hx := nb21)); intro nb21) | ((fail_if_success (have hx := nb22)); intro nb22) | ((fail_if_success (have hx := nb23)); intro nb23) | ((fail_if_success (have hx := nb24)); intro nb24) | ((fail_if_success (have hx := nb25)); intro nb25) | ((fail_if_success (have hx := nb26)); intro nb26) | ((fail_if_success (have hx := nb27)); intro nb27) | ((fail_if_success (have hx := nb28)); intro nb28) | ((fail_if_success (have hx := nb29)); intro nb29) | ((fail_if_success (have hx := nb30)); intro nb30))
    | (refine Fr.mk ?_; intro hfr; replace FR := And.intro hfr FR; clear hfr; refine Sm.out ?_)
    | (refine Two.mk ?_ ?_)
    | (refine Cs.mk ?_; intro hcs; first | exact False.elim hcs | (exfalso; omega) | (refine Sm.out ?_))
    | (refine (show VwL _ _ _ from ?_); simp only [VwL, and_true, true_and])
    | exact Vw.same _
    | (refine Vw.row' (by simp only [hget, ↓reduceIte, if_true, if_false, FR, z0, z1, e1]; first | done | rfl) ?_ ?_ ?_ ?_)
    | (refine And.intro (Vw.same _) ?_)
    | (refine And.intro (Vw.row' (by simp only [hget, ↓reduceIte, if_true, if_false, FR, z0, z1, e1]; first | done | rfl) ?_ ?_ ?_ ?_) ?_)
    | go_step
    | omega
    | (simp only [maxLen_eq]; omega)
  by_cases hlt : a < b
  · have k1 : decide (V < 0) = true := by rw [hV]; unfold cmpN; rw [if_pos hlt]; rfl
    obtain ⟨rfl, rfl, rfl⟩ := o1 hlt
    have z : (((0 : Nat) : Int) == 0) = true := by decide
    first | (have FRx := FR; clear FRx) | (have FR : ¬ ((1 : Nat) = 0) := Nat.one_ne_zero)
    repeat' first
      | (refine Sm.mk ?_; try simp -dsimp only [rvc, drawF, headN, pureH, maxLen_eq, stp, dvc, calleeOf, gcall, pev, eff, newB, okd, og, ogs, ogo, ogp, slv, bltv, opd, litv, strip, one, both, putE, St.put, look, gdOf, gdv, picka, pickv, pickw, binv, bini, bins, binb, binp, bina, shp, eqCells, unv, convv, nilv, faddv, addp, idxav, idxp, load1, load1m, loadn, loadnm, loadv, hget, hset, hrep, hdel, slicev, List.length_append, bnd, shift1, lenv, IntKind.bits, Nat.reducePow, Int.reducePow, Nat.min_def, extractv, fieldv, indexv, min2v, max2v, mkiv, cellsA, fillA, buildv, stC, oneC, rowMB, intsA, plN, appE, appZ, appC, appNZ, appNC, repA_one, VwL, srcC, srcZ, srcM, fresh_nil, fresh_cons, freshBut_nil, freshBut_cons, intsA_map, ne_eq, true_implies, forall_const, List.length_map, List.map_append, drop_getD0, Int.toNat_natCast, List.length_drop, List.length_take, Int.cast_ofNat_Int, isBoolT, isPtrT, isSliceT, uOk, List.size_toArray, List.length_cons, List.length_nil, List.getElem?_toArray, List.getElem?_cons_zero, List.getElem?_cons_succ, Option.bind_some, Option.map_some, Option.map_none, Option.isSome_some, Nat.reduceAdd, Nat.reduceMul, Nat.reduceSub, Nat.reduceLT, Nat.reduceLeDiff, Nat.reduceEqDiff, Nat.reduceBEq, Nat.reduceDiv, Nat.reduceMod, ↓reduceIte, reduceCtorEq, if_true, if_false, true_and, and_true, ite_true, ite_false, Bool.true_and, Bool.and_true, Bool.not_true, Bool.not_false, Bool.or_false, Bool.false_or, Bool.true_or, Bool.or_true, Bool.false_and, Bool.and_false, List.map_cons, List.map_nil, List.mem_cons, List.not_mem_nil, or_false, false_or, true_or, or_true, forall_eq_or_imp, forall_eq, List.all_cons, List.all_nil, List.append_nil, List.nil_append, List.cons_append, List.getD_cons_zero, List.getD_cons_succ, List.take_succ_cons, List.take_zero, List.drop_succ_cons, List.drop_zero, List.set_cons_zero, List.set_cons_succ, List.replicate_succ, List.replicate_zero, Value.oneCell', Nat.add_zero, Nat.zero_add, Nat.mul_one, Nat.one_mul, Int.toNat_zero, Int.reduceToNat, Int.reduceLT, Int.reduceLE, Nat.le_refl, Int.le_refl, Option.some.injEq, TypeDesc.slice.injEq, TypeDesc.int.injEq, List.length_replicate, TypeDesc.pointer.injEq, exists_eq, exists_eq_left, exists_eq_left', exists_eq', implies_true, beq_true, beq_false, and_self, beq_self_eq_true, bne_self_eq_false, decide_true, decide_false, cond_true, cond_false, Bool.not_eq_true', Bool.not_eq_false', imp_self, Bool.cond_false_right, Bool.cond_true_right, Bool.cond_true_left, Bool.cond_false_left, tyc0, tyc3, zmb3, tyc4, zmb4, tyc22, zmb22, tyc24, zmb24, tyc27, elt27, mkz27, mkc27, apT27, elk27, zmb27, tyc31, foff31_0, fpart31_0, foff31_1, fpart31_1, fe31, zmb31, bldT31, tyc43, Try.underlying0, Try.underlying3, Try.underlying4, Try.underlying22, Try.underlying24, Try.underlying27, Try.underlying31, Try.underlying43, SeqQ, BlkQ, LoopQ, BodyQ, k1, z, z0, z3, FR])
      | (refine WP.seq fun K hK => ?_)
      | (refine WP.region (rvc_sound _ _ (Sm.out ?_)))
      | (refine WP.drawK rfl mixed (by decide +kernel) (Sm.out ?_))
      | (refine And.intro ?_ ?_; focus (first | assumption | omega | decide | trivial | (intro hob; simp only [hob, Bool.not_eq_true', Bool.not_eq_false', Bool.not_false, Bool.not_true, Bool.true_and, Bool.and_true, Bool.false_and, Bool.and_false, true_and, and_true, imp_self, implies_true, and_self]; done) | (intros; (repeat' refine And.intro ?_ ?_) <;> first | assumption | omega | trivial | decide) | (intros; simp only [decide_eq_true_eq, decide_eq_false_iff_not, Bool.and_eq_true, Bool.or_eq_true, Bool.and_eq_false_iff, Bool.or_eq_false_iff, bne_iff_ne, bne_eq_false_iff_eq, Int.not_lt, Int.not_le] at *; (repeat' refine And.intro ?_ ?_) <;> first | assumption | omega | trivial)))
      | (refine WP.block ?_)
      | (refine WP.cond rfl (fun hc => ?_) (fun hc => ?_) <;> (try simp only [decide_eq_true_eq, decide_eq_false_iff_not, Bool.and_eq_true, Bool.or_eq_true, Bool.and_eq_false_iff, Bool.or_eq_false_iff, Bool.not_eq_true', Bool.not_eq_false', Int.not_lt, Int.not_le, reduceCtorEq, false_and, and_false, false_or, or_false, true_and, and_true, true_or, or_true, not_true_eq_false, not_false_eq_true, beq_iff_eq, beq_eq_false_iff_ne, bne_iff_ne, bne_eq_false_iff_eq, ne_eq, Decidable.not_not] at hc) <;> (try (exact absurd hc (by decide))) <;> (try (exfalso; omega)))
      | (refine WP.skip ?_; simp only [SeqQ, BlkQ, LoopQ, BodyQ, ↓reduceIte, Nat.reduceEqDiff, reduceCtorEq, look, true_and])
      | (refine WP.exit ?_; simp only [SeqQ, BlkQ, LoopQ, BodyQ, ↓reduceIte, Nat.reduceEqDiff, reduceCtorEq, look, true_and])
      | (refine WP.ret (Sm.out ?_))
      | (refine ExG.mk (x := AV.any) (fun hg => absurd hg (by decide)) (Sm.out ?_))
      | (refine Or.inl (ExG.mk (x := AV.any) (fun hg => absurd hg (by decide)) (Sm.out ?_)))
      | (refine Or.inl (And.intro (fun hg => absurd hg (by decide)) (ExG.mk (x := AV.any) (fun hg => absurd hg (by decide)) (Sm.out ?_))))
      | (refine Rt.mk ?_; refine And.intro ?_ ?_ <;> (intro hg; first | exact absurd hg (by decide) | refine Sm.out ?_))
      | (refine Nu.mk ?_; first | ((fail_if_success (have hx := nb1)); intro nb1) | ((fail_if_success (have hx := nb2)); intro nb2) | ((fail_if_success (have hx := nb3)); intro nb3) | ((fail_if_success (have hx := nb4)); intro nb4) | ((fail_if_success (have hx := nb5)); intro nb5) | ((fail_if_success (have hx := nb6)); intro nb6) | ((fail_if_success (have hx := nb7)); intro nb7) | ((fail_if_success (have hx := nb8)); intro nb8) | ((fail_if_success (have hx := nb9)); intro nb9) | ((fail_if_success (have hx := nb10)); intro nb10) | ((fail_if_success (have hx := nb11)); intro nb11) | ((fail_if_success (have hx := nb12)); intro nb12) | ((fail_if_success (have hx := nb13)); intro nb13) | ((fail_if_success (have hx := nb14)); intro nb14) | ((fail_if_success (have hx := nb15)); intro nb15) | ((fail_if_success (have hx := nb16)); intro nb16) | ((fail_if_success (have hx := nb17)); intro nb17) | ((fail_if_success (have hx := nb18)); intro nb18) | ((fail_if_success (have hx := nb19)); intro nb19) | ((fail_if_success (have hx := nb20)); intro nb20) | ((fail_if_success (have hx := nb21)); intro nb21) | ((fail_if_success (have hx := nb22)); intro nb22) | ((fail_if_success (have hx := nb23)); intro nb23) | ((fail_if_success (have hx := nb24)); intro nb24) | ((fail_if_success (have hx := nb25)); intro nb25) | ((fail_if_success (have hx := nb26)); intro nb26) | ((fail_if_success (have hx := nb27)); intro nb27) | ((fail_if_success (have hx := nb28)); intro nb28) | ((fail_if_success (have hx := nb29)); intro nb29) | ((fail_if_success (have hx := nb30)); intro nb30))
      | (refine Fr.mk ?_; intro hfr; replace FR := And.intro hfr FR; clear hfr; refine Sm.out ?_)
      | (refine Two.mk ?_ ?_)
      | (refine Cs.mk ?_; intro hcs; first | exact False.elim hcs | (exfalso; omega) | (refine Sm.out ?_))
      | (refine (show VwL _ _ _ from ?_); simp only [VwL, and_true, true_and])
      | exact Vw.same _
      | (refine Vw.row' (by simp only [hget, ↓reduceIte, if_true, if_false, FR, k1, z, z0, z3]; first | done | rfl) ?_ ?_ ?_ ?_)
      | (refine And.intro (Vw.same _) ?_)
      | (refine And.intro (Vw.row' (by simp only [hget, ↓reduceIte, if_true, if_false, FR, k1, z, z0, z3]; first | done | rfl) ?_ ?_ ?_ ?_) ?_)
      | (refine OutQ.all ?_ ?_; (focus (simp only [resv, look, loadv, loadn, loadnm, load1, load1m, hget, maxLen_eq, ↓reduceIte, if_true, if_false, ite_true, ite_false, Nat.reduceEqDiff, Nat.reduceAdd, Nat.reduceMul, Nat.reduceLeDiff, Nat.reduceLT, reduceCtorEq, true_and, and_true, and_self, List.length_cons, List.length_nil, List.length_map, List.length_replicate, List.take_succ_cons, List.take_zero, List.drop_zero, List.drop_succ_cons, List.map_cons, List.map_nil, List.getD_cons_zero, List.getD_cons_succ, Nat.zero_add, Nat.add_zero, Nat.le_refl, Option.some.injEq, ne_eq, tyc0, tyc3, tyc4, tyc22, tyc24, tyc27, tyc31, tyc43, k1, z, z0, z3, FR])); (try simp only [resv, resA, Fn, look, loadv, loadn, loadnm, load1, load1m, hget, maxLen_eq, ↓reduceIte, if_true, if_false, ite_true, ite_false, Nat.reduceEqDiff, Nat.reduceAdd, Nat.reduceMul, Nat.reduceLeDiff, Nat.reduceLT, reduceCtorEq, true_and, and_true, and_self, List.length_cons, List.length_nil, List.length_map, List.length_replicate, List.take_succ_cons, List.take_zero, List.drop_zero, List.drop_succ_cons, List.map_cons, List.map_nil, List.getD_cons_zero, List.getD_cons_succ, Nat.zero_add, Nat.add_zero, Nat.le_refl, Option.some.injEq, ne_eq, tyc0, tyc3, tyc4, tyc22, tyc24, tyc27, tyc31, tyc43, k1, z, z0, z3, FR]); (try simp [resA, Fn, look, k1, z, z0, z3, FR]); done)
      | go_step
      | omega
      | (simp only [maxLen_eq]; omega)
  · have k1 : decide (V < 0) = false := by rw [hV]; unfold cmpN; rw [if_neg hlt]; split <;> rfl
    obtain ⟨rfl, rfl, rfl⟩ := o2 hlt
    have p4 := minus_ct A B 128 128 l1 l2 (by omega) (by omega)
    have i4 := isA_ct (a - b) (minusF A B) 128 (by omega) (by rw [minusF_len, l1]) (by omega) (by rw [minusF_val A B (by omega), v1, v2])
    first | (have FRx := FR; clear FRx) | (have FR : ¬ ((1 : Nat) = 0) := Nat.one_ne_zero)
    repeat' first
      | (refine Sm.mk ?_; try simp -dsimp only [rvc, drawF, headN, pureH, maxLen_eq, stp, dvc, calleeOf, gcall, pev, eff, newB, okd, og, ogs, ogo, ogp, slv, bltv, opd, litv, strip, one, both, putE, St.put, look, gdOf, gdv, picka, pickv, pickw, binv, bini, bins, binb, binp, bina, shp, eqCells, unv, convv, nilv, faddv, addp, idxav, idxp, load1, load1m, loadn, loadnm, loadv, hget, hset, hrep, hdel, slicev, List.length_append, bnd, shift1, lenv, IntKind.bits, Nat.reducePow, Int.reducePow, Nat.min_def, extractv, fieldv, indexv, min2v, max2v, mkiv, cellsA, fillA, buildv, stC, oneC, rowMB, intsA, plN, appE, appZ, appC, appNZ, appNC, repA_one, VwL, srcC, srcZ, srcM, fresh_nil, fresh_cons, freshBut_nil, freshBut_cons, intsA_map, ne_eq, true_implies, forall_const, List.length_map, List.map_append, drop_getD0, Int.toNat_natCast, List.length_drop, List.length_take, Int.cast_ofNat_Int, isBoolT, isPtrT, isSliceT, uOk, List.size_toArray, List.length_cons, List.length_nil, List.getElem?_toArray, List.getElem?_cons_zero, List.getElem?_cons_succ, Option.bind_some, Option.map_some, Option.map_none, Option.isSome_some, Nat.reduceAdd, Nat.reduceMul, Nat.reduceSub, Nat.reduceLT, Nat.reduceLeDiff, Nat.reduceEqDiff, Nat.reduceBEq, Nat.reduceDiv, Nat.reduceMod, ↓reduceIte, reduceCtorEq, if_true, if_false, true_and, and_true, ite_true, ite_false, Bool.true_and, Bool.and_true, Bool.not_true, Bool.not_false, Bool.or_false, Bool.false_or, Bool.true_or, Bool.or_true, Bool.false_and, Bool.and_false, List.map_cons, List.map_nil, List.mem_cons, List.not_mem_nil, or_false, false_or, true_or, or_true, forall_eq_or_imp, forall_eq, List.all_cons, List.all_nil, List.append_nil, List.nil_append, List.cons_append, List.getD_cons_zero, List.getD_cons_succ, List.take_succ_cons, List.take_zero, List.drop_succ_cons, List.drop_zero, List.set_cons_zero, List.set_cons_succ, List.replicate_succ, List.replicate_zero, Value.oneCell', Nat.add_zero, Nat.zero_add, Nat.mul_one, Nat.one_mul, Int.toNat_zero, Int.reduceToNat, Int.reduceLT, Int.reduceLE, Nat.le_refl, Int.le_refl, Option.some.injEq, TypeDesc.slice.injEq, TypeDesc.int.injEq, List.length_replicate, TypeDesc.pointer.injEq, exists_eq, exists_eq_left, exists_eq_left', exists_eq', implies_true, beq_true, beq_false, and_self, beq_self_eq_true, bne_self_eq_false, decide_true, decide_false, cond_true, cond_false, Bool.not_eq_true', Bool.not_eq_false', imp_self, Bool.cond_false_right, Bool.cond_true_right, Bool.cond_true_left, Bool.cond_false_left, tyc0, tyc3, zmb3, tyc4, zmb4, tyc22, zmb22, tyc24, zmb24, tyc27, elt27, mkz27, mkc27, apT27, elk27, zmb27, tyc31, foff31_0, fpart31_0, foff31_1, fpart31_1, fe31, zmb31, bldT31, tyc43, Try.underlying0, Try.underlying3, Try.underlying4, Try.underlying22, Try.underlying24, Try.underlying27, Try.underlying31, Try.underlying43, SeqQ, BlkQ, LoopQ, BodyQ, k1, FR])
      | (refine CallV.fn (p4) (Sm.out ?_))
      | (refine ExF.mk (p4) (Sm.out ?_))
      | (refine ExG.mk (fun hg => p4) (Sm.out ?_))
      | (refine Or.inl (ExG.mk (fun hg => p4) (Sm.out ?_)))
      | (refine Or.inl (And.intro ?_ (ExG.mk (fun hg => p4) (Sm.out ?_))); focus (first | omega | assumption | decide | trivial | (intros; (repeat' refine And.intro ?_ ?_) <;> first | assumption | omega | trivial | decide) | (intros; simp only [decide_eq_true_eq, decide_eq_false_iff_not, Bool.and_eq_true, Bool.or_eq_true, Bool.and_eq_false_iff, Bool.or_eq_false_iff, bne_iff_ne, bne_eq_false_iff_eq, Int.not_lt, Int.not_le] at *; (repeat' refine And.intro ?_ ?_) <;> first | assumption | omega | trivial)))
      | (refine CallV.fn (i4) (Sm.out ?_))
      | (refine ExF.mk (i4) (Sm.out ?_))
      | (refine ExG.mk (fun hg => i4) (Sm.out ?_))
      | (refine Or.inl (ExG.mk (fun hg => i4) (Sm.out ?_)))
      | (refine Or.inl (And.intro ?_ (ExG.mk (fun hg => i4) (Sm.out ?_))); focus (first | omega | assumption | decide | trivial | (intros; (repeat' refine And.intro ?_ ?_) <;> first | assumption | omega | trivial | decide) | (intros; simp only [decide_eq_true_eq, decide_eq_false_iff_not, Bool.and_eq_true, Bool.or_eq_true, Bool.and_eq_false_iff, Bool.or_eq_false_iff, bne_iff_ne, bne_eq_false_iff_eq, Int.not_lt, Int.not_le] at *; (repeat' refine And.intro ?_ ?_) <;> first | assumption | omega | trivial)))
      | (refine WP.seq fun K hK => ?_)
      | (refine WP.region (rvc_sound _ _ (Sm.out ?_)))
      | (refine WP.drawK rfl mixed (by decide +kernel) (Sm.out ?_))
      | (refine And.intro ?_ ?_; focus (first | assumption | omega | decide | trivial | (intro hob; simp only [hob, Bool.not_eq_true', Bool.not_eq_false', Bool.not_false, Bool.not_true, Bool.true_and, Bool.and_true, Bool.false_and, Bool.and_false, true_and, and_true, imp_self, implies_true, and_self]; done) | (intros; (repeat' refine And.intro ?_ ?_) <;> first | assumption | omega | trivial | decide) | (intros; simp only [decide_eq_true_eq, decide_eq_false_iff_not, Bool.and_eq_true, Bool.or_eq_true, Bool.and_eq_false_iff, Bool.or_eq_false_iff, bne_iff_ne, bne_eq_false_iff_eq, Int.not_lt, Int.not_le] at *; (repeat' refine And.intro ?_ ?_) <;> first | assumption | omega | trivial)))
      | (refine WP.block ?_)
      | (refine WP.cond rfl (fun hc => ?_) (fun hc => ?_) <;> (try simp only [decide_eq_true_eq, decide_eq_false_iff_not, Bool.and_eq_true, Bool.or_eq_true, Bool.and_eq_false_iff, Bool.or_eq_false_iff, Bool.not_eq_true', Bool.not_eq_false', Int.not_lt, Int.not_le, reduceCtorEq, false_and, and_false, false_or, or_false, true_and, and_true, true_or, or_true, not_true_eq_false, not_false_eq_true, beq_iff_eq, beq_eq_false_iff_ne, bne_iff_ne, bne_eq_false_iff_eq, ne_eq, Decidable.not_not] at hc) <;> (try (exact absurd hc (by decide))) <;> (try (exfalso; omega)))
      | (refine WP.skip ?_; simp only [SeqQ, BlkQ, LoopQ, BodyQ, ↓reduceIte, Nat.reduceEqDiff, reduceCtorEq, look, true_and])
      | (refine WP.exit ?_; simp only [SeqQ, BlkQ, LoopQ, BodyQ, ↓reduceIte, Nat.reduceEqDiff, reduceCtorEq, look, true_and])
      | (refine WP.ret (Sm.out ?_))
      | (refine ExG.mk (x := AV.any) (fun hg => absurd hg (by decide)) (Sm.out ?_))
      | (refine Or.inl (ExG.mk (x := AV.any) (fun hg => absurd hg (by decide)) (Sm.out ?_)))
      | (refine Or.inl (And.intro (fun hg => absurd hg (by decide)) (ExG.mk (x := AV.any) (fun hg => absurd hg (by decide)) (Sm.out ?_))))
      | (refine Rt.mk ?_; refine And.intro ?_ ?_ <;> (intro hg; first | exact absurd hg (by decide) | refine Sm.out ?_))
      | (refine Nu.mk ?_; first | ((fail_if_success (have hx := nb1)); intro nb1) | ((fail_if_success (have hx := nb2)); intro nb2) | ((fail_if_success (have hx := nb3)); intro nb3) | ((fail_if_success (have hx := nb4)); intro nb4) | ((fail_if_success (have hx := nb5)); intro nb5) | ((fail_if_success (have hx := nb6)); intro nb6) | ((fail_if_success (have hx := nb7)); intro nb7) | ((fail_if_success (have hx := nb8)); intro nb8) | ((fail_if_success (have hx := nb9)); intro nb9) | ((fail_if_success (have hx := nb10)); intro nb10) | ((fail_if_success (have hx := nb11)); intro nb11) | ((fail_if_success (have hx := nb12)); intro nb12) | ((fail_if_success (have hx := nb13)); intro nb13) | ((fail_if_success (have hx := nb14)); intro nb14) | ((fail_if_success (have hx := nb15)); intro nb15) | ((fail_if_success (have hx := nb16)); intro nb16) | ((fail_if_success (have hx := nb17)); intro nb17) | ((fail_if_success (have hx := nb18)); intro nb18) | ((fail_if_success (have hx := nb19)); intro nb19) | ((fail_if_success (have hx := nb20)); intro nb20) | ((fail_if_success (have hx := nb21)); intro nb21) | ((fail_if_success (have hx := nb22)); intro nb22) | ((fail_if_success (have hx := nb23)); intro nb23) | ((fail_if_success (have hx := nb24)); intro nb24) | ((fail_if_success (have hx := nb25)); intro nb25) | ((fail_if_success (have hx := nb26)); intro nb26) | ((fail_if_success (have hx := nb27)); intro nb27) | ((fail_if_success (have hx := nb28)); intro nb28) | ((fail_if_success (have hx := nb29)); intro nb29) | ((fail_if_success (have hx := nb30)); intro nb30))
      | (refine Fr.mk ?_; intro hfr; replace FR := And.intro hfr FR; clear hfr; refine Sm.out ?_)
      | (refine Two.mk ?_ ?_)
      | (refine Cs.mk ?_; intro hcs; first | exact False.elim hcs | (exfalso; omega) | (refine Sm.out ?_))
      | (refine (show VwL _ _ _ from ?_); simp only [VwL, and_true, true_and])
      | exact Vw.same _
      | (refine Vw.row' (by simp only [hget, ↓reduceIte, if_true, if_false, FR, k1]; first | done | rfl) ?_ ?_ ?_ ?_)
      | (refine And.intro (Vw.same _) ?_)
      | (refine And.intro (Vw.row' (by simp only [hget, ↓reduceIte, if_true, if_false, FR, k1]; first | done | rfl) ?_ ?_ ?_ ?_) ?_)
      | (refine OutQ.all ?_ ?_; (focus (simp only [resv, look, loadv, loadn, loadnm, load1, load1m, hget, maxLen_eq, ↓reduceIte, if_true, if_false, ite_true, ite_false, Nat.reduceEqDiff, Nat.reduceAdd, Nat.reduceMul, Nat.reduceLeDiff, Nat.reduceLT, reduceCtorEq, true_and, and_true, and_self, List.length_cons, List.length_nil, List.length_map, List.length_replicate, List.take_succ_cons, List.take_zero, List.drop_zero, List.drop_succ_cons, List.map_cons, List.map_nil, List.getD_cons_zero, List.getD_cons_succ, Nat.zero_add, Nat.add_zero, Nat.le_refl, Option.some.injEq, ne_eq, tyc0, tyc3, tyc4, tyc22, tyc24, tyc27, tyc31, tyc43, k1, FR])); (try simp only [resv, resA, Fn, look, loadv, loadn, loadnm, load1, load1m, hget, maxLen_eq, ↓reduceIte, if_true, if_false, ite_true, ite_false, Nat.reduceEqDiff, Nat.reduceAdd, Nat.reduceMul, Nat.reduceLeDiff, Nat.reduceLT, reduceCtorEq, true_and, and_true, and_self, List.length_cons, List.length_nil, List.length_map, List.length_replicate, List.take_succ_cons, List.take_zero, List.drop_zero, List.drop_succ_cons, List.map_cons, List.map_nil, List.getD_cons_zero, List.getD_cons_succ, Nat.zero_add, Nat.add_zero, Nat.le_refl, Option.some.injEq, ne_eq, tyc0, tyc3, tyc4, tyc22, tyc24, tyc27, tyc31, tyc43, k1, FR]); (try simp [resA, Fn, look, k1, FR]); done)
      | go_step
      | omega
      | (simp only [maxLen_eq]; omega)
theorem adds_law (ah al bh bl n : Int) (h1 : 0 ≤ ah ∧ ah ≤ 18446744073709551615) (h2 : 0 ≤ al ∧ al ≤ 18446744073709551615) (h3 : 0 ≤ bh ∧ bh ≤ 18446744073709551615) (h4 : 0 ≤ bl ∧ bl ≤ 18446744073709551615) (h5 : 0 ≤ n ∧ n ≤ 18446744073709551615) :
    ACt Try.prog 6 [.agg [iv .u64 ah, iv .u64 al], .agg [iv .u64 bh, iv .u64 bl], iv .u64 n] [] (fun r _ => r = bv true) := by
  obtain ⟨ah, rfl⟩ := Int.eq_ofNat_of_zero_le h1.1
  obtain ⟨al, rfl⟩ := Int.eq_ofNat_of_zero_le h2.1
  obtain ⟨bh, rfl⟩ := Int.eq_ofNat_of_zero_le h3.1
  obtain ⟨bl, rfl⟩ := Int.eq_ofNat_of_zero_le h4.1
  obtain ⟨n, rfl⟩ := Int.eq_ofNat_of_zero_le h5.1
  have e1 := wide_of ah al (by omega)
  have e2 := wide_of bh bl (by omega)
  unfold nu at e1 e2
  rw [e1, e2]
  exact adds_ct _ _ _ (by omega) (by omega) (by omega)
end Go.Proofs.Yteadenldfaddfaa
