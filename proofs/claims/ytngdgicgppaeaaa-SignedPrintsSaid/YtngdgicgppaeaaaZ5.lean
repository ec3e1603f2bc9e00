/-
  The walks and the laws that the statement leans on, part 5.
-/
import Derived.Test.YtngdgicgppaeaaaZ4
namespace Go.Proofs.Ytngdgicgppaeaaa
open Go
set_option linter.unusedVariables false
set_option linter.unusedSimpArgs false
theorem TFExF : (((((type_of% tyc0) ∧ ((type_of% tyc3) ∧ (type_of% zmb3))) ∧ (((type_of% tyc4) ∧ (type_of% zmb4)) ∧ ((type_of% tyc22) ∧ (type_of% zmb22)))) ∧ ((((type_of% tyc24) ∧ (type_of% foff24_0)) ∧ ((type_of% fpart24_0) ∧ (type_of% foff24_1))) ∧ (((type_of% fpart24_1) ∧ (type_of% fe24)) ∧ ((type_of% zmb24) ∧ (type_of% bldT24))))) ∧ (((((type_of% tyc37) ∧ (type_of% elt37)) ∧ ((type_of% mkz37) ∧ (type_of% mkc37))) ∧ (((type_of% apT37) ∧ (type_of% elk37)) ∧ ((type_of% zmb37) ∧ (type_of% tyc61)))) ∧ ((((type_of% zmb61) ∧ (type_of% Try.underlying0)) ∧ ((type_of% Try.underlying3) ∧ (type_of% Try.underlying4))) ∧ (((type_of% Try.underlying22) ∧ (type_of% Try.underlying24)) ∧ ((type_of% Try.underlying37) ∧ (type_of% Try.underlying61)))))) :=
  ⟨⟨⟨⟨tyc0, ⟨tyc3, zmb3⟩⟩, ⟨⟨tyc4, zmb4⟩, ⟨tyc22, zmb22⟩⟩⟩, ⟨⟨⟨tyc24, foff24_0⟩, ⟨fpart24_0, foff24_1⟩⟩, ⟨⟨fpart24_1, fe24⟩, ⟨zmb24, bldT24⟩⟩⟩⟩, ⟨⟨⟨⟨tyc37, elt37⟩, ⟨mkz37, mkc37⟩⟩, ⟨⟨apT37, elk37⟩, ⟨zmb37, tyc61⟩⟩⟩, ⟨⟨⟨zmb61, Try.underlying0⟩, ⟨Try.underlying3, Try.underlying4⟩⟩, ⟨⟨Try.underlying22, Try.underlying24⟩, ⟨Try.underlying37, Try.underlying61⟩⟩⟩⟩⟩
theorem bitsN_bl (n i : Nat) : bl (bitsN n i) ++ [bv (decide (n / 2 ^ i % 2 = 1))] = bl (bitsN n (i + 1)) := by rw [bitsN_succ]; simp
theorem bitsN_bl_len (n i : Nat) : (bl (bitsN n i)).length = i := by simp [bitsN]
theorem tmod_nat (a b : Nat) : (a : Int).tmod (b : Int) = ((a % b : Nat) : Int) := by rw [Int.tmod_eq_emod_of_nonneg (by omega)]; simp
theorem tdiv_nat (a b : Nat) : (a : Int).tdiv (b : Int) = ((a / b : Nat) : Int) := by rw [Int.tdiv_eq_ediv_of_nonneg (by omega)]; simp
theorem fdiv_pow (a k : Nat) : (a : Int).fdiv (2 ^ k) = ((a / 2 ^ k : Nat) : Int) := by
  rw [Int.fdiv_eq_ediv_of_nonneg _ (by exact Int.le_of_lt (Int.pow_pos (by omega)))]; simp
theorem bit_lo (h l i : Nat) (hi : i < 64) : (h * 18446744073709551616 + l) / 2 ^ i % 2 = l / 2 ^ i % 2 := by
  have e : h * 18446744073709551616 = 2 ^ i * (2 * (h * 2 ^ (63 - i))) := by
    have : (18446744073709551616 : Nat) = 2 ^ i * (2 * 2 ^ (63 - i)) := by
      rw [← Nat.pow_succ', ← Nat.pow_add, show i + (63 - i + 1) = 64 by omega]
    rw [this]; ac_rfl
  rw [e, Nat.mul_add_div (Nat.two_pow_pos i)]; omega
theorem bit_hi (h l i : Nat) (hl : l < 18446744073709551616) (hi : 64 ≤ i) : (h * 18446744073709551616 + l) / 2 ^ i % 2 = h / 2 ^ (i - 64) % 2 := by
  have e : 2 ^ i = 18446744073709551616 * 2 ^ (i - 64) := by
    rw [show (18446744073709551616 : Nat) = 2 ^ 64 from rfl, ← Nat.pow_add, show 64 + (i - 64) = i by omega]
  rw [e, ← Nat.div_div_eq_div_mul, show (h * 18446744073709551616 + l) / 18446744073709551616 = h by omega]
structure BG where
  i : Nat
  b : Nat
  cap : Nat
set_option maxRecDepth 8000 in
set_option maxHeartbeats 1000000 in
theorem bits_ct (h l : Nat) (hh : h < 18446744073709551616) (hl : l < 18446744073709551616) :
    ACt Try.prog 13 [.agg [nu h, nu l]] [] (Fn (.sl 128 (bl (bitsN (h * 18446744073709551616 + l) 128)))) := by
  refine ACt.intro Try.func13 rfl (by kernel_rfl) (by simp [Try.ntmps13]) (fun cx => ?_)
  simp only [argE, Try.ntmps13, Try.results13]
  first | (have FRx := FR; clear FRx) | (have FR : ¬ ((1 : Nat) = 0) := Nat.one_ne_zero)
  repeat' first
    | (refine Sm.mk ?_; try simp -dsimp only [ZK, rvc, drawF, headN, pureH, stp, dvc, calleeOf, gcall, pev, eff, newB, okd, og, ogs, ogo, ogp, slv, bltv, opd, litv, strip, one, both, putE, St.put, look, gdOf, gdv, picka, pickv, pickw, binv, bini, bins, binb, binp, binq, isSlT, bina, shp, eqCells, unv, convv, nilv, faddv, addp, idxav, idxp, load1, load1m, loadn, loadnm, loadv, hget, hset, hrep, hdel, slicev, bnd, shift1, lenv, capv, IntKind.bits, extractv, fieldv, indexv, min2v, max2v, mkiv, cellsA, fillA, buildv, stC, oneC, rowMB, intsA, plN, appE, appZ, appC, appNZ, appNC, VwL, srcC, srcZ, srcM, isBoolT, isPtrT, isSliceT, uOk, Value.oneCell', Nat.reducePow, Int.reducePow, Nat.reduceAdd, Nat.reduceMul, Nat.reduceSub, Nat.reduceLT, Nat.reduceLeDiff, Nat.reduceEqDiff, Nat.reduceBEq, Nat.reduceDiv, Nat.reduceMod, ↓reduceIte, reduceCtorEq, Int.reduceToNat, Int.reduceLT, Int.reduceLE, TFExF, SeqQ, BlkQ, LoopQ, BodyQ, FR])
    | (refine WP.seq fun K hK => ?_)
    | (refine WP.region (rvc_sound _ _ (Sm.out ?_)))
    | (refine WP.drawK rfl mixed (by decide +kernel) (Sm.out ?_))
    | (refine Ob.mk ?_; focus (first | assumption | omega | decide | trivial | (intro hob; simp only [hob, ZF]; done) | (intros; (repeat' refine And.intro ?_ ?_) <;> first | assumption | omega | trivial | decide) | (intros; simp only [ZE] at *; (repeat' refine And.intro ?_ ?_) <;> first | assumption | omega | trivial)))
    | (refine And.intro (Ob.out ?_) ?_)
    | (refine WP.block ?_)
    | (refine WP.cond rfl (fun hc => ?_) (fun hc => ?_) <;> (try simp only [ZC, reduceCtorEq, ZD] at hc) <;> (try (exact absurd hc (by decide))) <;> (try (exfalso; omega)))
    | ((first | refine WP.skip ?_ | refine WP.exit ?_); simp only [SeqQ, BlkQ, LoopQ, BodyQ, ↓reduceIte, Nat.reduceEqDiff, reduceCtorEq, look, true_and])
    | (refine WP.ret (Sm.out ?_))
    | (first | refine ExG.no (Sm.out ?_) | refine Or.inl (ExG.no (Sm.out ?_)) | refine Or.inl (And.intro (fun hg => absurd hg (by decide)) (ExG.no (Sm.out ?_))))
    | (refine Rt.mk ?_; refine And.intro ?_ ?_ <;> (intro hg; first | exact absurd hg (by decide) | refine Sm.out ?_))
    | (refine Nu.mk ?_; first | (fail_if_success (have := nb1)); intro nb1 | (fail_if_success (have := nb2)); intro nb2 | (fail_if_success (have := nb3)); intro nb3 | (fail_if_success (have := nb4)); intro nb4 | (fail_if_success (have := nb5)); intro nb5 | intro nbz)
    | (refine Fr.mk ?_; intro hfr; replace FR := And.intro hfr FR; clear hfr; refine Sm.out ?_)
    | (refine Two.mk ?_ ?_)
    | (refine Cs.mk ?_; intro hcs; first | exact False.elim hcs | (exfalso; omega) | (refine Sm.out ?_))
    | go_step
    | omega
    | (simp only [maxLen_eq]; omega)
  refine WP.loop (Γ := BG) (fun g => ⟨[(4, iv .i64 g.i), (3, ms g.b 0 g.i g.cap), (1, pt nb1 0)], [(g.b, .cells (bl (bitsN (h * 18446744073709551616 + l) g.i)) g.cap 4), (nb1, .cells [nu h, nu l] 2 24)]⟩)
    (fun g => g.i ≤ 128 ∧ g.i ≤ g.cap ∧ g.cap ≤ 9223372036854775807) (fun g => 128 - g.i) ⟨0, nb2, 0⟩ ⟨by simp, by simp, by simp⟩ (Sub.pick (by simp [pickB, hget, hdel, FR, bitsN, bl]) (by simp [look, bitsN, bl])) ?_
  intro ⟨i, b, cap⟩ ⟨h1, h2, h3⟩
  simp only at h1 h2 h3 ⊢
  (refine WP.nd fun hnd => ?_; simp only [ndF, fresh_cons, fresh_nil, and_true, ne_eq] at hnd; replace FR := And.intro hnd FR; clear hnd)
  by_cases hi : i < 128
  · have k1 : decide ((i : Int) < 128) = true := by simp; omega
    have g1 : IntKind.i64.wrap ((i : Int) + 1) = ((i + 1 : Nat) : Int) := by rw [wrap_i64 (by omega) (by omega)]; omega
    have m1 : (i : Int).tmod 64 = ((i % 64 : Nat) : Int) := tmod_nat i 64
    have m2 : IntKind.i64.wrap ((i % 64 : Nat) : Int) = ((i % 64 : Nat) : Int) := wrap_i64_nat (by omega)
    have m3 : IntKind.u64.wrap ((i % 64 : Nat) : Int) = ((i % 64 : Nat) : Int) := wrap_u64_nat (by omega)
    have m4 : i % 64 ≤ 64 := by omega
    have m5 : ∀ a : Nat, ((a / 2 ^ (i % 64) : Nat) : Int).tmod 2 = ((a / 2 ^ (i % 64) % 2 : Nat) : Int) := fun a => tmod_nat _ 2
    have m6 : ∀ a : Nat, IntKind.u64.wrap ((a % 2 : Nat) : Int) = ((a % 2 : Nat) : Int) := fun a => wrap_u64_nat (by omega)
    have m7 : ∀ a : Nat, (((a % 2 : Nat) : Int) == 1) = decide (a % 2 = 1) := fun a => by
      by_cases ha : a % 2 = 1
      · rw [ha]; rfl
      · rw [decide_eq_false ha]; exact beq_eq_false_iff_ne.2 (by omega)
    have m8 : ∀ a : Nat, (a : Int).fdiv (2 ^ (i % 64)) = ((a / 2 ^ (i % 64) : Nat) : Int) := fun a => fdiv_pow a _
    have e1 := bitsN_bl (h * 18446744073709551616 + l) i
    by_cases h64 : i < 64
    · have k2 : decide ((i : Int) ≥ 64) = false := by simp; omega
      rw [bit_lo h l i h64] at e1
      rw [← Nat.mod_eq_of_lt h64] at e1
      have e2 := bitsN_bl_len (h * 18446744073709551616 + l) i
      have e4 : i % 64 % 64 = i % 64 := Nat.mod_mod _ _
      have e3 : bl (bitsN (h * 18446744073709551616 + l) i) ++ [bv (decide (l / 2 ^ (i % 64) % 2 = 1))] = bl (bitsN (h * 18446744073709551616 + l) (i + 1)) := by
        have := bitsN_bl (h * 18446744073709551616 + l) i
        rw [bit_lo h l i h64] at this
        rw [Nat.mod_eq_of_lt h64]; exact this
      first | (have FRx := FR; clear FRx) | (have FR : ¬ ((1 : Nat) = 0) := Nat.one_ne_zero)
      repeat' first
        | (refine Sm.mk ?_; try simp -dsimp only [ZK, rvc, drawF, headN, pureH, stp, dvc, calleeOf, gcall, pev, eff, newB, okd, og, ogs, ogo, ogp, slv, bltv, opd, litv, strip, one, both, putE, St.put, look, gdOf, gdv, picka, pickv, pickw, binv, bini, bins, binb, binp, binq, isSlT, bina, shp, eqCells, unv, convv, nilv, faddv, addp, idxav, idxp, load1, load1m, loadn, loadnm, loadv, hget, hset, hrep, hdel, slicev, bnd, shift1, lenv, capv, IntKind.bits, extractv, fieldv, indexv, min2v, max2v, mkiv, cellsA, fillA, buildv, stC, oneC, rowMB, intsA, plN, appE, appZ, appC, appNZ, appNC, VwL, srcC, srcZ, srcM, isBoolT, isPtrT, isSliceT, uOk, Value.oneCell', Nat.reducePow, Int.reducePow, Nat.reduceAdd, Nat.reduceMul, Nat.reduceSub, Nat.reduceLT, Nat.reduceLeDiff, Nat.reduceEqDiff, Nat.reduceBEq, Nat.reduceDiv, Nat.reduceMod, ↓reduceIte, reduceCtorEq, Int.reduceToNat, Int.reduceLT, Int.reduceLE, TFExF, SeqQ, BlkQ, LoopQ, BodyQ, k1, k2, g1, m1, m2, m3, m4, m5, m6, m7, m8, e2, e3, FR])
        | (refine WP.seq fun K hK => ?_)
        | (refine WP.region (rvc_sound _ _ (Sm.out ?_)))
        | (refine WP.drawK rfl mixed (by decide +kernel) (Sm.out ?_))
        | (refine Ob.mk ?_; focus (first | assumption | omega | decide | trivial | (intro hob; simp only [hob, ZF]; done) | (intros; (repeat' refine And.intro ?_ ?_) <;> first | assumption | omega | trivial | decide) | (intros; simp only [ZE] at *; (repeat' refine And.intro ?_ ?_) <;> first | assumption | omega | trivial)))
        | (refine And.intro (Ob.out ?_) ?_)
        | (refine WP.block ?_)
        | (refine WP.cond rfl (fun hc => ?_) (fun hc => ?_) <;> (try simp only [ZC, reduceCtorEq, ZD] at hc) <;> (try (exact absurd hc (by decide))) <;> (try (exfalso; omega)))
        | ((first | refine WP.skip ?_ | refine WP.exit ?_); simp only [SeqQ, BlkQ, LoopQ, BodyQ, ↓reduceIte, Nat.reduceEqDiff, reduceCtorEq, look, true_and])
        | (refine WP.ret (Sm.out ?_))
        | (first | refine ExG.no (Sm.out ?_) | refine Or.inl (ExG.no (Sm.out ?_)) | refine Or.inl (And.intro (fun hg => absurd hg (by decide)) (ExG.no (Sm.out ?_))))
        | (refine Rt.mk ?_; refine And.intro ?_ ?_ <;> (intro hg; first | exact absurd hg (by decide) | refine Sm.out ?_))
        | (refine Nu.mk ?_; first | (fail_if_success (have := nb1)); intro nb1 | (fail_if_success (have := nb2)); intro nb2 | (fail_if_success (have := nb3)); intro nb3 | (fail_if_success (have := nb4)); intro nb4 | (fail_if_success (have := nb5)); intro nb5 | intro nbz)
        | (refine Fr.mk ?_; intro hfr; replace FR := And.intro hfr FR; clear hfr; refine Sm.out ?_)
        | (refine Two.mk ?_ ?_)
        | (refine Cs.mk ?_; intro hcs; first | exact False.elim hcs | (exfalso; omega) | (refine Sm.out ?_))
        | go_step
        | omega
        | (simp only [maxLen_eq]; omega)
      exact ⟨⟨i + 1, nb4, nb5⟩, ⟨by simp only; omega, by simp only; omega, by simp only; omega⟩, by simp only; omega, (Sub.pick (by simp [pickB, hget, hdel, FR]) (by simp [look]))⟩
    · have k2 : decide ((i : Int) ≥ 64) = true := by simp; omega
      have e2 := bitsN_bl_len (h * 18446744073709551616 + l) i
      have e3 : bl (bitsN (h * 18446744073709551616 + l) i) ++ [bv (decide (h / 2 ^ (i % 64) % 2 = 1))] = bl (bitsN (h * 18446744073709551616 + l) (i + 1)) := by
        have := bitsN_bl (h * 18446744073709551616 + l) i
        rw [bit_hi h l i hl (by omega)] at this
        rw [show i % 64 = i - 64 by omega]; exact this
      first | (have FRx := FR; clear FRx) | (have FR : ¬ ((1 : Nat) = 0) := Nat.one_ne_zero)
      repeat' first
        | (refine Sm.mk ?_; try simp -dsimp only [ZK, rvc, drawF, headN, pureH, stp, dvc, calleeOf, gcall, pev, eff, newB, okd, og, ogs, ogo, ogp, slv, bltv, opd, litv, strip, one, both, putE, St.put, look, gdOf, gdv, picka, pickv, pickw, binv, bini, bins, binb, binp, binq, isSlT, bina, shp, eqCells, unv, convv, nilv, faddv, addp, idxav, idxp, load1, load1m, loadn, loadnm, loadv, hget, hset, hrep, hdel, slicev, bnd, shift1, lenv, capv, IntKind.bits, extractv, fieldv, indexv, min2v, max2v, mkiv, cellsA, fillA, buildv, stC, oneC, rowMB, intsA, plN, appE, appZ, appC, appNZ, appNC, VwL, srcC, srcZ, srcM, isBoolT, isPtrT, isSliceT, uOk, Value.oneCell', Nat.reducePow, Int.reducePow, Nat.reduceAdd, Nat.reduceMul, Nat.reduceSub, Nat.reduceLT, Nat.reduceLeDiff, Nat.reduceEqDiff, Nat.reduceBEq, Nat.reduceDiv, Nat.reduceMod, ↓reduceIte, reduceCtorEq, Int.reduceToNat, Int.reduceLT, Int.reduceLE, TFExF, SeqQ, BlkQ, LoopQ, BodyQ, k1, k2, g1, m1, m2, m3, m4, m5, m6, m7, m8, e2, e3, FR])
        | (refine WP.seq fun K hK => ?_)
        | (refine WP.region (rvc_sound _ _ (Sm.out ?_)))
        | (refine WP.drawK rfl mixed (by decide +kernel) (Sm.out ?_))
        | (refine Ob.mk ?_; focus (first | assumption | omega | decide | trivial | (intro hob; simp only [hob, ZF]; done) | (intros; (repeat' refine And.intro ?_ ?_) <;> first | assumption | omega | trivial | decide) | (intros; simp only [ZE] at *; (repeat' refine And.intro ?_ ?_) <;> first | assumption | omega | trivial)))
        | (refine And.intro (Ob.out ?_) ?_)
        | (refine WP.block ?_)
        | (refine WP.cond rfl (fun hc => ?_) (fun hc => ?_) <;> (try simp only [ZC, reduceCtorEq, ZD] at hc) <;> (try (exact absurd hc (by decide))) <;> (try (exfalso; omega)))
        | ((first | refine WP.skip ?_ | refine WP.exit ?_); simp only [SeqQ, BlkQ, LoopQ, BodyQ, ↓reduceIte, Nat.reduceEqDiff, reduceCtorEq, look, true_and])
        | (refine WP.ret (Sm.out ?_))
        | (first | refine ExG.no (Sm.out ?_) | refine Or.inl (ExG.no (Sm.out ?_)) | refine Or.inl (And.intro (fun hg => absurd hg (by decide)) (ExG.no (Sm.out ?_))))
        | (refine Rt.mk ?_; refine And.intro ?_ ?_ <;> (intro hg; first | exact absurd hg (by decide) | refine Sm.out ?_))
        | (refine Nu.mk ?_; first | (fail_if_success (have := nb1)); intro nb1 | (fail_if_success (have := nb2)); intro nb2 | (fail_if_success (have := nb3)); intro nb3 | (fail_if_success (have := nb4)); intro nb4 | (fail_if_success (have := nb5)); intro nb5 | intro nbz)
        | (refine Fr.mk ?_; intro hfr; replace FR := And.intro hfr FR; clear hfr; refine Sm.out ?_)
        | (refine Two.mk ?_ ?_)
        | (refine Cs.mk ?_; intro hcs; first | exact False.elim hcs | (exfalso; omega) | (refine Sm.out ?_))
        | go_step
        | omega
        | (simp only [maxLen_eq]; omega)
      exact ⟨⟨i + 1, nb4, nb5⟩, ⟨by simp only; omega, by simp only; omega, by simp only; omega⟩, by simp only; omega, (Sub.pick (by simp [pickB, hget, hdel, FR]) (by simp [look]))⟩
  · have k1 : decide ((i : Int) < 128) = false := by simp; omega
    obtain rfl : i = 128 := by omega
    have e2 := bitsN_bl_len (h * 18446744073709551616 + l) 128
    have e5 : (bl (bitsN (h * 18446744073709551616 + l) 128)).take 128 = bl (bitsN (h * 18446744073709551616 + l) 128) := List.take_of_length_le (by rw [e2]; omega)
    first | (have FRx := FR; clear FRx) | (have FR : ¬ ((1 : Nat) = 0) := Nat.one_ne_zero)
    repeat' first
      | (refine Sm.mk ?_; try simp -dsimp only [ZK, rvc, drawF, headN, pureH, stp, dvc, calleeOf, gcall, pev, eff, newB, okd, og, ogs, ogo, ogp, slv, bltv, opd, litv, strip, one, both, putE, St.put, look, gdOf, gdv, picka, pickv, pickw, binv, bini, bins, binb, binp, binq, isSlT, bina, shp, eqCells, unv, convv, nilv, faddv, addp, idxav, idxp, load1, load1m, loadn, loadnm, loadv, hget, hset, hrep, hdel, slicev, bnd, shift1, lenv, capv, IntKind.bits, extractv, fieldv, indexv, min2v, max2v, mkiv, cellsA, fillA, buildv, stC, oneC, rowMB, intsA, plN, appE, appZ, appC, appNZ, appNC, VwL, srcC, srcZ, srcM, isBoolT, isPtrT, isSliceT, uOk, Value.oneCell', Nat.reducePow, Int.reducePow, Nat.reduceAdd, Nat.reduceMul, Nat.reduceSub, Nat.reduceLT, Nat.reduceLeDiff, Nat.reduceEqDiff, Nat.reduceBEq, Nat.reduceDiv, Nat.reduceMod, ↓reduceIte, reduceCtorEq, Int.reduceToNat, Int.reduceLT, Int.reduceLE, TFExF, SeqQ, BlkQ, LoopQ, BodyQ, k1, e2, FR])
      | (refine WP.seq fun K hK => ?_)
      | (refine WP.region (rvc_sound _ _ (Sm.out ?_)))
      | (refine WP.drawK rfl mixed (by decide +kernel) (Sm.out ?_))
      | (refine Ob.mk ?_; focus (first | assumption | omega | decide | trivial | (intro hob; simp only [hob, ZF]; done) | (intros; (repeat' refine And.intro ?_ ?_) <;> first | assumption | omega | trivial | decide) | (intros; simp only [ZE] at *; (repeat' refine And.intro ?_ ?_) <;> first | assumption | omega | trivial)))
      | (refine And.intro (Ob.out ?_) ?_)
      | (refine WP.block ?_)
      | (refine WP.cond rfl (fun hc => ?_) (fun hc => ?_) <;> (try simp only [ZC, reduceCtorEq, ZD] at hc) <;> (try (exact absurd hc (by decide))) <;> (try (exfalso; omega)))
      | ((first | refine WP.skip ?_ | refine WP.exit ?_); simp only [SeqQ, BlkQ, LoopQ, BodyQ, ↓reduceIte, Nat.reduceEqDiff, reduceCtorEq, look, true_and])
      | (refine WP.ret (Sm.out ?_))
      | (first | refine ExG.no (Sm.out ?_) | refine Or.inl (ExG.no (Sm.out ?_)) | refine Or.inl (And.intro (fun hg => absurd hg (by decide)) (ExG.no (Sm.out ?_))))
      | (refine Rt.mk ?_; refine And.intro ?_ ?_ <;> (intro hg; first | exact absurd hg (by decide) | refine Sm.out ?_))
      | (refine Nu.mk ?_; first | (fail_if_success (have := nb1)); intro nb1 | (fail_if_success (have := nb2)); intro nb2 | (fail_if_success (have := nb3)); intro nb3 | (fail_if_success (have := nb4)); intro nb4 | (fail_if_success (have := nb5)); intro nb5 | intro nbz)
      | (refine Fr.mk ?_; intro hfr; replace FR := And.intro hfr FR; clear hfr; refine Sm.out ?_)
      | (refine Two.mk ?_ ?_)
      | (refine Cs.mk ?_; intro hcs; first | exact False.elim hcs | (exfalso; omega) | (refine Sm.out ?_))
      | go_step
      | omega
      | (simp only [maxLen_eq]; omega)
    (refine OutQ.wk (Wk.freezeC (b) (1) (by simp only [ZK, rvc, drawF, headN, pureH, stp, dvc, calleeOf, gcall, pev, eff, newB, okd, og, ogs, ogo, ogp, slv, bltv, opd, litv, strip, one, both, putE, St.put, look, gdOf, gdv, picka, pickv, pickw, binv, bini, bins, binb, binp, binq, isSlT, bina, shp, eqCells, unv, convv, nilv, faddv, addp, idxav, idxp, load1, load1m, loadn, loadnm, loadv, hget, hset, hrep, hdel, slicev, bnd, shift1, lenv, capv, IntKind.bits, extractv, fieldv, indexv, min2v, max2v, mkiv, cellsA, fillA, buildv, stC, oneC, rowMB, intsA, plN, appE, appZ, appC, appNZ, appNC, VwL, srcC, srcZ, srcM, isBoolT, isPtrT, isSliceT, uOk, Value.oneCell', Nat.reducePow, Int.reducePow, Nat.reduceAdd, Nat.reduceMul, Nat.reduceSub, Nat.reduceLT, Nat.reduceLeDiff, Nat.reduceEqDiff, Nat.reduceBEq, Nat.reduceDiv, Nat.reduceMod, ↓reduceIte, reduceCtorEq, Int.reduceToNat, Int.reduceLT, Int.reduceLE, TFExF, SeqQ, BlkQ, LoopQ, BodyQ, e2, e5, h2, h3, FR]; first | done | rfl)) ?_; simp only [frzCE, frzC, ZK, rvc, drawF, headN, pureH, stp, dvc, calleeOf, gcall, pev, eff, newB, okd, og, ogs, ogo, ogp, slv, bltv, opd, litv, strip, one, both, putE, St.put, look, gdOf, gdv, picka, pickv, pickw, binv, bini, bins, binb, binp, binq, isSlT, bina, shp, eqCells, unv, convv, nilv, faddv, addp, idxav, idxp, load1, load1m, loadn, loadnm, loadv, hget, hset, hrep, hdel, slicev, bnd, shift1, lenv, capv, IntKind.bits, extractv, fieldv, indexv, min2v, max2v, mkiv, cellsA, fillA, buildv, stC, oneC, rowMB, intsA, plN, appE, appZ, appC, appNZ, appNC, VwL, srcC, srcZ, srcM, isBoolT, isPtrT, isSliceT, uOk, Value.oneCell', Nat.reducePow, Int.reducePow, Nat.reduceAdd, Nat.reduceMul, Nat.reduceSub, Nat.reduceLT, Nat.reduceLeDiff, Nat.reduceEqDiff, Nat.reduceBEq, Nat.reduceDiv, Nat.reduceMod, ↓reduceIte, reduceCtorEq, Int.reduceToNat, Int.reduceLT, Int.reduceLE, TFExF, SeqQ, BlkQ, LoopQ, BodyQ, e2, e5, h2, h3, FR])
    (refine OutQ.all ?_ ?_; (focus (simp only [resv, ZK, look, loadv, loadn, loadnm, load1, load1m, hget, ↓reduceIte, Nat.reduceEqDiff, Nat.reduceAdd, Nat.reduceMul, Nat.reduceLeDiff, Nat.reduceLT, reduceCtorEq, TFExF])); (try simp only [resv, resA, Fn, ZK, look, loadv, loadn, loadnm, load1, load1m, hget, ↓reduceIte, Nat.reduceEqDiff, Nat.reduceAdd, Nat.reduceMul, Nat.reduceLeDiff, Nat.reduceLT, reduceCtorEq, TFExF]); (try simp [resA, Fn, look]))
end Go.Proofs.Ytngdgicgppaeaaa
namespace Go.Proofs.Ytngdgicgppaeaaa
open Go
set_option linter.unusedVariables false
/-- One digit of a long division: the greatest q with q*y ≤ u*B+c. -/
structure DInvD (B yn1 yn0 u c q r : Nat) : Prop where
  eq : q * yn1 + r = u
  ge : (u * B + c) / (yn1 * B + yn0) ≤ q
theorem dig_start {B yn1 yn0 u c : Nat} (h1 : 0 < yn1) (hc : c < B) (hB : 0 < B) : DInvD B yn1 yn0 u c (u / yn1) (u - u / yn1 * yn1) := by
  have e : u / yn1 * yn1 ≤ u := Nat.div_mul_le_self u yn1
  refine ⟨by omega, ?_⟩
  have hy : 0 < yn1 * B + yn0 := Nat.add_pos_left (Nat.mul_pos h1 hB) _
  rw [Nat.le_div_iff_mul_le h1]
  have hq : (u * B + c) / (yn1 * B + yn0) * (yn1 * B + yn0) ≤ u * B + c := Nat.div_mul_le_self _ _
  generalize (u * B + c) / (yn1 * B + yn0) = q at *
  rw [Nat.mul_add, ← Nat.mul_assoc] at hq
  have h2 : q * yn1 * B < (u + 1) * B := by rw [Nat.add_mul]; omega
  have := Nat.lt_of_mul_lt_mul_right h2
  omega
theorem dig_stop {B yn1 yn0 u c q r : Nat} (h1 : 0 < yn1) (hB : 0 < B) (D : DInvD B yn1 yn0 u c q r) (ht : q * yn0 ≤ B * r + c) : q = (u * B + c) / (yn1 * B + yn0) := by
  have hy : 0 < yn1 * B + yn0 := Nat.add_pos_left (Nat.mul_pos h1 hB) _
  refine Nat.le_antisymm ?_ D.ge
  rw [Nat.le_div_iff_mul_le hy, Nat.mul_add, ← Nat.mul_assoc, ← D.eq, Nat.add_mul]
  have : B * r = r * B := Nat.mul_comm _ _
  omega
theorem dig_lt {B y u c : Nat} (hu : u < y) (hc : c < B) : (u * B + c) / y < B := by
  rw [Nat.div_lt_iff_lt_mul (by omega)]
  have h : (u + 1) * B ≤ y * B := Nat.mul_le_mul_right _ hu
  rw [Nat.add_mul, Nat.mul_comm y B] at h
  omega
theorem dig_next {B yn1 yn0 u c q r : Nat} (h1 : 0 < yn1) (hB : 0 < B) (hu : u < yn1 * B + yn0) (hc : c < B) (D : DInvD B yn1 yn0 u c q r) (ht : B ≤ q ∨ B * r + c < q * yn0) : 0 < q ∧ DInvD B yn1 yn0 u c (q - 1) (r + yn1) := by
  have hy : 0 < yn1 * B + yn0 := Nat.add_pos_left (Nat.mul_pos h1 hB) _
  have hq : 0 < q := by
    rcases ht with h | h
    · omega
    · apply Nat.pos_of_ne_zero; intro e; rw [e, Nat.zero_mul] at h; omega
  refine ⟨hq, ?_, ?_⟩
  · have e : q * yn1 = (q - 1) * yn1 + yn1 := by
      conv => lhs; rw [show q = (q - 1) + 1 by omega, Nat.add_mul, Nat.one_mul]
    have := D.eq
    omega
  · have hlt : (u * B + c) / (yn1 * B + yn0) < q := by
      rcases ht with h | h
      · have := dig_lt hu hc; omega
      · rw [Nat.div_lt_iff_lt_mul hy, Nat.mul_add, ← Nat.mul_assoc, ← D.eq, Nat.add_mul]
        have : B * r = r * B := Nat.mul_comm _ _
        omega
    omega
theorem dig_break {B yn1 yn0 u c q r : Nat} (h1 : 0 < yn1) (hB : 0 < B) (h0 : yn0 < B) (hu : u < yn1 * B + yn0) (D : DInvD B yn1 yn0 u c q r) (hr : B ≤ r) : q = (u * B + c) / (yn1 * B + yn0) := by
  refine dig_stop h1 hB D ?_
  have hq : q < B := by
    have : q * yn1 < B * yn1 := by rw [Nat.mul_comm B yn1]; have := D.eq; omega
    exact Nat.lt_of_mul_lt_mul_right this
  have h2 : q * yn0 ≤ B * B := Nat.mul_le_mul (by omega) (by omega)
  have h3 : B * B ≤ B * r := Nat.mul_le_mul_left _ hr
  omega
/-- two digits are one number -/
theorem two_digits {B y u c1 c0 : Nat} (hu : u < y) (h1 : c1 < B) (h0 : c0 < B) :
    ((u * B + c1) * B + c0) / y = (u * B + c1) / y * B + ((u * B + c1) % y * B + c0) / y ∧ ((u * B + c1) * B + c0) % y = ((u * B + c1) % y * B + c0) % y := by
  have hy : 0 < y := by omega
  have e : (u * B + c1) * B + c0 = ((u * B + c1) % y * B + c0) + y * ((u * B + c1) / y * B) := by
    have h := Nat.div_add_mod (u * B + c1) y
    generalize u * B + c1 = a at *
    conv => lhs; rw [← h, Nat.add_mul, Nat.mul_assoc]
    omega
  rw [e, Nat.add_mul_div_left _ _ hy, Nat.add_mul_mod_self_left]
  omega
theorem or_shift (a b s : Nat) (ha : a * 2 ^ s < 18446744073709551616) (hb : b < 2 ^ s) (hb2 : b < 18446744073709551616) : ibit .or .u64 ((a * 2 ^ s : Nat) : Int) (b : Int) = ((a * 2 ^ s + b : Nat) : Int) := by
  have e : ibit .or .u64 ((a * 2 ^ s : Nat) : Int) (b : Int) = IntKind.u64.wrap ((BitVec.ofInt 64 ((a * 2 ^ s : Nat) : Int) ||| BitVec.ofInt 64 ((b : Nat) : Int)).toNat : Int) := rfl
  have h2 : a * 2 ^ s ||| b = a * 2 ^ s + b := by rw [Nat.mul_comm, Nat.two_pow_add_eq_or_of_lt hb]
  rw [e, ofInt_nat, ofInt_nat, BitVec.toNat_or, BitVec.toNat_ofNat, BitVec.toNat_ofNat, Nat.mod_eq_of_lt ha, Nat.mod_eq_of_lt hb2, h2]
  have h3 : a * 2 ^ s + b < 18446744073709551616 := by
    rw [← h2]; exact Nat.or_lt_two_pow (n := 64) ha hb2
  exact wrap_u64_nat h3
theorem norm_bd {y : Nat} (h0 : 0 < y) (h : y < 18446744073709551616) : 1 ≤ lenN y ∧ lenN y ≤ 64 ∧ y * 2 ^ (64 - lenN y) < 18446744073709551616 ∧ 9223372036854775808 ≤ y * 2 ^ (64 - lenN y) := by
  have h1 : lenN y ≤ 64 := lenN_le.2 h
  have h2 : 1 ≤ lenN y := by
    apply Classical.byContradiction; intro hc
    have := lenN_le.1 (show lenN y ≤ 0 by omega)
    omega
  have h3 := lenN_le.1 (Nat.le_refl (lenN y))
  have h4 : 2 ^ (lenN y - 1) ≤ y := by
    apply Classical.byContradiction; intro hc
    have := lenN_le.2 (show y < 2 ^ (lenN y - 1) by omega)
    omega
  have e1 : 2 ^ lenN y * 2 ^ (64 - lenN y) = 18446744073709551616 := by rw [← Nat.pow_add, show lenN y + (64 - lenN y) = 64 by omega]
  have e2 : 2 ^ (lenN y - 1) * 2 ^ (64 - lenN y) = 9223372036854775808 := by rw [← Nat.pow_add, show lenN y - 1 + (64 - lenN y) = 63 by omega]
  refine ⟨h2, h1, ?_, ?_⟩
  · rw [← e1]; exact Nat.mul_lt_mul_of_pos_right h3 (Nat.two_pow_pos _)
  · rw [← e2]; exact Nat.mul_le_mul_right _ h4
/-- the number that is divided, moved up -/
theorem shift_parts {hi lo y s : Nat} (hy : hi < y) (hlo : lo < 18446744073709551616) (hs : s ≤ 64) (hY : y * 2 ^ s < 18446744073709551616) :
    hi * 2 ^ s + lo / 2 ^ (64 - s) < y * 2 ^ s ∧ lo / 2 ^ (64 - s) < 2 ^ s ∧ hi * 2 ^ s < 18446744073709551616 ∧
    (hi * 18446744073709551616 + lo) * 2 ^ s = (hi * 2 ^ s + lo / 2 ^ (64 - s)) * 18446744073709551616 + lo * 2 ^ s % 18446744073709551616 := by
  have e1 : 2 ^ (64 - s) * 2 ^ s = 18446744073709551616 := by rw [← Nat.pow_add, show 64 - s + s = 64 by omega]
  have h1 : lo / 2 ^ (64 - s) < 2 ^ s := by rw [Nat.div_lt_iff_lt_mul (Nat.two_pow_pos _), Nat.mul_comm, e1]; exact hlo
  have h2 : (hi + 1) * 2 ^ s ≤ y * 2 ^ s := Nat.mul_le_mul_right _ hy
  rw [Nat.add_mul, Nat.one_mul] at h2
  have e2 : lo * 2 ^ s / 18446744073709551616 = lo / 2 ^ (64 - s) := by rw [← e1, Nat.mul_div_mul_right _ _ (Nat.two_pow_pos s)]
  refine ⟨by omega, h1, by omega, ?_⟩
  rw [Nat.add_mul, Nat.add_mul, Nat.mul_right_comm]
  have := Nat.div_add_mod (lo * 2 ^ s) 18446744073709551616
  rw [e2] at this
  omega
theorem unshift {a y s : Nat} (hy : 0 < y) : a * 2 ^ s / (y * 2 ^ s) = a / y ∧ a * 2 ^ s % (y * 2 ^ s) / 2 ^ s = a % y := by
  rw [Nat.mul_div_mul_right _ _ (Nat.two_pow_pos s), Nat.mul_mod_mul_right, Nat.mul_div_cancel _ (Nat.two_pow_pos s)]
  exact ⟨rfl, rfl⟩
end Go.Proofs.Ytngdgicgppaeaaa
namespace Go.Proofs.Ytngdgicgppaeaaa
open Go
set_option linter.unusedVariables false
set_option linter.unusedSimpArgs false
theorem TFExD : (((((type_of% tyc0) ∧ (type_of% tyc3)) ∧ ((type_of% zmb3) ∧ (type_of% tyc4))) ∧ (((type_of% zmb4) ∧ (type_of% tyc22)) ∧ ((type_of% zmb22) ∧ (type_of% tyc61)))) ∧ ((((type_of% zmb61) ∧ (type_of% tyc86)) ∧ ((type_of% zmb86) ∧ (type_of% Try.underlying0))) ∧ (((type_of% Try.underlying3) ∧ (type_of% Try.underlying4)) ∧ ((type_of% Try.underlying22) ∧ ((type_of% Try.underlying61) ∧ (type_of% Try.underlying86)))))) :=
  ⟨⟨⟨⟨tyc0, tyc3⟩, ⟨zmb3, tyc4⟩⟩, ⟨⟨zmb4, tyc22⟩, ⟨zmb22, tyc61⟩⟩⟩, ⟨⟨⟨zmb61, tyc86⟩, ⟨zmb86, Try.underlying0⟩⟩, ⟨⟨Try.underlying3, Try.underlying4⟩, ⟨Try.underlying22, ⟨Try.underlying61, Try.underlying86⟩⟩⟩⟩⟩
theorem lz_ct (x : Nat) (hx : x < 18446744073709551616) : ACt Try.prog 54 [nu x] [] (Fn (iv .i64 ((64 - lenN x : Nat) : Int))) := by
  refine ACt.intro Try.func54 rfl (by kernel_rfl) (by simp [Try.ntmps54]) (fun cx => ?_)
  simp only [argE, Try.ntmps54, Try.results54]
  have h1 : lenN x ≤ 64 := lenN_le.2 hx
  have e1 : IntKind.i64.wrap (64 - ((lenN x : Nat) : Int)) = ((64 - lenN x : Nat) : Int) := by rw [wrap_i64 (by omega) (by omega)]; omega
  first | (have FRx := FR; clear FRx) | (have FR : ¬ ((1 : Nat) = 0) := Nat.one_ne_zero)
  repeat' first
    | (refine Sm.mk ?_; try simp -dsimp only [ZK, rvc, drawF, headN, pureH, stp, dvc, calleeOf, gcall, pev, eff, newB, okd, og, ogs, ogo, ogp, slv, bltv, opd, litv, strip, one, both, putE, St.put, look, gdOf, gdv, picka, pickv, pickw, binv, bini, bins, binb, binp, binq, isSlT, bina, shp, eqCells, unv, convv, nilv, faddv, addp, idxav, idxp, load1, load1m, loadn, loadnm, loadv, hget, hset, hrep, hdel, slicev, bnd, shift1, lenv, capv, IntKind.bits, extractv, fieldv, indexv, min2v, max2v, mkiv, cellsA, fillA, buildv, stC, oneC, rowMB, intsA, plN, appE, appZ, appC, appNZ, appNC, VwL, srcC, srcZ, srcM, isBoolT, isPtrT, isSliceT, uOk, Value.oneCell', Nat.reducePow, Int.reducePow, Nat.reduceAdd, Nat.reduceMul, Nat.reduceSub, Nat.reduceLT, Nat.reduceLeDiff, Nat.reduceEqDiff, Nat.reduceBEq, Nat.reduceDiv, Nat.reduceMod, ↓reduceIte, reduceCtorEq, Int.reduceToNat, Int.reduceLT, Int.reduceLE, TFExD, SeqQ, BlkQ, LoopQ, BodyQ, e1, FR])
    | (first | refine CallV.fn (len64_ct x hx) (Sm.out ?_) | refine ExF.mk (len64_ct x hx) (Sm.out ?_) | refine ExG.mk (fun _ => len64_ct x hx) (Sm.out ?_) | refine ExG.mkJ (fun _ => len64_ct x hx) (Sm.out ?_) | refine ExG.mkI (Ob.out ?_) (fun _ => len64_ct x hx) (Sm.out ?_))
    | (refine WP.seq fun K hK => ?_)
    | (refine WP.region (rvc_sound _ _ (Sm.out ?_)))
    | (refine WP.drawK rfl mixed (by decide +kernel) (Sm.out ?_))
    | (refine Ob.mk ?_; focus (first | assumption | omega | decide | trivial | (intro hob; simp only [hob, ZF]; done) | (intros; (repeat' refine And.intro ?_ ?_) <;> first | assumption | omega | trivial | decide) | (intros; simp only [ZE] at *; (repeat' refine And.intro ?_ ?_) <;> first | assumption | omega | trivial)))
    | (refine And.intro (Ob.out ?_) ?_)
    | (refine WP.block ?_)
    | (refine WP.cond rfl (fun hc => ?_) (fun hc => ?_) <;> (try simp only [ZC, reduceCtorEq, ZD] at hc) <;> (try (exact absurd hc (by decide))) <;> (try (exfalso; omega)))
    | ((first | refine WP.skip ?_ | refine WP.exit ?_); simp only [SeqQ, BlkQ, LoopQ, BodyQ, ↓reduceIte, Nat.reduceEqDiff, reduceCtorEq, look, true_and])
    | (refine WP.ret (Sm.out ?_))
    | (first | refine ExG.no (Sm.out ?_) | refine Or.inl (ExG.no (Sm.out ?_)) | refine Or.inl (And.intro (fun hg => absurd hg (by decide)) (ExG.no (Sm.out ?_))))
    | (refine Rt.mk ?_; refine And.intro ?_ ?_ <;> (intro hg; first | exact absurd hg (by decide) | refine Sm.out ?_))
    | (refine Nu.mk ?_; first | (fail_if_success (have := nb1)); intro nb1 | (fail_if_success (have := nb2)); intro nb2 | (fail_if_success (have := nb3)); intro nb3 | intro nbz)
    | (refine Fr.mk ?_; intro hfr; replace FR := And.intro hfr FR; clear hfr; refine Sm.out ?_)
    | (refine Two.mk ?_ ?_)
    | (refine Cs.mk ?_; intro hcs; first | exact False.elim hcs | (exfalso; omega) | (refine Sm.out ?_))
    | (refine OutQ.all ?_ ?_; (focus (simp only [resv, ZK, look, loadv, loadn, loadnm, load1, load1m, hget, ↓reduceIte, Nat.reduceEqDiff, Nat.reduceAdd, Nat.reduceMul, Nat.reduceLeDiff, Nat.reduceLT, reduceCtorEq, TFExD, e1, FR])); (try simp only [resv, resA, Fn, ZK, look, loadv, loadn, loadnm, load1, load1m, hget, ↓reduceIte, Nat.reduceEqDiff, Nat.reduceAdd, Nat.reduceMul, Nat.reduceLeDiff, Nat.reduceLT, reduceCtorEq, TFExD, e1, FR]); (try simp [resA, Fn, look, e1, FR]); done)
    | go_step
    | omega
    | (simp only [maxLen_eq]; omega)
structure DG where
  q : Nat
  r : Nat
set_option maxRecDepth 8000 in
set_option maxHeartbeats 4000000 in
theorem div64_ct (hi lo y : Nat) (hy : hi < y) (hy2 : y < 18446744073709551616) (hlo : lo < 18446744073709551616) :
    ACt Try.prog 51 [nu hi, nu lo, nu y] [] (Fn (.tup [nu ((hi * 18446744073709551616 + lo) / y), nu ((hi * 18446744073709551616 + lo) % y)])) := by
  refine ACt.intro Try.func51 rfl (by kernel_rfl) (by simp [Try.ntmps51]) (fun cx => ?_)
  simp only [argE, Try.ntmps51, Try.results51]
  have k0 : ((y : Int) == 0) = false := beq_eq_false_iff_ne.2 (by omega)
  have k1 : decide ((y : Int) ≤ hi) = false := by simp; omega
  have k2 : (y : Int) ≠ 0 := by omega
  by_cases h0 : hi = 0
  · subst h0
    have hlt : lo / y ≤ lo := Nat.div_le_self _ _
    have hm : lo % y < y := Nat.mod_lt _ (by omega)
    have e1 : (lo : Int).tdiv (y : Int) = ((lo / y : Nat) : Int) := tdiv_nat lo y
    have e2 : (lo : Int).tmod (y : Int) = ((lo % y : Nat) : Int) := tmod_nat lo y
    have e3 : IntKind.u64.wrap ((lo / y : Nat) : Int) = ((lo / y : Nat) : Int) := wrap_u64_nat (by omega)
    have e4 : IntKind.u64.wrap ((lo % y : Nat) : Int) = ((lo % y : Nat) : Int) := wrap_u64_nat (by omega)
    have z0 : (((0 : Nat) : Int) == 0) = true := by decide
    rw [Nat.zero_mul, Nat.zero_add]
    first | (have FRx := FR; clear FRx) | (have FR : ¬ ((1 : Nat) = 0) := Nat.one_ne_zero)
    repeat' first
      | (refine Sm.mk ?_; try simp -dsimp only [ZK, rvc, drawF, headN, pureH, stp, dvc, calleeOf, gcall, pev, eff, newB, okd, og, ogs, ogo, ogp, slv, bltv, opd, litv, strip, one, both, putE, St.put, look, gdOf, gdv, picka, pickv, pickw, binv, bini, bins, binb, binp, binq, isSlT, bina, shp, eqCells, unv, convv, nilv, faddv, addp, idxav, idxp, load1, load1m, loadn, loadnm, loadv, hget, hset, hrep, hdel, slicev, bnd, shift1, lenv, capv, IntKind.bits, extractv, fieldv, indexv, min2v, max2v, mkiv, cellsA, fillA, buildv, stC, oneC, rowMB, intsA, plN, appE, appZ, appC, appNZ, appNC, VwL, srcC, srcZ, srcM, isBoolT, isPtrT, isSliceT, uOk, Value.oneCell', Nat.reducePow, Int.reducePow, Nat.reduceAdd, Nat.reduceMul, Nat.reduceSub, Nat.reduceLT, Nat.reduceLeDiff, Nat.reduceEqDiff, Nat.reduceBEq, Nat.reduceDiv, Nat.reduceMod, ↓reduceIte, reduceCtorEq, Int.reduceToNat, Int.reduceLT, Int.reduceLE, TFExD, SeqQ, BlkQ, LoopQ, BodyQ, k0, k1, k2, z0, e1, e2, e3, e4, FR])
      | (refine WP.seq fun K hK => ?_)
      | (refine WP.region (rvc_sound _ _ (Sm.out ?_)))
      | (refine WP.drawK rfl mixed (by decide +kernel) (Sm.out ?_))
      | (refine Ob.mk ?_; focus (first | assumption | omega | decide | trivial | (intro hob; simp only [hob, ZF]; done) | (intros; (repeat' refine And.intro ?_ ?_) <;> first | assumption | omega | trivial | decide) | (intros; simp only [ZE] at *; (repeat' refine And.intro ?_ ?_) <;> first | assumption | omega | trivial)))
      | (refine And.intro (Ob.out ?_) ?_)
      | (refine WP.block ?_)
      | (refine WP.cond rfl (fun hc => ?_) (fun hc => ?_) <;> (try simp only [ZC, reduceCtorEq, ZD] at hc) <;> (try (exact absurd hc (by decide))) <;> (try (exfalso; omega)))
      | ((first | refine WP.skip ?_ | refine WP.exit ?_); simp only [SeqQ, BlkQ, LoopQ, BodyQ, ↓reduceIte, Nat.reduceEqDiff, reduceCtorEq, look, true_and])
      | (refine WP.ret (Sm.out ?_))
      | (first | refine ExG.no (Sm.out ?_) | refine Or.inl (ExG.no (Sm.out ?_)) | refine Or.inl (And.intro (fun hg => absurd hg (by decide)) (ExG.no (Sm.out ?_))))
      | (refine Rt.mk ?_; refine And.intro ?_ ?_ <;> (intro hg; first | exact absurd hg (by decide) | refine Sm.out ?_))
      | (refine Nu.mk ?_; first | (fail_if_success (have := nb1)); intro nb1 | (fail_if_success (have := nb2)); intro nb2 | (fail_if_success (have := nb3)); intro nb3 | intro nbz)
      | (refine Fr.mk ?_; intro hfr; replace FR := And.intro hfr FR; clear hfr; refine Sm.out ?_)
      | (refine Two.mk ?_ ?_)
      | (refine Cs.mk ?_; intro hcs; first | exact False.elim hcs | (exfalso; omega) | (refine Sm.out ?_))
      | (refine OutQ.all ?_ ?_; (focus (simp only [resv, ZK, look, loadv, loadn, loadnm, load1, load1m, hget, ↓reduceIte, Nat.reduceEqDiff, Nat.reduceAdd, Nat.reduceMul, Nat.reduceLeDiff, Nat.reduceLT, reduceCtorEq, TFExD, k0, k1, k2, z0, e1, e2, e3, e4, FR])); (try simp only [resv, resA, Fn, ZK, look, loadv, loadn, loadnm, load1, load1m, hget, ↓reduceIte, Nat.reduceEqDiff, Nat.reduceAdd, Nat.reduceMul, Nat.reduceLeDiff, Nat.reduceLT, reduceCtorEq, TFExD, k0, k1, k2, z0, e1, e2, e3, e4, FR]); (try simp [resA, Fn, look, k0, k1, k2, z0, e1, e2, e3, e4, FR]); done)
      | go_step
      | omega
      | (simp only [maxLen_eq]; omega)
  · have k3 : ((hi : Int) == 0) = false := beq_eq_false_iff_ne.2 (by omega)
    obtain ⟨n1, n2, n3, n4⟩ := norm_bd (show 0 < y by omega) hy2
    obtain ⟨s, hs⟩ : ∃ s, s = 64 - lenN y := ⟨_, rfl⟩
    have hct := lz_ct y hy2
    rw [← hs] at n3 n4 hct
    have hs64 : s ≤ 64 := by omega
    have hs63 : s ≤ 63 := by omega
    obtain ⟨p1, p2, p3, p4⟩ := shift_parts hy hlo hs64 n3
    obtain ⟨u1, u2⟩ := @unshift (hi * 18446744073709551616 + lo) y s (by omega)
    rw [p4] at u1 u2
    obtain ⟨Y, hY⟩ : ∃ Y, Y = y * 2 ^ s := ⟨_, rfl⟩
    obtain ⟨W, hW⟩ : ∃ W, W = lo * 2 ^ s % 18446744073709551616 := ⟨_, rfl⟩
    have hWlt : W < 18446744073709551616 := by rw [hW]; exact Nat.mod_lt _ (by omega)
    have w1 : IntKind.u64.wrap (s : Int) = (s : Int) := wrap_u64_nat (by omega)
    have w2 : IntKind.u64.wrap ((y : Int) * 2 ^ s) = (Y : Int) := by
      have : (y : Int) * 2 ^ s = ((y * 2 ^ s : Nat) : Int) := by simp
      rw [this, ← hY, wrap_u64_nat (by omega)]
    have w3 : IntKind.u64.wrap ((hi : Int) * 2 ^ s) = ((hi * 2 ^ s : Nat) : Int) := by
      have : (hi : Int) * 2 ^ s = ((hi * 2 ^ s : Nat) : Int) := by simp
      rw [this, wrap_u64_nat (by omega)]
    have w4 : IntKind.u64.wrap (64 - (s : Int)) = ((64 - s : Nat) : Int) := by rw [wrap_u64 (by omega) (by omega)]; omega
    have w4' : 64 - s ≤ 64 := by omega
    have w5 : (lo : Int).fdiv (2 ^ (64 - s)) = ((lo / 2 ^ (64 - s) : Nat) : Int) := fdiv_pow lo _
    have w6 : IntKind.u64.wrap ((lo : Int) * 2 ^ s) = (W : Int) := by
      have : (lo : Int) * 2 ^ s = ((lo * 2 ^ s : Nat) : Int) := by simp
      rw [this, wrap_u64_big, hW]
    obtain ⟨u, hu⟩ : ∃ u, u = hi * 2 ^ s + lo / 2 ^ (64 - s) := ⟨_, rfl⟩
    have hb1 : lo / 2 ^ (64 - s) < 18446744073709551616 := Nat.lt_of_le_of_lt (Nat.div_le_self _ _) hlo
    have w7 := or_shift hi (lo / 2 ^ (64 - s)) s p3 p2 hb1
    rw [← hu] at w7 u1 u2 p1
    rw [← hY] at p1 u1 u2 n3 n4
    rw [← hW] at u1 u2
    have f32 : ∀ n : Nat, (n : Int).fdiv 4294967296 = ((n / 4294967296 : Nat) : Int) := fun n => by rw [Int.fdiv_eq_ediv_of_nonneg _ (by omega)]; simp
    have a1 := and_low32 Y n3
    have a2 := and_low32 W hWlt
    obtain ⟨yn1, hyn1⟩ : ∃ a, a = Y / 4294967296 := ⟨_, rfl⟩
    obtain ⟨yn0, hyn0⟩ : ∃ a, a = Y % 4294967296 := ⟨_, rfl⟩
    obtain ⟨un1, hun1⟩ : ∃ a, a = W / 4294967296 := ⟨_, rfl⟩
    obtain ⟨un0, hun0⟩ : ∃ a, a = W % 4294967296 := ⟨_, rfl⟩
    have f1 : (Y : Int).fdiv 4294967296 = (yn1 : Int) := by rw [f32, hyn1]
    have f2 : (W : Int).fdiv 4294967296 = (un1 : Int) := by rw [f32, hun1]
    rw [← hyn0] at a1
    rw [← hun0] at a2
    have b1 : 2147483648 ≤ yn1 := by omega
    have b2 : yn1 < 4294967296 := by omega
    have b3 : yn0 < 4294967296 := by omega
    have b4 : un1 < 4294967296 := by omega
    have b5 : un0 < 4294967296 := by omega
    have eY : Y = yn1 * 4294967296 + yn0 := by omega
    have eW : u * 18446744073709551616 + W = (u * 4294967296 + un1) * 4294967296 + un0 := by omega
    have hult : u < yn1 * 4294967296 + yn0 := by omega
    rw [eW] at u1 u2
    obtain ⟨t1, t2⟩ := two_digits p1 b4 b5
    rw [t1] at u1
    rw [t2] at u2
    have D1 := @dig_start 4294967296 yn1 yn0 u un1 (by omega) b4 (by omega)
    have hq1 : u / yn1 ≤ u := Nat.div_le_self _ _
    have hm1 : u / yn1 * yn1 ≤ u := Nat.div_mul_le_self _ _
    have g1 : (u : Int).tdiv (yn1 : Int) = ((u / yn1 : Nat) : Int) := tdiv_nat u yn1
    have g2 : IntKind.u64.wrap ((u / yn1 : Nat) : Int) = ((u / yn1 : Nat) : Int) := wrap_u64_nat (by omega)
    have g3 : IntKind.u64.wrap (((u / yn1 : Nat) : Int) * (yn1 : Int)) = ((u / yn1 * yn1 : Nat) : Int) := by rw [← Int.natCast_mul, wrap_u64_nat (by omega)]
    have g4 : IntKind.u64.wrap ((u : Int) - ((u / yn1 * yn1 : Nat) : Int)) = ((u - u / yn1 * yn1 : Nat) : Int) := by rw [wrap_u64 (by omega) (by omega)]; omega
    have g5 : (yn1 : Int) ≠ 0 := by omega
    first | (have FRx := FR; clear FRx) | (have FR : ¬ ((1 : Nat) = 0) := Nat.one_ne_zero)
    repeat' first
      | (refine Sm.mk ?_; try simp -dsimp only [ZK, rvc, drawF, headN, pureH, stp, dvc, calleeOf, gcall, pev, eff, newB, okd, og, ogs, ogo, ogp, slv, bltv, opd, litv, strip, one, both, putE, St.put, look, gdOf, gdv, picka, pickv, pickw, binv, bini, bins, binb, binp, binq, isSlT, bina, shp, eqCells, unv, convv, nilv, faddv, addp, idxav, idxp, load1, load1m, loadn, loadnm, loadv, hget, hset, hrep, hdel, slicev, bnd, shift1, lenv, capv, IntKind.bits, extractv, fieldv, indexv, min2v, max2v, mkiv, cellsA, fillA, buildv, stC, oneC, rowMB, intsA, plN, appE, appZ, appC, appNZ, appNC, VwL, srcC, srcZ, srcM, isBoolT, isPtrT, isSliceT, uOk, Value.oneCell', Nat.reducePow, Int.reducePow, Nat.reduceAdd, Nat.reduceMul, Nat.reduceSub, Nat.reduceLT, Nat.reduceLeDiff, Nat.reduceEqDiff, Nat.reduceBEq, Nat.reduceDiv, Nat.reduceMod, ↓reduceIte, reduceCtorEq, Int.reduceToNat, Int.reduceLT, Int.reduceLE, TFExD, SeqQ, BlkQ, LoopQ, BodyQ, k0, k1, k2, k3, w1, w2, w3, w4, w4', w5, w6, w7, hs64, f1, f2, a1, a2, g1, g2, g3, g4, g5, FR])
      | (first | refine CallV.fn (hct) (Sm.out ?_) | refine ExF.mk (hct) (Sm.out ?_) | refine ExG.mk (fun _ => hct) (Sm.out ?_) | refine ExG.mkJ (fun _ => hct) (Sm.out ?_) | refine ExG.mkI (Ob.out ?_) (fun _ => hct) (Sm.out ?_))
      | (refine WP.seq fun K hK => ?_)
      | ((fail_if_success (show WP _ _ _ (.region 17 _ _) _ _)); refine WP.region (rvc_sound _ _ (Sm.out ?_)))
      | ((fail_if_success (show WP _ _ _ (.region 17 _ _) _ _)); refine WP.drawK rfl mixed (by decide +kernel) (Sm.out ?_))
      | (refine Ob.mk ?_; focus (first | assumption | omega | decide | trivial | (intro hob; simp only [hob, ZF]; done) | (intros; (repeat' refine And.intro ?_ ?_) <;> first | assumption | omega | trivial | decide) | (intros; simp only [ZE] at *; (repeat' refine And.intro ?_ ?_) <;> first | assumption | omega | trivial)))
      | (refine And.intro (Ob.out ?_) ?_)
      | (refine WP.block ?_)
      | (refine WP.cond rfl (fun hc => ?_) (fun hc => ?_) <;> (try simp only [ZC, reduceCtorEq, ZD] at hc) <;> (try (exact absurd hc (by decide))) <;> (try (exfalso; omega)))
      | ((first | refine WP.skip ?_ | refine WP.exit ?_); simp only [SeqQ, BlkQ, LoopQ, BodyQ, ↓reduceIte, Nat.reduceEqDiff, reduceCtorEq, look, true_and])
      | (refine WP.ret (Sm.out ?_))
      | (first | refine ExG.no (Sm.out ?_) | refine Or.inl (ExG.no (Sm.out ?_)) | refine Or.inl (And.intro (fun hg => absurd hg (by decide)) (ExG.no (Sm.out ?_))))
      | (refine Rt.mk ?_; refine And.intro ?_ ?_ <;> (intro hg; first | exact absurd hg (by decide) | refine Sm.out ?_))
      | (refine Nu.mk ?_; first | (fail_if_success (have := nb1)); intro nb1 | (fail_if_success (have := nb2)); intro nb2 | (fail_if_success (have := nb3)); intro nb3 | intro nbz)
      | (refine Fr.mk ?_; intro hfr; replace FR := And.intro hfr FR; clear hfr; refine Sm.out ?_)
      | (refine Two.mk ?_ ?_)
      | (refine Cs.mk ?_; intro hcs; first | exact False.elim hcs | (exfalso; omega) | (refine Sm.out ?_))
      | go_step
      | omega
      | (simp only [maxLen_eq]; omega)
    obtain ⟨Q1, hQ1⟩ : ∃ a, a = (u * 4294967296 + un1) / Y := ⟨_, rfl⟩
    obtain ⟨v, hv⟩ : ∃ a, a = (u * 4294967296 + un1) % Y := ⟨_, rfl⟩
    rw [← hQ1, ← hv] at u1
    rw [← hv] at u2
    have hvlt : v < Y := by rw [hv]; exact Nat.mod_lt _ (by omega)
    have hQ1lt : Q1 < 4294967296 := by rw [hQ1]; exact dig_lt p1 b4
    have hQv : Q1 * Y + v = u * 4294967296 + un1 := by rw [hQ1, hv, Nat.mul_comm]; exact Nat.div_add_mod _ _
    have cont : Sm (∀ s', Sub s' ⟨[(15, nu Q1), (2, nu Y), (8, nu s), (9, nu yn1), (10, nu yn0), (11, nu u), (13, nu un1), (14, nu un0)], []⟩ → K s') := Sm.mk fun s' hsub => by
      refine hK s' (WP.sub hsub ?_)
      have D2 := @dig_start 4294967296 yn1 yn0 v un0 (by omega) b5 (by omega)
      have hq2 : v / yn1 ≤ v := Nat.div_le_self _ _
      have hm2 : v / yn1 * yn1 ≤ v := Nat.div_mul_le_self _ _
      have j1 : IntKind.u64.wrap ((u : Int) * 4294967296) = ((u * 4294967296 % 18446744073709551616 : Nat) : Int) := by rw [show (u : Int) * 4294967296 = ((u * 4294967296 : Nat) : Int) by simp, wrap_u64_big]
      have j2 : IntKind.u64.wrap (((u * 4294967296 % 18446744073709551616 : Nat) : Int) + (un1 : Int)) = (((u * 4294967296 + un1) % 18446744073709551616 : Nat) : Int) := by rw [wrap_u64_mod]; omega
      have j3 : IntKind.u64.wrap ((Q1 : Int) * (Y : Int)) = ((Q1 * Y % 18446744073709551616 : Nat) : Int) := by rw [← Int.natCast_mul, wrap_u64_big]
      have j4 : IntKind.u64.wrap ((((u * 4294967296 + un1) % 18446744073709551616 : Nat) : Int) - ((Q1 * Y % 18446744073709551616 : Nat) : Int)) = (v : Int) := by rw [wrap_u64_mod]; omega
      have g1' : (v : Int).tdiv (yn1 : Int) = ((v / yn1 : Nat) : Int) := tdiv_nat v yn1
      have g2' : IntKind.u64.wrap ((v / yn1 : Nat) : Int) = ((v / yn1 : Nat) : Int) := wrap_u64_nat (by omega)
      have g3' : IntKind.u64.wrap (((v / yn1 : Nat) : Int) * (yn1 : Int)) = ((v / yn1 * yn1 : Nat) : Int) := by rw [← Int.natCast_mul, wrap_u64_nat (by omega)]
      have g4' : IntKind.u64.wrap ((v : Int) - ((v / yn1 * yn1 : Nat) : Int)) = ((v - v / yn1 * yn1 : Nat) : Int) := by rw [wrap_u64 (by omega) (by omega)]; omega
      first | (have FRx := FR; clear FRx) | (have FR : ¬ ((1 : Nat) = 0) := Nat.one_ne_zero)
      repeat' first
        | (refine Sm.mk ?_; try simp -dsimp only [ZK, rvc, drawF, headN, pureH, stp, dvc, calleeOf, gcall, pev, eff, newB, okd, og, ogs, ogo, ogp, slv, bltv, opd, litv, strip, one, both, putE, St.put, look, gdOf, gdv, picka, pickv, pickw, binv, bini, bins, binb, binp, binq, isSlT, bina, shp, eqCells, unv, convv, nilv, faddv, addp, idxav, idxp, load1, load1m, loadn, loadnm, loadv, hget, hset, hrep, hdel, slicev, bnd, shift1, lenv, capv, IntKind.bits, extractv, fieldv, indexv, min2v, max2v, mkiv, cellsA, fillA, buildv, stC, oneC, rowMB, intsA, plN, appE, appZ, appC, appNZ, appNC, VwL, srcC, srcZ, srcM, isBoolT, isPtrT, isSliceT, uOk, Value.oneCell', Nat.reducePow, Int.reducePow, Nat.reduceAdd, Nat.reduceMul, Nat.reduceSub, Nat.reduceLT, Nat.reduceLeDiff, Nat.reduceEqDiff, Nat.reduceBEq, Nat.reduceDiv, Nat.reduceMod, ↓reduceIte, reduceCtorEq, Int.reduceToNat, Int.reduceLT, Int.reduceLE, TFExD, SeqQ, BlkQ, LoopQ, BodyQ, g1', g2', g3', g4', g5, j1, j2, j3, j4, FR])
        | (refine WP.seq fun K hK => ?_)
        | ((fail_if_success (show WP _ _ _ (.region 24 _ _) _ _)); refine WP.region (rvc_sound _ _ (Sm.out ?_)))
        | ((fail_if_success (show WP _ _ _ (.region 24 _ _) _ _)); refine WP.drawK rfl mixed (by decide +kernel) (Sm.out ?_))
        | (refine Ob.mk ?_; focus (first | assumption | omega | decide | trivial | (intro hob; simp only [hob, ZF]; done) | (intros; (repeat' refine And.intro ?_ ?_) <;> first | assumption | omega | trivial | decide) | (intros; simp only [ZE] at *; (repeat' refine And.intro ?_ ?_) <;> first | assumption | omega | trivial)))
        | (refine And.intro (Ob.out ?_) ?_)
        | (refine WP.block ?_)
        | (refine WP.cond rfl (fun hc => ?_) (fun hc => ?_) <;> (try simp only [ZC, reduceCtorEq, ZD] at hc) <;> (try (exact absurd hc (by decide))) <;> (try (exfalso; omega)))
        | ((first | refine WP.skip ?_ | refine WP.exit ?_); simp only [SeqQ, BlkQ, LoopQ, BodyQ, ↓reduceIte, Nat.reduceEqDiff, reduceCtorEq, look, true_and])
        | (refine WP.ret (Sm.out ?_))
        | (first | refine ExG.no (Sm.out ?_) | refine Or.inl (ExG.no (Sm.out ?_)) | refine Or.inl (And.intro (fun hg => absurd hg (by decide)) (ExG.no (Sm.out ?_))))
        | (refine Rt.mk ?_; refine And.intro ?_ ?_ <;> (intro hg; first | exact absurd hg (by decide) | refine Sm.out ?_))
        | (refine Nu.mk ?_; first | (fail_if_success (have := nb1)); intro nb1 | (fail_if_success (have := nb2)); intro nb2 | (fail_if_success (have := nb3)); intro nb3 | intro nbz)
        | (refine Fr.mk ?_; intro hfr; replace FR := And.intro hfr FR; clear hfr; refine Sm.out ?_)
        | (refine Two.mk ?_ ?_)
        | (refine Cs.mk ?_; intro hcs; first | exact False.elim hcs | (exfalso; omega) | (refine Sm.out ?_))
        | go_step
        | omega
        | (simp only [maxLen_eq]; omega)
      obtain ⟨Q0, hQ0⟩ : ∃ a, a = (v * 4294967296 + un0) / Y := ⟨_, rfl⟩
      obtain ⟨R0, hR0⟩ : ∃ a, a = (v * 4294967296 + un0) % Y := ⟨_, rfl⟩
      have hR0lt : R0 < Y := by rw [hR0]; exact Nat.mod_lt _ (by omega)
      have hQ0lt : Q0 < 4294967296 := by rw [hQ0]; exact dig_lt hvlt b5
      have hQR : Q0 * Y + R0 = v * 4294967296 + un0 := by rw [hQ0, hR0, Nat.mul_comm]; exact Nat.div_add_mod _ _
      rw [← hQ0] at u1
      rw [← hR0] at u2
      have cont2 : Sm (∀ s', Sub s' ⟨[(18, nu Q0), (15, nu Q1), (17, nu v), (2, nu Y), (8, nu s), (14, nu un0)], []⟩ → K s') := Sm.mk fun s' hsub => by
        refine hK s' (WP.sub hsub ?_)
        have i1 : IntKind.u64.wrap ((Q1 : Int) * 4294967296) = ((Q1 * 4294967296 : Nat) : Int) := by rw [show (Q1 : Int) * 4294967296 = ((Q1 * 4294967296 : Nat) : Int) by simp, wrap_u64_nat (by omega)]
        have i2 : IntKind.u64.wrap (((Q1 * 4294967296 : Nat) : Int) + (Q0 : Int)) = (((hi * 18446744073709551616 + lo) / y : Nat) : Int) := by rw [← u1, ← Int.natCast_add, wrap_u64_nat (by omega)]
        have i3 : IntKind.u64.wrap ((v : Int) * 4294967296) = ((v * 4294967296 % 18446744073709551616 : Nat) : Int) := by rw [show (v : Int) * 4294967296 = ((v * 4294967296 : Nat) : Int) by simp, wrap_u64_big]
        have i4 : IntKind.u64.wrap (((v * 4294967296 % 18446744073709551616 : Nat) : Int) + (un0 : Int)) = (((v * 4294967296 + un0) % 18446744073709551616 : Nat) : Int) := by rw [wrap_u64_mod]; omega
        have i5 : IntKind.u64.wrap ((Q0 : Int) * (Y : Int)) = ((Q0 * Y % 18446744073709551616 : Nat) : Int) := by rw [← Int.natCast_mul, wrap_u64_big]
        have i6 : IntKind.u64.wrap ((((v * 4294967296 + un0) % 18446744073709551616 : Nat) : Int) - ((Q0 * Y % 18446744073709551616 : Nat) : Int)) = (R0 : Int) := by rw [wrap_u64_mod]; omega
        have i7 : (R0 : Int).fdiv (2 ^ s) = (((hi * 18446744073709551616 + lo) % y : Nat) : Int) := by rw [fdiv_pow, u2]
        first | (have FRx := FR; clear FRx) | (have FR : ¬ ((1 : Nat) = 0) := Nat.one_ne_zero)
        repeat' first
          | (refine Sm.mk ?_; try simp -dsimp only [ZK, rvc, drawF, headN, pureH, stp, dvc, calleeOf, gcall, pev, eff, newB, okd, og, ogs, ogo, ogp, slv, bltv, opd, litv, strip, one, both, putE, St.put, look, gdOf, gdv, picka, pickv, pickw, binv, bini, bins, binb, binp, binq, isSlT, bina, shp, eqCells, unv, convv, nilv, faddv, addp, idxav, idxp, load1, load1m, loadn, loadnm, loadv, hget, hset, hrep, hdel, slicev, bnd, shift1, lenv, capv, IntKind.bits, extractv, fieldv, indexv, min2v, max2v, mkiv, cellsA, fillA, buildv, stC, oneC, rowMB, intsA, plN, appE, appZ, appC, appNZ, appNC, VwL, srcC, srcZ, srcM, isBoolT, isPtrT, isSliceT, uOk, Value.oneCell', Nat.reducePow, Int.reducePow, Nat.reduceAdd, Nat.reduceMul, Nat.reduceSub, Nat.reduceLT, Nat.reduceLeDiff, Nat.reduceEqDiff, Nat.reduceBEq, Nat.reduceDiv, Nat.reduceMod, ↓reduceIte, reduceCtorEq, Int.reduceToNat, Int.reduceLT, Int.reduceLE, TFExD, SeqQ, BlkQ, LoopQ, BodyQ, i1, i2, i3, i4, i5, i6, i7, hs64, FR])
          | (refine WP.seq fun K hK => ?_)
          | (refine WP.region (rvc_sound _ _ (Sm.out ?_)))
          | (refine WP.drawK rfl mixed (by decide +kernel) (Sm.out ?_))
          | (refine Ob.mk ?_; focus (first | assumption | omega | decide | trivial | (intro hob; simp only [hob, ZF]; done) | (intros; (repeat' refine And.intro ?_ ?_) <;> first | assumption | omega | trivial | decide) | (intros; simp only [ZE] at *; (repeat' refine And.intro ?_ ?_) <;> first | assumption | omega | trivial)))
          | (refine And.intro (Ob.out ?_) ?_)
          | (refine WP.block ?_)
          | (refine WP.cond rfl (fun hc => ?_) (fun hc => ?_) <;> (try simp only [ZC, reduceCtorEq, ZD] at hc) <;> (try (exact absurd hc (by decide))) <;> (try (exfalso; omega)))
          | ((first | refine WP.skip ?_ | refine WP.exit ?_); simp only [SeqQ, BlkQ, LoopQ, BodyQ, ↓reduceIte, Nat.reduceEqDiff, reduceCtorEq, look, true_and])
          | (refine WP.ret (Sm.out ?_))
          | (first | refine ExG.no (Sm.out ?_) | refine Or.inl (ExG.no (Sm.out ?_)) | refine Or.inl (And.intro (fun hg => absurd hg (by decide)) (ExG.no (Sm.out ?_))))
          | (refine Rt.mk ?_; refine And.intro ?_ ?_ <;> (intro hg; first | exact absurd hg (by decide) | refine Sm.out ?_))
          | (refine Nu.mk ?_; first | (fail_if_success (have := nb1)); intro nb1 | (fail_if_success (have := nb2)); intro nb2 | (fail_if_success (have := nb3)); intro nb3 | intro nbz)
          | (refine Fr.mk ?_; intro hfr; replace FR := And.intro hfr FR; clear hfr; refine Sm.out ?_)
          | (refine Two.mk ?_ ?_)
          | (refine Cs.mk ?_; intro hcs; first | exact False.elim hcs | (exfalso; omega) | (refine Sm.out ?_))
          | (refine OutQ.all ?_ ?_; (focus (simp only [resv, ZK, look, loadv, loadn, loadnm, load1, load1m, hget, ↓reduceIte, Nat.reduceEqDiff, Nat.reduceAdd, Nat.reduceMul, Nat.reduceLeDiff, Nat.reduceLT, reduceCtorEq, TFExD, i1, i2, i3, i4, i5, i6, i7, hs64, FR])); (try simp only [resv, resA, Fn, ZK, look, loadv, loadn, loadnm, load1, load1m, hget, ↓reduceIte, Nat.reduceEqDiff, Nat.reduceAdd, Nat.reduceMul, Nat.reduceLeDiff, Nat.reduceLT, reduceCtorEq, TFExD, i1, i2, i3, i4, i5, i6, i7, hs64, FR]); (try simp [resA, Fn, look, i1, i2, i3, i4, i5, i6, i7, hs64, FR]); done)
          | go_step
          | omega
          | (simp only [maxLen_eq]; omega)
      clear hK
      refine WP.loop (Γ := DG) (fun g => ⟨[(18, nu g.q), (16, nu g.r), (15, nu Q1), (17, nu v), (2, nu Y), (8, nu s), (9, nu yn1), (10, nu yn0), (14, nu un0)], []⟩)
        (fun g => DInvD 4294967296 yn1 yn0 v un0 g.q g.r ∧ g.r < 4294967296 ∧ g.q < 18446744073709551616) (fun g => g.q) ⟨v / yn1, v - v / yn1 * yn1⟩
        ⟨D2, by have := Nat.mod_lt v (show 0 < yn1 by omega); have := Nat.div_add_mod v yn1; have := Nat.mul_comm yn1 (v / yn1); simp only; omega, by simp only; omega⟩ (Sub.pick (by simp [pickB, hget, hdel, FR]) (by simp [look])) ?_
      intro ⟨q, r⟩ ⟨D, hr, hq64⟩
      simp only at D hr hq64 ⊢
      by_cases ht : 4294967296 ≤ q ∨ 4294967296 * r + un0 < q * yn0
      · obtain ⟨hq0, D'⟩ := dig_next (by omega) (by omega) (by omega) b5 D ht
        have c1 : IntKind.u64.wrap ((q : Int) - 1) = ((q - 1 : Nat) : Int) := by rw [wrap_u64 (by omega) (by omega)]; omega
        have c2 : IntKind.u64.wrap ((r : Int) + (yn1 : Int)) = ((r + yn1 : Nat) : Int) := by rw [← Int.natCast_add, wrap_u64_nat (by omega)]
        by_cases hB : 4294967296 ≤ q
        · have k : decide ((q : Int) ≥ 4294967296) = true := by simp; omega
          by_cases hr2 : 4294967296 ≤ r + yn1
          · have k5 : decide (((r + yn1 : Nat) : Int) ≥ 4294967296) = true := by simp; omega
            have he := dig_break (by omega) (by omega) b3 (by omega) D' hr2
            rw [← eY, ← hQ0] at he
            first | (have FRx := FR; clear FRx) | (have FR : ¬ ((1 : Nat) = 0) := Nat.one_ne_zero)
            repeat' first
              | (refine Sm.mk ?_; try simp -dsimp only [ZK, rvc, drawF, headN, pureH, stp, dvc, calleeOf, gcall, pev, eff, newB, okd, og, ogs, ogo, ogp, slv, bltv, opd, litv, strip, one, both, putE, St.put, look, gdOf, gdv, picka, pickv, pickw, binv, bini, bins, binb, binp, binq, isSlT, bina, shp, eqCells, unv, convv, nilv, faddv, addp, idxav, idxp, load1, load1m, loadn, loadnm, loadv, hget, hset, hrep, hdel, slicev, bnd, shift1, lenv, capv, IntKind.bits, extractv, fieldv, indexv, min2v, max2v, mkiv, cellsA, fillA, buildv, stC, oneC, rowMB, intsA, plN, appE, appZ, appC, appNZ, appNC, VwL, srcC, srcZ, srcM, isBoolT, isPtrT, isSliceT, uOk, Value.oneCell', Nat.reducePow, Int.reducePow, Nat.reduceAdd, Nat.reduceMul, Nat.reduceSub, Nat.reduceLT, Nat.reduceLeDiff, Nat.reduceEqDiff, Nat.reduceBEq, Nat.reduceDiv, Nat.reduceMod, ↓reduceIte, reduceCtorEq, Int.reduceToNat, Int.reduceLT, Int.reduceLE, TFExD, SeqQ, BlkQ, LoopQ, BodyQ, k, k5, c1, c2, he, FR])
              | (refine WP.seq fun K hK => ?_)
              | (refine WP.region (rvc_sound _ _ (Sm.out ?_)))
              | (refine WP.drawK rfl mixed (by decide +kernel) (Sm.out ?_))
              | (refine Ob.mk ?_; focus (first | assumption | omega | decide | trivial | (intro hob; simp only [hob, ZF]; done) | (intros; (repeat' refine And.intro ?_ ?_) <;> first | assumption | omega | trivial | decide) | (intros; simp only [ZE] at *; (repeat' refine And.intro ?_ ?_) <;> first | assumption | omega | trivial)))
              | (refine And.intro (Ob.out ?_) ?_)
              | (refine WP.block ?_)
              | (refine WP.cond rfl (fun hc => ?_) (fun hc => ?_) <;> (try simp only [ZC, reduceCtorEq, ZD] at hc) <;> (try (exact absurd hc (by decide))) <;> (try (exfalso; omega)))
              | ((first | refine WP.skip ?_ | refine WP.exit ?_); simp only [SeqQ, BlkQ, LoopQ, BodyQ, ↓reduceIte, Nat.reduceEqDiff, reduceCtorEq, look, true_and])
              | (refine WP.ret (Sm.out ?_))
              | (first | refine ExG.no (Sm.out ?_) | refine Or.inl (ExG.no (Sm.out ?_)) | refine Or.inl (And.intro (fun hg => absurd hg (by decide)) (ExG.no (Sm.out ?_))))
              | (refine Rt.mk ?_; refine And.intro ?_ ?_ <;> (intro hg; first | exact absurd hg (by decide) | refine Sm.out ?_))
              | (refine Nu.mk ?_; first | (fail_if_success (have := nb1)); intro nb1 | (fail_if_success (have := nb2)); intro nb2 | (fail_if_success (have := nb3)); intro nb3 | intro nbz)
              | (refine Fr.mk ?_; intro hfr; replace FR := And.intro hfr FR; clear hfr; refine Sm.out ?_)
              | (refine Two.mk ?_ ?_)
              | (refine Cs.mk ?_; intro hcs; first | exact False.elim hcs | (exfalso; omega) | (refine Sm.out ?_))
              | go_step
              | omega
              | (simp only [maxLen_eq]; omega)
            exact cont2.out _ (Sub.pick (by simp [pickB, hget, hdel, FR]) (by simp [look]))
          · have k5 : decide (((r + yn1 : Nat) : Int) ≥ 4294967296) = false := by simp; omega
            first | (have FRx := FR; clear FRx) | (have FR : ¬ ((1 : Nat) = 0) := Nat.one_ne_zero)
            repeat' first
              | (refine Sm.mk ?_; try simp -dsimp only [ZK, rvc, drawF, headN, pureH, stp, dvc, calleeOf, gcall, pev, eff, newB, okd, og, ogs, ogo, ogp, slv, bltv, opd, litv, strip, one, both, putE, St.put, look, gdOf, gdv, picka, pickv, pickw, binv, bini, bins, binb, binp, binq, isSlT, bina, shp, eqCells, unv, convv, nilv, faddv, addp, idxav, idxp, load1, load1m, loadn, loadnm, loadv, hget, hset, hrep, hdel, slicev, bnd, shift1, lenv, capv, IntKind.bits, extractv, fieldv, indexv, min2v, max2v, mkiv, cellsA, fillA, buildv, stC, oneC, rowMB, intsA, plN, appE, appZ, appC, appNZ, appNC, VwL, srcC, srcZ, srcM, isBoolT, isPtrT, isSliceT, uOk, Value.oneCell', Nat.reducePow, Int.reducePow, Nat.reduceAdd, Nat.reduceMul, Nat.reduceSub, Nat.reduceLT, Nat.reduceLeDiff, Nat.reduceEqDiff, Nat.reduceBEq, Nat.reduceDiv, Nat.reduceMod, ↓reduceIte, reduceCtorEq, Int.reduceToNat, Int.reduceLT, Int.reduceLE, TFExD, SeqQ, BlkQ, LoopQ, BodyQ, k, k5, c1, c2, FR])
              | (refine WP.seq fun K hK => ?_)
              | (refine WP.region (rvc_sound _ _ (Sm.out ?_)))
              | (refine WP.drawK rfl mixed (by decide +kernel) (Sm.out ?_))
              | (refine Ob.mk ?_; focus (first | assumption | omega | decide | trivial | (intro hob; simp only [hob, ZF]; done) | (intros; (repeat' refine And.intro ?_ ?_) <;> first | assumption | omega | trivial | decide) | (intros; simp only [ZE] at *; (repeat' refine And.intro ?_ ?_) <;> first | assumption | omega | trivial)))
              | (refine And.intro (Ob.out ?_) ?_)
              | (refine WP.block ?_)
              | (refine WP.cond rfl (fun hc => ?_) (fun hc => ?_) <;> (try simp only [ZC, reduceCtorEq, ZD] at hc) <;> (try (exact absurd hc (by decide))) <;> (try (exfalso; omega)))
              | ((first | refine WP.skip ?_ | refine WP.exit ?_); simp only [SeqQ, BlkQ, LoopQ, BodyQ, ↓reduceIte, Nat.reduceEqDiff, reduceCtorEq, look, true_and])
              | (refine WP.ret (Sm.out ?_))
              | (first | refine ExG.no (Sm.out ?_) | refine Or.inl (ExG.no (Sm.out ?_)) | refine Or.inl (And.intro (fun hg => absurd hg (by decide)) (ExG.no (Sm.out ?_))))
              | (refine Rt.mk ?_; refine And.intro ?_ ?_ <;> (intro hg; first | exact absurd hg (by decide) | refine Sm.out ?_))
              | (refine Nu.mk ?_; first | (fail_if_success (have := nb1)); intro nb1 | (fail_if_success (have := nb2)); intro nb2 | (fail_if_success (have := nb3)); intro nb3 | intro nbz)
              | (refine Fr.mk ?_; intro hfr; replace FR := And.intro hfr FR; clear hfr; refine Sm.out ?_)
              | (refine Two.mk ?_ ?_)
              | (refine Cs.mk ?_; intro hcs; first | exact False.elim hcs | (exfalso; omega) | (refine Sm.out ?_))
              | go_step
              | omega
              | (simp only [maxLen_eq]; omega)
            exact ⟨⟨q - 1, r + yn1⟩, ⟨D', by simp only; omega, by simp only; omega⟩, by simp only; omega, (Sub.pick (by simp [pickB, hget, hdel, FR]) (by simp [look]))⟩
        · have k : decide ((q : Int) ≥ 4294967296) = false := by simp; omega
          have hqy : q * yn0 ≤ 4294967295 * 4294967295 := Nat.mul_le_mul (by omega) (by omega)
          have c3 : IntKind.u64.wrap ((q : Int) * (yn0 : Int)) = ((q * yn0 : Nat) : Int) := by rw [← Int.natCast_mul, wrap_u64_nat (by omega)]
          have c4 : IntKind.u64.wrap (4294967296 * (r : Int)) = ((4294967296 * r : Nat) : Int) := by rw [show 4294967296 * (r : Int) = ((4294967296 * r : Nat) : Int) by simp, wrap_u64_nat (by omega)]
          have c5 : IntKind.u64.wrap (((4294967296 * r : Nat) : Int) + (un0 : Int)) = ((4294967296 * r + un0 : Nat) : Int) := by rw [← Int.natCast_add, wrap_u64_nat (by omega)]
          have k4 : decide (((q * yn0 : Nat) : Int) > ((4294967296 * r + un0 : Nat) : Int)) = true := decide_eq_true (by omega)
          by_cases hr2 : 4294967296 ≤ r + yn1
          · have k5 : decide (((r + yn1 : Nat) : Int) ≥ 4294967296) = true := by simp; omega
            have he := dig_break (by omega) (by omega) b3 (by omega) D' hr2
            rw [← eY, ← hQ0] at he
            first | (have FRx := FR; clear FRx) | (have FR : ¬ ((1 : Nat) = 0) := Nat.one_ne_zero)
            repeat' first
              | (refine Sm.mk ?_; try simp -dsimp only [ZK, rvc, drawF, headN, pureH, stp, dvc, calleeOf, gcall, pev, eff, newB, okd, og, ogs, ogo, ogp, slv, bltv, opd, litv, strip, one, both, putE, St.put, look, gdOf, gdv, picka, pickv, pickw, binv, bini, bins, binb, binp, binq, isSlT, bina, shp, eqCells, unv, convv, nilv, faddv, addp, idxav, idxp, load1, load1m, loadn, loadnm, loadv, hget, hset, hrep, hdel, slicev, bnd, shift1, lenv, capv, IntKind.bits, extractv, fieldv, indexv, min2v, max2v, mkiv, cellsA, fillA, buildv, stC, oneC, rowMB, intsA, plN, appE, appZ, appC, appNZ, appNC, VwL, srcC, srcZ, srcM, isBoolT, isPtrT, isSliceT, uOk, Value.oneCell', Nat.reducePow, Int.reducePow, Nat.reduceAdd, Nat.reduceMul, Nat.reduceSub, Nat.reduceLT, Nat.reduceLeDiff, Nat.reduceEqDiff, Nat.reduceBEq, Nat.reduceDiv, Nat.reduceMod, ↓reduceIte, reduceCtorEq, Int.reduceToNat, Int.reduceLT, Int.reduceLE, TFExD, SeqQ, BlkQ, LoopQ, BodyQ, k, k4, k5, c1, c2, c3, c4, c5, he, FR])
              | (refine WP.seq fun K hK => ?_)
              | (refine WP.region (rvc_sound _ _ (Sm.out ?_)))
              | (refine WP.drawK rfl mixed (by decide +kernel) (Sm.out ?_))
              | (refine Ob.mk ?_; focus (first | assumption | omega | decide | trivial | (intro hob; simp only [hob, ZF]; done) | (intros; (repeat' refine And.intro ?_ ?_) <;> first | assumption | omega | trivial | decide) | (intros; simp only [ZE] at *; (repeat' refine And.intro ?_ ?_) <;> first | assumption | omega | trivial)))
              | (refine And.intro (Ob.out ?_) ?_)
              | (refine WP.block ?_)
              | (refine WP.cond rfl (fun hc => ?_) (fun hc => ?_) <;> (try simp only [ZC, reduceCtorEq, ZD] at hc) <;> (try (exact absurd hc (by decide))) <;> (try (exfalso; omega)))
              | ((first | refine WP.skip ?_ | refine WP.exit ?_); simp only [SeqQ, BlkQ, LoopQ, BodyQ, ↓reduceIte, Nat.reduceEqDiff, reduceCtorEq, look, true_and])
              | (refine WP.ret (Sm.out ?_))
              | (first | refine ExG.no (Sm.out ?_) | refine Or.inl (ExG.no (Sm.out ?_)) | refine Or.inl (And.intro (fun hg => absurd hg (by decide)) (ExG.no (Sm.out ?_))))
              | (refine Rt.mk ?_; refine And.intro ?_ ?_ <;> (intro hg; first | exact absurd hg (by decide) | refine Sm.out ?_))
              | (refine Nu.mk ?_; first | (fail_if_success (have := nb1)); intro nb1 | (fail_if_success (have := nb2)); intro nb2 | (fail_if_success (have := nb3)); intro nb3 | intro nbz)
              | (refine Fr.mk ?_; intro hfr; replace FR := And.intro hfr FR; clear hfr; refine Sm.out ?_)
              | (refine Two.mk ?_ ?_)
              | (refine Cs.mk ?_; intro hcs; first | exact False.elim hcs | (exfalso; omega) | (refine Sm.out ?_))
              | go_step
              | omega
              | (simp only [maxLen_eq]; omega)
            exact cont2.out _ (Sub.pick (by simp [pickB, hget, hdel, FR]) (by simp [look]))
          · have k5 : decide (((r + yn1 : Nat) : Int) ≥ 4294967296) = false := by simp; omega
            first | (have FRx := FR; clear FRx) | (have FR : ¬ ((1 : Nat) = 0) := Nat.one_ne_zero)
            repeat' first
              | (refine Sm.mk ?_; try simp -dsimp only [ZK, rvc, drawF, headN, pureH, stp, dvc, calleeOf, gcall, pev, eff, newB, okd, og, ogs, ogo, ogp, slv, bltv, opd, litv, strip, one, both, putE, St.put, look, gdOf, gdv, picka, pickv, pickw, binv, bini, bins, binb, binp, binq, isSlT, bina, shp, eqCells, unv, convv, nilv, faddv, addp, idxav, idxp, load1, load1m, loadn, loadnm, loadv, hget, hset, hrep, hdel, slicev, bnd, shift1, lenv, capv, IntKind.bits, extractv, fieldv, indexv, min2v, max2v, mkiv, cellsA, fillA, buildv, stC, oneC, rowMB, intsA, plN, appE, appZ, appC, appNZ, appNC, VwL, srcC, srcZ, srcM, isBoolT, isPtrT, isSliceT, uOk, Value.oneCell', Nat.reducePow, Int.reducePow, Nat.reduceAdd, Nat.reduceMul, Nat.reduceSub, Nat.reduceLT, Nat.reduceLeDiff, Nat.reduceEqDiff, Nat.reduceBEq, Nat.reduceDiv, Nat.reduceMod, ↓reduceIte, reduceCtorEq, Int.reduceToNat, Int.reduceLT, Int.reduceLE, TFExD, SeqQ, BlkQ, LoopQ, BodyQ, k, k4, k5, c1, c2, c3, c4, c5, FR])
              | (refine WP.seq fun K hK => ?_)
              | (refine WP.region (rvc_sound _ _ (Sm.out ?_)))
              | (refine WP.drawK rfl mixed (by decide +kernel) (Sm.out ?_))
              | (refine Ob.mk ?_; focus (first | assumption | omega | decide | trivial | (intro hob; simp only [hob, ZF]; done) | (intros; (repeat' refine And.intro ?_ ?_) <;> first | assumption | omega | trivial | decide) | (intros; simp only [ZE] at *; (repeat' refine And.intro ?_ ?_) <;> first | assumption | omega | trivial)))
              | (refine And.intro (Ob.out ?_) ?_)
              | (refine WP.block ?_)
              | (refine WP.cond rfl (fun hc => ?_) (fun hc => ?_) <;> (try simp only [ZC, reduceCtorEq, ZD] at hc) <;> (try (exact absurd hc (by decide))) <;> (try (exfalso; omega)))
              | ((first | refine WP.skip ?_ | refine WP.exit ?_); simp only [SeqQ, BlkQ, LoopQ, BodyQ, ↓reduceIte, Nat.reduceEqDiff, reduceCtorEq, look, true_and])
              | (refine WP.ret (Sm.out ?_))
              | (first | refine ExG.no (Sm.out ?_) | refine Or.inl (ExG.no (Sm.out ?_)) | refine Or.inl (And.intro (fun hg => absurd hg (by decide)) (ExG.no (Sm.out ?_))))
              | (refine Rt.mk ?_; refine And.intro ?_ ?_ <;> (intro hg; first | exact absurd hg (by decide) | refine Sm.out ?_))
              | (refine Nu.mk ?_; first | (fail_if_success (have := nb1)); intro nb1 | (fail_if_success (have := nb2)); intro nb2 | (fail_if_success (have := nb3)); intro nb3 | intro nbz)
              | (refine Fr.mk ?_; intro hfr; replace FR := And.intro hfr FR; clear hfr; refine Sm.out ?_)
              | (refine Two.mk ?_ ?_)
              | (refine Cs.mk ?_; intro hcs; first | exact False.elim hcs | (exfalso; omega) | (refine Sm.out ?_))
              | go_step
              | omega
              | (simp only [maxLen_eq]; omega)
            exact ⟨⟨q - 1, r + yn1⟩, ⟨D', by simp only; omega, by simp only; omega⟩, by simp only; omega, (Sub.pick (by simp [pickB, hget, hdel, FR]) (by simp [look]))⟩
      · have k : decide ((q : Int) ≥ 4294967296) = false := by simp; omega
        have hqy : q * yn0 ≤ 4294967295 * 4294967295 := Nat.mul_le_mul (by omega) (by omega)
        have c3 : IntKind.u64.wrap ((q : Int) * (yn0 : Int)) = ((q * yn0 : Nat) : Int) := by rw [← Int.natCast_mul, wrap_u64_nat (by omega)]
        have c4 : IntKind.u64.wrap (4294967296 * (r : Int)) = ((4294967296 * r : Nat) : Int) := by rw [show 4294967296 * (r : Int) = ((4294967296 * r : Nat) : Int) by simp, wrap_u64_nat (by omega)]
        have c5 : IntKind.u64.wrap (((4294967296 * r : Nat) : Int) + (un0 : Int)) = ((4294967296 * r + un0 : Nat) : Int) := by rw [← Int.natCast_add, wrap_u64_nat (by omega)]
        have k4 : decide (((q * yn0 : Nat) : Int) > ((4294967296 * r + un0 : Nat) : Int)) = false := decide_eq_false (by omega)
        have he := dig_stop (by omega) (by omega) D (by omega)
        rw [← eY, ← hQ0] at he
        first | (have FRx := FR; clear FRx) | (have FR : ¬ ((1 : Nat) = 0) := Nat.one_ne_zero)
        repeat' first
          | (refine Sm.mk ?_; try simp -dsimp only [ZK, rvc, drawF, headN, pureH, stp, dvc, calleeOf, gcall, pev, eff, newB, okd, og, ogs, ogo, ogp, slv, bltv, opd, litv, strip, one, both, putE, St.put, look, gdOf, gdv, picka, pickv, pickw, binv, bini, bins, binb, binp, binq, isSlT, bina, shp, eqCells, unv, convv, nilv, faddv, addp, idxav, idxp, load1, load1m, loadn, loadnm, loadv, hget, hset, hrep, hdel, slicev, bnd, shift1, lenv, capv, IntKind.bits, extractv, fieldv, indexv, min2v, max2v, mkiv, cellsA, fillA, buildv, stC, oneC, rowMB, intsA, plN, appE, appZ, appC, appNZ, appNC, VwL, srcC, srcZ, srcM, isBoolT, isPtrT, isSliceT, uOk, Value.oneCell', Nat.reducePow, Int.reducePow, Nat.reduceAdd, Nat.reduceMul, Nat.reduceSub, Nat.reduceLT, Nat.reduceLeDiff, Nat.reduceEqDiff, Nat.reduceBEq, Nat.reduceDiv, Nat.reduceMod, ↓reduceIte, reduceCtorEq, Int.reduceToNat, Int.reduceLT, Int.reduceLE, TFExD, SeqQ, BlkQ, LoopQ, BodyQ, k, k4, c3, c4, c5, FR])
          | (refine WP.seq fun K hK => ?_)
          | (refine WP.region (rvc_sound _ _ (Sm.out ?_)))
          | (refine WP.drawK rfl mixed (by decide +kernel) (Sm.out ?_))
          | (refine Ob.mk ?_; focus (first | assumption | omega | decide | trivial | (intro hob; simp only [hob, ZF]; done) | (intros; (repeat' refine And.intro ?_ ?_) <;> first | assumption | omega | trivial | decide) | (intros; simp only [ZE] at *; (repeat' refine And.intro ?_ ?_) <;> first | assumption | omega | trivial)))
          | (refine And.intro (Ob.out ?_) ?_)
          | (refine WP.block ?_)
          | (refine WP.cond rfl (fun hc => ?_) (fun hc => ?_) <;> (try simp only [ZC, reduceCtorEq, ZD] at hc) <;> (try (exact absurd hc (by decide))) <;> (try (exfalso; omega)))
          | ((first | refine WP.skip ?_ | refine WP.exit ?_); simp only [SeqQ, BlkQ, LoopQ, BodyQ, ↓reduceIte, Nat.reduceEqDiff, reduceCtorEq, look, true_and])
          | (refine WP.ret (Sm.out ?_))
          | (first | refine ExG.no (Sm.out ?_) | refine Or.inl (ExG.no (Sm.out ?_)) | refine Or.inl (And.intro (fun hg => absurd hg (by decide)) (ExG.no (Sm.out ?_))))
          | (refine Rt.mk ?_; refine And.intro ?_ ?_ <;> (intro hg; first | exact absurd hg (by decide) | refine Sm.out ?_))
          | (refine Nu.mk ?_; first | (fail_if_success (have := nb1)); intro nb1 | (fail_if_success (have := nb2)); intro nb2 | (fail_if_success (have := nb3)); intro nb3 | intro nbz)
          | (refine Fr.mk ?_; intro hfr; replace FR := And.intro hfr FR; clear hfr; refine Sm.out ?_)
          | (refine Two.mk ?_ ?_)
          | (refine Cs.mk ?_; intro hcs; first | exact False.elim hcs | (exfalso; omega) | (refine Sm.out ?_))
          | go_step
          | omega
          | (simp only [maxLen_eq]; omega)
        exact cont2.out _ (Sub.pick (by simp [pickB, hget, hdel, FR, he]) (by simp [look, he]))
    clear hK
    refine WP.loop (Γ := DG) (fun g => ⟨[(15, nu g.q), (16, nu g.r), (2, nu Y), (8, nu s), (9, nu yn1), (10, nu yn0), (11, nu u), (13, nu un1), (14, nu un0)], []⟩)
      (fun g => DInvD 4294967296 yn1 yn0 u un1 g.q g.r ∧ g.r < 4294967296 ∧ g.q < 18446744073709551616) (fun g => g.q) ⟨u / yn1, u - u / yn1 * yn1⟩
      ⟨D1, by have := Nat.mod_lt u (show 0 < yn1 by omega); have := Nat.div_add_mod u yn1; have := Nat.mul_comm yn1 (u / yn1); simp only; omega, by simp only; omega⟩ (Sub.pick (by simp [pickB, hget, hdel, FR]) (by simp [look])) ?_
    intro ⟨q, r⟩ ⟨D, hr, hq64⟩
    simp only at D hr hq64 ⊢
    by_cases ht : 4294967296 ≤ q ∨ 4294967296 * r + un1 < q * yn0
    · obtain ⟨hq0, D'⟩ := dig_next (by omega) (by omega) (by omega) b4 D ht
      have c1 : IntKind.u64.wrap ((q : Int) - 1) = ((q - 1 : Nat) : Int) := by rw [wrap_u64 (by omega) (by omega)]; omega
      have c2 : IntKind.u64.wrap ((r : Int) + (yn1 : Int)) = ((r + yn1 : Nat) : Int) := by rw [← Int.natCast_add, wrap_u64_nat (by omega)]
      by_cases hB : 4294967296 ≤ q
      · have k : decide ((q : Int) ≥ 4294967296) = true := by simp; omega
        by_cases hr2 : 4294967296 ≤ r + yn1
        · have k5 : decide (((r + yn1 : Nat) : Int) ≥ 4294967296) = true := by simp; omega
          have he := dig_break (by omega) (by omega) b3 (by omega) D' hr2
          rw [← eY, ← hQ1] at he
          first | (have FRx := FR; clear FRx) | (have FR : ¬ ((1 : Nat) = 0) := Nat.one_ne_zero)
          repeat' first
            | (refine Sm.mk ?_; try simp -dsimp only [ZK, rvc, drawF, headN, pureH, stp, dvc, calleeOf, gcall, pev, eff, newB, okd, og, ogs, ogo, ogp, slv, bltv, opd, litv, strip, one, both, putE, St.put, look, gdOf, gdv, picka, pickv, pickw, binv, bini, bins, binb, binp, binq, isSlT, bina, shp, eqCells, unv, convv, nilv, faddv, addp, idxav, idxp, load1, load1m, loadn, loadnm, loadv, hget, hset, hrep, hdel, slicev, bnd, shift1, lenv, capv, IntKind.bits, extractv, fieldv, indexv, min2v, max2v, mkiv, cellsA, fillA, buildv, stC, oneC, rowMB, intsA, plN, appE, appZ, appC, appNZ, appNC, VwL, srcC, srcZ, srcM, isBoolT, isPtrT, isSliceT, uOk, Value.oneCell', Nat.reducePow, Int.reducePow, Nat.reduceAdd, Nat.reduceMul, Nat.reduceSub, Nat.reduceLT, Nat.reduceLeDiff, Nat.reduceEqDiff, Nat.reduceBEq, Nat.reduceDiv, Nat.reduceMod, ↓reduceIte, reduceCtorEq, Int.reduceToNat, Int.reduceLT, Int.reduceLE, TFExD, SeqQ, BlkQ, LoopQ, BodyQ, k, k5, c1, c2, he, FR])
            | (refine WP.seq fun K hK => ?_)
            | (refine WP.region (rvc_sound _ _ (Sm.out ?_)))
            | (refine WP.drawK rfl mixed (by decide +kernel) (Sm.out ?_))
            | (refine Ob.mk ?_; focus (first | assumption | omega | decide | trivial | (intro hob; simp only [hob, ZF]; done) | (intros; (repeat' refine And.intro ?_ ?_) <;> first | assumption | omega | trivial | decide) | (intros; simp only [ZE] at *; (repeat' refine And.intro ?_ ?_) <;> first | assumption | omega | trivial)))
            | (refine And.intro (Ob.out ?_) ?_)
            | (refine WP.block ?_)
            | (refine WP.cond rfl (fun hc => ?_) (fun hc => ?_) <;> (try simp only [ZC, reduceCtorEq, ZD] at hc) <;> (try (exact absurd hc (by decide))) <;> (try (exfalso; omega)))
            | ((first | refine WP.skip ?_ | refine WP.exit ?_); simp only [SeqQ, BlkQ, LoopQ, BodyQ, ↓reduceIte, Nat.reduceEqDiff, reduceCtorEq, look, true_and])
            | (refine WP.ret (Sm.out ?_))
            | (first | refine ExG.no (Sm.out ?_) | refine Or.inl (ExG.no (Sm.out ?_)) | refine Or.inl (And.intro (fun hg => absurd hg (by decide)) (ExG.no (Sm.out ?_))))
            | (refine Rt.mk ?_; refine And.intro ?_ ?_ <;> (intro hg; first | exact absurd hg (by decide) | refine Sm.out ?_))
            | (refine Nu.mk ?_; first | (fail_if_success (have := nb1)); intro nb1 | (fail_if_success (have := nb2)); intro nb2 | (fail_if_success (have := nb3)); intro nb3 | intro nbz)
            | (refine Fr.mk ?_; intro hfr; replace FR := And.intro hfr FR; clear hfr; refine Sm.out ?_)
            | (refine Two.mk ?_ ?_)
            | (refine Cs.mk ?_; intro hcs; first | exact False.elim hcs | (exfalso; omega) | (refine Sm.out ?_))
            | go_step
            | omega
            | (simp only [maxLen_eq]; omega)
          exact cont.out _ (Sub.pick (by simp [pickB, hget, hdel, FR]) (by simp [look]))
        · have k5 : decide (((r + yn1 : Nat) : Int) ≥ 4294967296) = false := by simp; omega
          first | (have FRx := FR; clear FRx) | (have FR : ¬ ((1 : Nat) = 0) := Nat.one_ne_zero)
          repeat' first
            | (refine Sm.mk ?_; try simp -dsimp only [ZK, rvc, drawF, headN, pureH, stp, dvc, calleeOf, gcall, pev, eff, newB, okd, og, ogs, ogo, ogp, slv, bltv, opd, litv, strip, one, both, putE, St.put, look, gdOf, gdv, picka, pickv, pickw, binv, bini, bins, binb, binp, binq, isSlT, bina, shp, eqCells, unv, convv, nilv, faddv, addp, idxav, idxp, load1, load1m, loadn, loadnm, loadv, hget, hset, hrep, hdel, slicev, bnd, shift1, lenv, capv, IntKind.bits, extractv, fieldv, indexv, min2v, max2v, mkiv, cellsA, fillA, buildv, stC, oneC, rowMB, intsA, plN, appE, appZ, appC, appNZ, appNC, VwL, srcC, srcZ, srcM, isBoolT, isPtrT, isSliceT, uOk, Value.oneCell', Nat.reducePow, Int.reducePow, Nat.reduceAdd, Nat.reduceMul, Nat.reduceSub, Nat.reduceLT, Nat.reduceLeDiff, Nat.reduceEqDiff, Nat.reduceBEq, Nat.reduceDiv, Nat.reduceMod, ↓reduceIte, reduceCtorEq, Int.reduceToNat, Int.reduceLT, Int.reduceLE, TFExD, SeqQ, BlkQ, LoopQ, BodyQ, k, k5, c1, c2, FR])
            | (refine WP.seq fun K hK => ?_)
            | (refine WP.region (rvc_sound _ _ (Sm.out ?_)))
            | (refine WP.drawK rfl mixed (by decide +kernel) (Sm.out ?_))
            | (refine Ob.mk ?_; focus (first | assumption | omega | decide | trivial | (intro hob; simp only [hob, ZF]; done) | (intros; (repeat' refine And.intro ?_ ?_) <;> first | assumption | omega | trivial | decide) | (intros; simp only [ZE] at *; (repeat' refine And.intro ?_ ?_) <;> first | assumption | omega | trivial)))
            | (refine And.intro (Ob.out ?_) ?_)
            | (refine WP.block ?_)
            | (refine WP.cond rfl (fun hc => ?_) (fun hc => ?_) <;> (try simp only [ZC, reduceCtorEq, ZD] at hc) <;> (try (exact absurd hc (by decide))) <;> (try (exfalso; omega)))
            | ((first | refine WP.skip ?_ | refine WP.exit ?_); simp only [SeqQ, BlkQ, LoopQ, BodyQ, ↓reduceIte, Nat.reduceEqDiff, reduceCtorEq, look, true_and])
            | (refine WP.ret (Sm.out ?_))
            | (first | refine ExG.no (Sm.out ?_) | refine Or.inl (ExG.no (Sm.out ?_)) | refine Or.inl (And.intro (fun hg => absurd hg (by decide)) (ExG.no (Sm.out ?_))))
            | (refine Rt.mk ?_; refine And.intro ?_ ?_ <;> (intro hg; first | exact absurd hg (by decide) | refine Sm.out ?_))
            | (refine Nu.mk ?_; first | (fail_if_success (have := nb1)); intro nb1 | (fail_if_success (have := nb2)); intro nb2 | (fail_if_success (have := nb3)); intro nb3 | intro nbz)
            | (refine Fr.mk ?_; intro hfr; replace FR := And.intro hfr FR; clear hfr; refine Sm.out ?_)
            | (refine Two.mk ?_ ?_)
            | (refine Cs.mk ?_; intro hcs; first | exact False.elim hcs | (exfalso; omega) | (refine Sm.out ?_))
            | go_step
            | omega
            | (simp only [maxLen_eq]; omega)
          exact ⟨⟨q - 1, r + yn1⟩, ⟨D', by simp only; omega, by simp only; omega⟩, by simp only; omega, (Sub.pick (by simp [pickB, hget, hdel, FR]) (by simp [look]))⟩
      · have k : decide ((q : Int) ≥ 4294967296) = false := by simp; omega
        have hqy : q * yn0 ≤ 4294967295 * 4294967295 := Nat.mul_le_mul (by omega) (by omega)
        have c3 : IntKind.u64.wrap ((q : Int) * (yn0 : Int)) = ((q * yn0 : Nat) : Int) := by rw [← Int.natCast_mul, wrap_u64_nat (by omega)]
        have c4 : IntKind.u64.wrap (4294967296 * (r : Int)) = ((4294967296 * r : Nat) : Int) := by rw [show 4294967296 * (r : Int) = ((4294967296 * r : Nat) : Int) by simp, wrap_u64_nat (by omega)]
        have c5 : IntKind.u64.wrap (((4294967296 * r : Nat) : Int) + (un1 : Int)) = ((4294967296 * r + un1 : Nat) : Int) := by rw [← Int.natCast_add, wrap_u64_nat (by omega)]
        have k4 : decide (((q * yn0 : Nat) : Int) > ((4294967296 * r + un1 : Nat) : Int)) = true := decide_eq_true (by omega)
        by_cases hr2 : 4294967296 ≤ r + yn1
        · have k5 : decide (((r + yn1 : Nat) : Int) ≥ 4294967296) = true := by simp; omega
          have he := dig_break (by omega) (by omega) b3 (by omega) D' hr2
          rw [← eY, ← hQ1] at he
          first | (have FRx := FR; clear FRx) | (have FR : ¬ ((1 : Nat) = 0) := Nat.one_ne_zero)
          repeat' first
            | (refine Sm.mk ?_; try simp -dsimp only [ZK, rvc, drawF, headN, pureH, stp, dvc, calleeOf, gcall, pev, eff, newB, okd, og, ogs, ogo, ogp, slv, bltv, opd, litv, strip, one, both, putE, St.put, look, gdOf, gdv, picka, pickv, pickw, binv, bini, bins, binb, binp, binq, isSlT, bina, shp, eqCells, unv, convv, nilv, faddv, addp, idxav, idxp, load1, load1m, loadn, loadnm, loadv, hget, hset, hrep, hdel, slicev, bnd, shift1, lenv, capv, IntKind.bits, extractv, fieldv, indexv, min2v, max2v, mkiv, cellsA, fillA, buildv, stC, oneC, rowMB, intsA, plN, appE, appZ, appC, appNZ, appNC, VwL, srcC, srcZ, srcM, isBoolT, isPtrT, isSliceT, uOk, Value.oneCell', Nat.reducePow, Int.reducePow, Nat.reduceAdd, Nat.reduceMul, Nat.reduceSub, Nat.reduceLT, Nat.reduceLeDiff, Nat.reduceEqDiff, Nat.reduceBEq, Nat.reduceDiv, Nat.reduceMod, ↓reduceIte, reduceCtorEq, Int.reduceToNat, Int.reduceLT, Int.reduceLE, TFExD, SeqQ, BlkQ, LoopQ, BodyQ, k, k4, k5, c1, c2, c3, c4, c5, he, FR])
            | (refine WP.seq fun K hK => ?_)
            | (refine WP.region (rvc_sound _ _ (Sm.out ?_)))
            | (refine WP.drawK rfl mixed (by decide +kernel) (Sm.out ?_))
            | (refine Ob.mk ?_; focus (first | assumption | omega | decide | trivial | (intro hob; simp only [hob, ZF]; done) | (intros; (repeat' refine And.intro ?_ ?_) <;> first | assumption | omega | trivial | decide) | (intros; simp only [ZE] at *; (repeat' refine And.intro ?_ ?_) <;> first | assumption | omega | trivial)))
            | (refine And.intro (Ob.out ?_) ?_)
            | (refine WP.block ?_)
            | (refine WP.cond rfl (fun hc => ?_) (fun hc => ?_) <;> (try simp only [ZC, reduceCtorEq, ZD] at hc) <;> (try (exact absurd hc (by decide))) <;> (try (exfalso; omega)))
            | ((first | refine WP.skip ?_ | refine WP.exit ?_); simp only [SeqQ, BlkQ, LoopQ, BodyQ, ↓reduceIte, Nat.reduceEqDiff, reduceCtorEq, look, true_and])
            | (refine WP.ret (Sm.out ?_))
            | (first | refine ExG.no (Sm.out ?_) | refine Or.inl (ExG.no (Sm.out ?_)) | refine Or.inl (And.intro (fun hg => absurd hg (by decide)) (ExG.no (Sm.out ?_))))
            | (refine Rt.mk ?_; refine And.intro ?_ ?_ <;> (intro hg; first | exact absurd hg (by decide) | refine Sm.out ?_))
            | (refine Nu.mk ?_; first | (fail_if_success (have := nb1)); intro nb1 | (fail_if_success (have := nb2)); intro nb2 | (fail_if_success (have := nb3)); intro nb3 | intro nbz)
            | (refine Fr.mk ?_; intro hfr; replace FR := And.intro hfr FR; clear hfr; refine Sm.out ?_)
            | (refine Two.mk ?_ ?_)
            | (refine Cs.mk ?_; intro hcs; first | exact False.elim hcs | (exfalso; omega) | (refine Sm.out ?_))
            | go_step
            | omega
            | (simp only [maxLen_eq]; omega)
          exact cont.out _ (Sub.pick (by simp [pickB, hget, hdel, FR]) (by simp [look]))
        · have k5 : decide (((r + yn1 : Nat) : Int) ≥ 4294967296) = false := by simp; omega
          first | (have FRx := FR; clear FRx) | (have FR : ¬ ((1 : Nat) = 0) := Nat.one_ne_zero)
          repeat' first
            | (refine Sm.mk ?_; try simp -dsimp only [ZK, rvc, drawF, headN, pureH, stp, dvc, calleeOf, gcall, pev, eff, newB, okd, og, ogs, ogo, ogp, slv, bltv, opd, litv, strip, one, both, putE, St.put, look, gdOf, gdv, picka, pickv, pickw, binv, bini, bins, binb, binp, binq, isSlT, bina, shp, eqCells, unv, convv, nilv, faddv, addp, idxav, idxp, load1, load1m, loadn, loadnm, loadv, hget, hset, hrep, hdel, slicev, bnd, shift1, lenv, capv, IntKind.bits, extractv, fieldv, indexv, min2v, max2v, mkiv, cellsA, fillA, buildv, stC, oneC, rowMB, intsA, plN, appE, appZ, appC, appNZ, appNC, VwL, srcC, srcZ, srcM, isBoolT, isPtrT, isSliceT, uOk, Value.oneCell', Nat.reducePow, Int.reducePow, Nat.reduceAdd, Nat.reduceMul, Nat.reduceSub, Nat.reduceLT, Nat.reduceLeDiff, Nat.reduceEqDiff, Nat.reduceBEq, Nat.reduceDiv, Nat.reduceMod, ↓reduceIte, reduceCtorEq, Int.reduceToNat, Int.reduceLT, Int.reduceLE, TFExD, SeqQ, BlkQ, LoopQ, BodyQ, k, k4, k5, c1, c2, c3, c4, c5, FR])
            | (refine WP.seq fun K hK => ?_)
            | (refine WP.region (rvc_sound _ _ (Sm.out ?_)))
            | (refine WP.drawK rfl mixed (by decide +kernel) (Sm.out ?_))
            | (refine Ob.mk ?_; focus (first | assumption | omega | decide | trivial | (intro hob; simp only [hob, ZF]; done) | (intros; (repeat' refine And.intro ?_ ?_) <;> first | assumption | omega | trivial | decide) | (intros; simp only [ZE] at *; (repeat' refine And.intro ?_ ?_) <;> first | assumption | omega | trivial)))
            | (refine And.intro (Ob.out ?_) ?_)
            | (refine WP.block ?_)
            | (refine WP.cond rfl (fun hc => ?_) (fun hc => ?_) <;> (try simp only [ZC, reduceCtorEq, ZD] at hc) <;> (try (exact absurd hc (by decide))) <;> (try (exfalso; omega)))
            | ((first | refine WP.skip ?_ | refine WP.exit ?_); simp only [SeqQ, BlkQ, LoopQ, BodyQ, ↓reduceIte, Nat.reduceEqDiff, reduceCtorEq, look, true_and])
            | (refine WP.ret (Sm.out ?_))
            | (first | refine ExG.no (Sm.out ?_) | refine Or.inl (ExG.no (Sm.out ?_)) | refine Or.inl (And.intro (fun hg => absurd hg (by decide)) (ExG.no (Sm.out ?_))))
            | (refine Rt.mk ?_; refine And.intro ?_ ?_ <;> (intro hg; first | exact absurd hg (by decide) | refine Sm.out ?_))
            | (refine Nu.mk ?_; first | (fail_if_success (have := nb1)); intro nb1 | (fail_if_success (have := nb2)); intro nb2 | (fail_if_success (have := nb3)); intro nb3 | intro nbz)
            | (refine Fr.mk ?_; intro hfr; replace FR := And.intro hfr FR; clear hfr; refine Sm.out ?_)
            | (refine Two.mk ?_ ?_)
            | (refine Cs.mk ?_; intro hcs; first | exact False.elim hcs | (exfalso; omega) | (refine Sm.out ?_))
            | go_step
            | omega
            | (simp only [maxLen_eq]; omega)
          exact ⟨⟨q - 1, r + yn1⟩, ⟨D', by simp only; omega, by simp only; omega⟩, by simp only; omega, (Sub.pick (by simp [pickB, hget, hdel, FR]) (by simp [look]))⟩
    · have k : decide ((q : Int) ≥ 4294967296) = false := by simp; omega
      have hqy : q * yn0 ≤ 4294967295 * 4294967295 := Nat.mul_le_mul (by omega) (by omega)
      have c3 : IntKind.u64.wrap ((q : Int) * (yn0 : Int)) = ((q * yn0 : Nat) : Int) := by rw [← Int.natCast_mul, wrap_u64_nat (by omega)]
      have c4 : IntKind.u64.wrap (4294967296 * (r : Int)) = ((4294967296 * r : Nat) : Int) := by rw [show 4294967296 * (r : Int) = ((4294967296 * r : Nat) : Int) by simp, wrap_u64_nat (by omega)]
      have c5 : IntKind.u64.wrap (((4294967296 * r : Nat) : Int) + (un1 : Int)) = ((4294967296 * r + un1 : Nat) : Int) := by rw [← Int.natCast_add, wrap_u64_nat (by omega)]
      have k4 : decide (((q * yn0 : Nat) : Int) > ((4294967296 * r + un1 : Nat) : Int)) = false := decide_eq_false (by omega)
      have he := dig_stop (by omega) (by omega) D (by omega)
      rw [← eY, ← hQ1] at he
      first | (have FRx := FR; clear FRx) | (have FR : ¬ ((1 : Nat) = 0) := Nat.one_ne_zero)
      repeat' first
        | (refine Sm.mk ?_; try simp -dsimp only [ZK, rvc, drawF, headN, pureH, stp, dvc, calleeOf, gcall, pev, eff, newB, okd, og, ogs, ogo, ogp, slv, bltv, opd, litv, strip, one, both, putE, St.put, look, gdOf, gdv, picka, pickv, pickw, binv, bini, bins, binb, binp, binq, isSlT, bina, shp, eqCells, unv, convv, nilv, faddv, addp, idxav, idxp, load1, load1m, loadn, loadnm, loadv, hget, hset, hrep, hdel, slicev, bnd, shift1, lenv, capv, IntKind.bits, extractv, fieldv, indexv, min2v, max2v, mkiv, cellsA, fillA, buildv, stC, oneC, rowMB, intsA, plN, appE, appZ, appC, appNZ, appNC, VwL, srcC, srcZ, srcM, isBoolT, isPtrT, isSliceT, uOk, Value.oneCell', Nat.reducePow, Int.reducePow, Nat.reduceAdd, Nat.reduceMul, Nat.reduceSub, Nat.reduceLT, Nat.reduceLeDiff, Nat.reduceEqDiff, Nat.reduceBEq, Nat.reduceDiv, Nat.reduceMod, ↓reduceIte, reduceCtorEq, Int.reduceToNat, Int.reduceLT, Int.reduceLE, TFExD, SeqQ, BlkQ, LoopQ, BodyQ, k, k4, c3, c4, c5, FR])
        | (refine WP.seq fun K hK => ?_)
        | (refine WP.region (rvc_sound _ _ (Sm.out ?_)))
        | (refine WP.drawK rfl mixed (by decide +kernel) (Sm.out ?_))
        | (refine Ob.mk ?_; focus (first | assumption | omega | decide | trivial | (intro hob; simp only [hob, ZF]; done) | (intros; (repeat' refine And.intro ?_ ?_) <;> first | assumption | omega | trivial | decide) | (intros; simp only [ZE] at *; (repeat' refine And.intro ?_ ?_) <;> first | assumption | omega | trivial)))
        | (refine And.intro (Ob.out ?_) ?_)
        | (refine WP.block ?_)
        | (refine WP.cond rfl (fun hc => ?_) (fun hc => ?_) <;> (try simp only [ZC, reduceCtorEq, ZD] at hc) <;> (try (exact absurd hc (by decide))) <;> (try (exfalso; omega)))
        | ((first | refine WP.skip ?_ | refine WP.exit ?_); simp only [SeqQ, BlkQ, LoopQ, BodyQ, ↓reduceIte, Nat.reduceEqDiff, reduceCtorEq, look, true_and])
        | (refine WP.ret (Sm.out ?_))
        | (first | refine ExG.no (Sm.out ?_) | refine Or.inl (ExG.no (Sm.out ?_)) | refine Or.inl (And.intro (fun hg => absurd hg (by decide)) (ExG.no (Sm.out ?_))))
        | (refine Rt.mk ?_; refine And.intro ?_ ?_ <;> (intro hg; first | exact absurd hg (by decide) | refine Sm.out ?_))
        | (refine Nu.mk ?_; first | (fail_if_success (have := nb1)); intro nb1 | (fail_if_success (have := nb2)); intro nb2 | (fail_if_success (have := nb3)); intro nb3 | intro nbz)
        | (refine Fr.mk ?_; intro hfr; replace FR := And.intro hfr FR; clear hfr; refine Sm.out ?_)
        | (refine Two.mk ?_ ?_)
        | (refine Cs.mk ?_; intro hcs; first | exact False.elim hcs | (exfalso; omega) | (refine Sm.out ?_))
        | go_step
        | omega
        | (simp only [maxLen_eq]; omega)
      exact cont.out _ (Sub.pick (by simp [pickB, hget, hdel, FR, he]) (by simp [look, he]))
end Go.Proofs.Ytngdgicgppaeaaa
namespace Go.Proofs.Ytngdgicgppaeaaa
open Go
set_option linter.unusedVariables false
set_option linter.unusedSimpArgs false
theorem TFExE : ((((((type_of% tyc0) ∧ ((type_of% tyc3) ∧ (type_of% zmb3))) ∧ ((type_of% tyc4) ∧ ((type_of% zmb4) ∧ (type_of% tyc5)))) ∧ (((type_of% zmb5) ∧ ((type_of% tyc9) ∧ (type_of% zmb9))) ∧ (((type_of% tyc22) ∧ (type_of% zmb22)) ∧ ((type_of% tyc24) ∧ (type_of% foff24_0))))) ∧ ((((type_of% fpart24_0) ∧ ((type_of% foff24_1) ∧ (type_of% fpart24_1))) ∧ ((type_of% fe24) ∧ ((type_of% zmb24) ∧ (type_of% bldT24)))) ∧ (((type_of% tyc29) ∧ ((type_of% zmb29) ∧ (type_of% tyc68))) ∧ (((type_of% tyc73) ∧ (type_of% elt73)) ∧ ((type_of% zmb73) ∧ (type_of% bldT73)))))) ∧ (((((type_of% tyc74) ∧ ((type_of% tyc76) ∧ (type_of% elt76))) ∧ ((type_of% mkz76) ∧ ((type_of% apT76) ∧ (type_of% elk76)))) ∧ (((type_of% zmb76) ∧ ((type_of% tyc81) ∧ (type_of% elt81))) ∧ (((type_of% mkz81) ∧ (type_of% apT81)) ∧ ((type_of% elk81) ∧ (type_of% zmb81))))) ∧ ((((type_of% arr173) ∧ ((type_of% Try.underlying0) ∧ (type_of% Try.underlying3))) ∧ (((type_of% Try.underlying4) ∧ (type_of% Try.underlying5)) ∧ ((type_of% Try.underlying9) ∧ (type_of% Try.underlying22)))) ∧ (((type_of% Try.underlying24) ∧ ((type_of% Try.underlying29) ∧ (type_of% Try.underlying68))) ∧ (((type_of% Try.underlying73) ∧ (type_of% Try.underlying74)) ∧ ((type_of% Try.underlying76) ∧ (type_of% Try.underlying81))))))) :=
  ⟨⟨⟨⟨⟨tyc0, ⟨tyc3, zmb3⟩⟩, ⟨tyc4, ⟨zmb4, tyc5⟩⟩⟩, ⟨⟨zmb5, ⟨tyc9, zmb9⟩⟩, ⟨⟨tyc22, zmb22⟩, ⟨tyc24, foff24_0⟩⟩⟩⟩, ⟨⟨⟨fpart24_0, ⟨foff24_1, fpart24_1⟩⟩, ⟨fe24, ⟨zmb24, bldT24⟩⟩⟩, ⟨⟨tyc29, ⟨zmb29, tyc68⟩⟩, ⟨⟨tyc73, elt73⟩, ⟨zmb73, bldT73⟩⟩⟩⟩⟩, ⟨⟨⟨⟨tyc74, ⟨tyc76, elt76⟩⟩, ⟨mkz76, ⟨apT76, elk76⟩⟩⟩, ⟨⟨zmb76, ⟨tyc81, elt81⟩⟩, ⟨⟨mkz81, apT81⟩, ⟨elk81, zmb81⟩⟩⟩⟩, ⟨⟨⟨arr173, ⟨Try.underlying0, Try.underlying3⟩⟩, ⟨⟨Try.underlying4, Try.underlying5⟩, ⟨Try.underlying9, Try.underlying22⟩⟩⟩, ⟨⟨Try.underlying24, ⟨Try.underlying29, Try.underlying68⟩⟩, ⟨⟨Try.underlying73, Try.underlying74⟩, ⟨Try.underlying76, Try.underlying81⟩⟩⟩⟩⟩⟩
theorem hilo (a b : Nat) (h : b < 18446744073709551616) : (a * 18446744073709551616 + b) / 18446744073709551616 = a ∧ (a * 18446744073709551616 + b) % 18446744073709551616 = b := by constructor <;> omega
theorem floor_ct (h l n : Nat) (hh : h < 18446744073709551616) (hl : l < 18446744073709551616) (hn : 0 < n) (hn2 : n < 18446744073709551616) :
    ACt Try.prog 44 [.agg [nu h, nu l], nu n] [] (Fn (.tup [wideA ((h * 18446744073709551616 + l) / n), nu ((h * 18446744073709551616 + l) % n), iv .i64 0])) := by
  refine ACt.intro Try.func44 rfl (by kernel_rfl) (by simp [Try.ntmps44]) (fun cx => ?_)
  simp only [argE, Try.ntmps44, Try.results44]
  have k0 : ((n : Int) == 0) = false := beq_eq_false_iff_ne.2 (by omega)
  have hm : h % n < n := Nat.mod_lt _ hn
  have c1 : ACt Try.prog 51 [iv .u64 0, nu h, nu n] [] (Fn (.tup [nu (h / n), nu (h % n)])) := by
    have := div64_ct 0 h n hn hn2 hh
    rw [Nat.zero_mul, Nat.zero_add] at this
    exact this
  have c2 := div64_ct (h % n) l n hm hn2 hl
  have hlt : (h % n * 18446744073709551616 + l) / n < 18446744073709551616 := dig_lt hm hl
  have e : h * 18446744073709551616 + l = (h % n * 18446744073709551616 + l) + n * (h / n * 18446744073709551616) := by
    have hd := Nat.div_add_mod h n
    have : n * (h / n * 18446744073709551616) = n * (h / n) * 18446744073709551616 := by rw [Nat.mul_assoc]
    rw [this]
    generalize n * (h / n) = a at *
    omega
  have e1 : (h * 18446744073709551616 + l) / n = h / n * 18446744073709551616 + (h % n * 18446744073709551616 + l) / n := by
    rw [e, Nat.add_mul_div_left _ _ hn, Nat.add_comm]
  have e2 : (h * 18446744073709551616 + l) % n = (h % n * 18446744073709551616 + l) % n := by
    rw [e, Nat.add_mul_mod_self_left]
  have e3 : (h * 18446744073709551616 + l) / n / 18446744073709551616 = h / n := by rw [e1]; exact (hilo _ _ hlt).1
  have e4 : (h * 18446744073709551616 + l) / n % 18446744073709551616 = (h % n * 18446744073709551616 + l) / n := by rw [e1]; exact (hilo _ _ hlt).2
  first | (have FRx := FR; clear FRx) | (have FR : ¬ ((1 : Nat) = 0) := Nat.one_ne_zero)
  repeat' first
    | (refine Sm.mk ?_; try simp -dsimp only [ZK, rvc, drawF, headN, pureH, stp, dvc, calleeOf, gcall, pev, eff, newB, okd, og, ogs, ogo, ogp, slv, bltv, opd, litv, strip, one, both, putE, St.put, look, gdOf, gdv, picka, pickv, pickw, binv, bini, bins, binb, binp, binq, isSlT, bina, shp, eqCells, unv, convv, nilv, faddv, addp, idxav, idxp, load1, load1m, loadn, loadnm, loadv, hget, hset, hrep, hdel, slicev, bnd, shift1, lenv, capv, IntKind.bits, extractv, fieldv, indexv, min2v, max2v, mkiv, cellsA, fillA, buildv, stC, oneC, rowMB, intsA, plN, appE, appZ, appC, appNZ, appNC, VwL, srcC, srcZ, srcM, isBoolT, isPtrT, isSliceT, uOk, Value.oneCell', Nat.reducePow, Int.reducePow, Nat.reduceAdd, Nat.reduceMul, Nat.reduceSub, Nat.reduceLT, Nat.reduceLeDiff, Nat.reduceEqDiff, Nat.reduceBEq, Nat.reduceDiv, Nat.reduceMod, ↓reduceIte, reduceCtorEq, Int.reduceToNat, Int.reduceLT, Int.reduceLE, TFExE, SeqQ, BlkQ, LoopQ, BodyQ, k0, FR])
    | (first | refine CallV.fn (c1) (Sm.out ?_) | refine ExF.mk (c1) (Sm.out ?_) | refine ExG.mk (fun _ => c1) (Sm.out ?_) | refine ExG.mkJ (fun _ => c1) (Sm.out ?_) | refine ExG.mkI (Ob.out ?_) (fun _ => c1) (Sm.out ?_))
    | (first | refine CallV.fn (c2) (Sm.out ?_) | refine ExF.mk (c2) (Sm.out ?_) | refine ExG.mk (fun _ => c2) (Sm.out ?_) | refine ExG.mkJ (fun _ => c2) (Sm.out ?_) | refine ExG.mkI (Ob.out ?_) (fun _ => c2) (Sm.out ?_))
    | (refine WP.seq fun K hK => ?_)
    | (refine WP.region (rvc_sound _ _ (Sm.out ?_)))
    | (refine WP.drawK rfl mixed (by decide +kernel) (Sm.out ?_))
    | (refine Ob.mk ?_; focus (first | assumption | omega | decide | trivial | (intro hob; simp only [hob, ZF]; done) | (intros; (repeat' refine And.intro ?_ ?_) <;> first | assumption | omega | trivial | decide) | (intros; simp only [ZE] at *; (repeat' refine And.intro ?_ ?_) <;> first | assumption | omega | trivial)))
    | (refine And.intro (Ob.out ?_) ?_)
    | (refine WP.block ?_)
    | (refine WP.cond rfl (fun hc => ?_) (fun hc => ?_) <;> (try simp only [ZC, reduceCtorEq, ZD] at hc) <;> (try (exact absurd hc (by decide))) <;> (try (exfalso; omega)))
    | ((first | refine WP.skip ?_ | refine WP.exit ?_); simp only [SeqQ, BlkQ, LoopQ, BodyQ, ↓reduceIte, Nat.reduceEqDiff, reduceCtorEq, look, true_and])
    | (refine WP.ret (Sm.out ?_))
    | (first | refine ExG.no (Sm.out ?_) | refine Or.inl (ExG.no (Sm.out ?_)) | refine Or.inl (And.intro (fun hg => absurd hg (by decide)) (ExG.no (Sm.out ?_))))
    | (refine Rt.mk ?_; refine And.intro ?_ ?_ <;> (intro hg; first | exact absurd hg (by decide) | refine Sm.out ?_))
    | (refine Nu.mk ?_; first | (fail_if_success (have := nb1)); intro nb1 | (fail_if_success (have := nb2)); intro nb2 | (fail_if_success (have := nb3)); intro nb3 | intro nbz)
    | (refine Fr.mk ?_; intro hfr; replace FR := And.intro hfr FR; clear hfr; refine Sm.out ?_)
    | (refine Two.mk ?_ ?_)
    | (refine Cs.mk ?_; intro hcs; first | exact False.elim hcs | (exfalso; omega) | (refine Sm.out ?_))
    | go_step
    | omega
    | (simp only [maxLen_eq]; omega)
  (refine OutQ.all ?_ ?_; (focus (simp only [resv, ZK, look, loadv, loadn, loadnm, load1, load1m, hget, ↓reduceIte, Nat.reduceEqDiff, Nat.reduceAdd, Nat.reduceMul, Nat.reduceLeDiff, Nat.reduceLT, reduceCtorEq, TFExE, e2, e3, e4, FR])); (try simp only [resv, resA, Fn, ZK, look, loadv, loadn, loadnm, load1, load1m, hget, ↓reduceIte, Nat.reduceEqDiff, Nat.reduceAdd, Nat.reduceMul, Nat.reduceLeDiff, Nat.reduceLT, reduceCtorEq, TFExE, e2, e3, e4, FR]); (try simp [resA, Fn, look, e2, e3, e4, FR]))
def cmpN (a b : Nat) : Int := if a < b then -1 else if b < a then 1 else 0
/-- The digits of a number, as many as there may be. -/
def digF : Nat → Nat → List Int
  | 0, _ => []
  | f + 1, n => (if n / 10 = 0 then [] else digF f (n / 10)) ++ [((48 + n % 10 : Nat) : Int)]
def prt (n : Nat) : ByteArray := bstr (digF 39 n)
structure PR where
  k : Nat
  a : Nat
  Z : List Int
set_option maxRecDepth 8000 in
set_option maxHeartbeats 2000000 in
theorem print_ct (n : Nat) (hn : n < 340282366920938463463374607431768211456) : ACt Try.prog 34 [wideA n] [] (Fn (.lit (.string (prt n)))) := by
  refine ACt.intro Try.func34 rfl (by kernel_rfl) (by simp [Try.ntmps34]) (fun cx => ?_)
  simp only [argE, Try.ntmps34, Try.results34]
  obtain ⟨D, hD⟩ : ∃ D, D = digF 39 n := ⟨_, rfl⟩
  have hp : prt n = bstr D := by rw [hD]; rfl
  first | (have FRx := FR; clear FRx) | (have FR : ¬ ((1 : Nat) = 0) := Nat.one_ne_zero)
  repeat' first
    | (refine Sm.mk ?_; try simp -dsimp only [ZK, rvc, drawF, headN, pureH, stp, dvc, calleeOf, gcall, pev, eff, newB, okd, og, ogs, ogo, ogp, slv, bltv, opd, litv, strip, one, both, putE, St.put, look, gdOf, gdv, picka, pickv, pickw, binv, bini, bins, binb, binp, binq, isSlT, bina, shp, eqCells, unv, convv, nilv, faddv, addp, idxav, idxp, load1, load1m, loadn, loadnm, loadv, hget, hset, hrep, hdel, slicev, bnd, shift1, lenv, capv, IntKind.bits, extractv, fieldv, indexv, min2v, max2v, mkiv, cellsA, fillA, buildv, stC, oneC, rowMB, intsA, plN, appE, appZ, appC, appNZ, appNC, VwL, srcC, srcZ, srcM, isBoolT, isPtrT, isSliceT, uOk, Value.oneCell', Nat.reducePow, Int.reducePow, Nat.reduceAdd, Nat.reduceMul, Nat.reduceSub, Nat.reduceLT, Nat.reduceLeDiff, Nat.reduceEqDiff, Nat.reduceBEq, Nat.reduceDiv, Nat.reduceMod, ↓reduceIte, reduceCtorEq, Int.reduceToNat, Int.reduceLT, Int.reduceLE, TFExE, SeqQ, BlkQ, LoopQ, BodyQ, FR])
    | (refine WP.seq fun K hK => ?_)
    | (refine WP.region (rvc_sound _ _ (Sm.out ?_)))
    | (refine WP.drawK rfl mixed (by decide +kernel) (Sm.out ?_))
    | (refine Ob.mk ?_; focus (first | assumption | omega | decide | trivial | (intro hob; simp only [hob, ZF]; done) | (intros; (repeat' refine And.intro ?_ ?_) <;> first | assumption | omega | trivial | decide) | (intros; simp only [ZE] at *; (repeat' refine And.intro ?_ ?_) <;> first | assumption | omega | trivial)))
    | (refine And.intro (Ob.out ?_) ?_)
    | (refine WP.block ?_)
    | (refine WP.cond rfl (fun hc => ?_) (fun hc => ?_) <;> (try simp only [ZC, reduceCtorEq, ZD] at hc) <;> (try (exact absurd hc (by decide))) <;> (try (exfalso; omega)))
    | ((first | refine WP.skip ?_ | refine WP.exit ?_); simp only [SeqQ, BlkQ, LoopQ, BodyQ, ↓reduceIte, Nat.reduceEqDiff, reduceCtorEq, look, true_and])
    | (refine WP.ret (Sm.out ?_))
    | (first | refine ExG.no (Sm.out ?_) | refine Or.inl (ExG.no (Sm.out ?_)) | refine Or.inl (And.intro (fun hg => absurd hg (by decide)) (ExG.no (Sm.out ?_))))
    | (refine Rt.mk ?_; refine And.intro ?_ ?_ <;> (intro hg; first | exact absurd hg (by decide) | refine Sm.out ?_))
    | (refine Nu.mk ?_; first | (fail_if_success (have := nb1)); intro nb1 | (fail_if_success (have := nb2)); intro nb2 | (fail_if_success (have := nb3)); intro nb3 | intro nbz)
    | (refine Fr.mk ?_; intro hfr; replace FR := And.intro hfr FR; clear hfr; refine Sm.out ?_)
    | (refine Two.mk ?_ ?_)
    | (refine Cs.mk ?_; intro hcs; first | exact False.elim hcs | (exfalso; omega) | (refine Sm.out ?_))
    | go_step
    | omega
    | (simp only [maxLen_eq]; omega)
  refine WP.loop (Γ := PR) (fun g => ⟨[(4, iv .i64 g.k), (3, pt nb2 0), (1, pt nb1 0)], [(nb2, .zs .u8 g.Z 39 73), (nb1, .cells [nu (g.a / 18446744073709551616), nu (g.a % 18446744073709551616)] 2 24)]⟩)
    (fun g => 1 ≤ g.k ∧ g.k ≤ 39 ∧ g.a < 10 ^ g.k ∧ g.a ≤ n ∧ g.Z.length = 39 ∧ D = digF g.k g.a ++ g.Z.drop g.k) (fun g => g.k)
    ⟨39, n, List.replicate 39 0⟩ ⟨by simp, by simp, by simp only; omega, by simp, by simp, by simp [hD]⟩ (Sub.pick (by simp [pickB, hget, hdel, FR]) (by simp [look])) ?_
  intro ⟨k, a, Z⟩ ⟨h1, h2, h3, h4, h5, h6⟩
  simp only at h1 h2 h3 h4 h5 h6 ⊢
  obtain ⟨k', rfl⟩ : ∃ k', k = k' + 1 := ⟨k - 1, by omega⟩
  have g1 : IntKind.i64.wrap (((k' + 1 : Nat) : Int) - 1) = (k' : Int) := by rw [wrap_i64 (by omega) (by omega)]; omega
  have fl : ACt Try.prog 44 [wideA a, iv .u64 10] [] (Fn (.tup [wideA (a / 10), nu (a % 10), iv .i64 0])) := by
    have := floor_ct (a / 18446744073709551616) (a % 18446744073709551616) 10 (by omega) (by omega) (by omega) (by omega)
    rw [show a / 18446744073709551616 * 18446744073709551616 + a % 18446744073709551616 = a by omega] at this
    exact this
  have g2 : IntKind.u8.wrap ((a % 10 : Nat) : Int) = ((a % 10 : Nat) : Int) := wrap_u8 (by omega) (by omega)
  have g3 : IntKind.u8.wrap (48 + ((a % 10 : Nat) : Int)) = ((48 + a % 10 : Nat) : Int) := by rw [wrap_u8 (by omega) (by omega)]; omega
  obtain ⟨q, hq⟩ : ∃ q, q = a / 10 := ⟨_, rfl⟩
  rw [← hq] at fl
  have hZ : (Z.set k' ((48 + a % 10 : Nat) : Int)).drop k' = ((48 + a % 10 : Nat) : Int) :: Z.drop (k' + 1) := by
    rw [List.drop_set, if_neg (by omega), Nat.sub_self, List.drop_eq_getElem_cons (by omega), List.set_cons_zero]
  rw [digF.eq_2 a k', ← hq] at h6
  have hne : (39 = k') = False := by simp; omega
  by_cases hq0 : q = 0
  · have z1 : (((q / 18446744073709551616 : Nat) : Int) == 0) = true := by rw [hq0]; rfl
    have z2 : (((q % 18446744073709551616 : Nat) : Int) == 0) = true := by rw [hq0]; rfl
    rw [if_pos hq0, List.nil_append, List.singleton_append, ← hZ] at h6
    have hfin : ((Z.set k' ((48 + a % 10 : Nat) : Int)).drop k').take (39 - k') = D := by
      rw [h6, List.take_of_length_le (by simp; omega)]
    first | (have FRx := FR; clear FRx) | (have FR : ¬ ((1 : Nat) = 0) := Nat.one_ne_zero)
    repeat' first
      | (refine Sm.mk ?_; try simp -dsimp only [ZK, rvc, drawF, headN, pureH, stp, dvc, calleeOf, gcall, pev, eff, newB, okd, og, ogs, ogo, ogp, slv, bltv, opd, litv, strip, one, both, putE, St.put, look, gdOf, gdv, picka, pickv, pickw, binv, bini, bins, binb, binp, binq, isSlT, bina, shp, eqCells, unv, convv, nilv, faddv, addp, idxav, idxp, load1, load1m, loadn, loadnm, loadv, hget, hset, hrep, hdel, slicev, bnd, shift1, lenv, capv, IntKind.bits, extractv, fieldv, indexv, min2v, max2v, mkiv, cellsA, fillA, buildv, stC, oneC, rowMB, intsA, plN, appE, appZ, appC, appNZ, appNC, VwL, srcC, srcZ, srcM, isBoolT, isPtrT, isSliceT, uOk, Value.oneCell', Nat.reducePow, Int.reducePow, Nat.reduceAdd, Nat.reduceMul, Nat.reduceSub, Nat.reduceLT, Nat.reduceLeDiff, Nat.reduceEqDiff, Nat.reduceBEq, Nat.reduceDiv, Nat.reduceMod, ↓reduceIte, reduceCtorEq, Int.reduceToNat, Int.reduceLT, Int.reduceLE, TFExE, SeqQ, BlkQ, LoopQ, BodyQ, g1, g2, g3, z1, z2, h5, hne, List.length_set, FR])
      | (first | refine CallV.fn (fl) (Sm.out ?_) | refine ExF.mk (fl) (Sm.out ?_) | refine ExG.mk (fun _ => fl) (Sm.out ?_) | refine ExG.mkJ (fun _ => fl) (Sm.out ?_) | refine ExG.mkI (Ob.out ?_) (fun _ => fl) (Sm.out ?_))
      | (refine WP.seq fun K hK => ?_)
      | (refine WP.region (rvc_sound _ _ (Sm.out ?_)))
      | (refine WP.drawK rfl mixed (by decide +kernel) (Sm.out ?_))
      | (refine Ob.mk ?_; focus (first | assumption | omega | decide | trivial | (intro hob; simp only [hob, ZF]; done) | (intros; (repeat' refine And.intro ?_ ?_) <;> first | assumption | omega | trivial | decide) | (intros; simp only [ZE] at *; (repeat' refine And.intro ?_ ?_) <;> first | assumption | omega | trivial)))
      | (refine And.intro (Ob.out ?_) ?_)
      | (refine WP.block ?_)
      | (refine WP.cond rfl (fun hc => ?_) (fun hc => ?_) <;> (try simp only [ZC, reduceCtorEq, ZD] at hc) <;> (try (exact absurd hc (by decide))) <;> (try (exfalso; omega)))
      | ((first | refine WP.skip ?_ | refine WP.exit ?_); simp only [SeqQ, BlkQ, LoopQ, BodyQ, ↓reduceIte, Nat.reduceEqDiff, reduceCtorEq, look, true_and])
      | (refine WP.ret (Sm.out ?_))
      | (first | refine ExG.no (Sm.out ?_) | refine Or.inl (ExG.no (Sm.out ?_)) | refine Or.inl (And.intro (fun hg => absurd hg (by decide)) (ExG.no (Sm.out ?_))))
      | (refine Rt.mk ?_; refine And.intro ?_ ?_ <;> (intro hg; first | exact absurd hg (by decide) | refine Sm.out ?_))
      | (refine Nu.mk ?_; first | (fail_if_success (have := nb1)); intro nb1 | (fail_if_success (have := nb2)); intro nb2 | (fail_if_success (have := nb3)); intro nb3 | intro nbz)
      | (refine Fr.mk ?_; intro hfr; replace FR := And.intro hfr FR; clear hfr; refine Sm.out ?_)
      | (refine Two.mk ?_ ?_)
      | (refine Cs.mk ?_; intro hcs; first | exact False.elim hcs | (exfalso; omega) | (refine Sm.out ?_))
      | go_step
      | omega
      | (simp only [maxLen_eq]; omega)
    (refine OutQ.all ?_ ?_; (focus (simp only [resv, ZK, look, loadv, loadn, loadnm, load1, load1m, hget, ↓reduceIte, Nat.reduceEqDiff, Nat.reduceAdd, Nat.reduceMul, Nat.reduceLeDiff, Nat.reduceLT, reduceCtorEq, TFExE, hfin, hp, FR])); (try simp only [resv, resA, Fn, ZK, look, loadv, loadn, loadnm, load1, load1m, hget, ↓reduceIte, Nat.reduceEqDiff, Nat.reduceAdd, Nat.reduceMul, Nat.reduceLeDiff, Nat.reduceLT, reduceCtorEq, TFExE, hfin, hp, FR]); (try simp [resA, Fn, look, hfin, hp, FR]))
  · have z : ((((q / 18446744073709551616 : Nat) : Int) == 0) && (((q % 18446744073709551616 : Nat) : Int) == 0)) = false := by simp; omega
    rw [if_neg hq0, List.append_assoc, List.singleton_append, ← hZ] at h6
    rw [Nat.pow_succ] at h3
    first | (have FRx := FR; clear FRx) | (have FR : ¬ ((1 : Nat) = 0) := Nat.one_ne_zero)
    repeat' first
      | (refine Sm.mk ?_; try simp -dsimp only [ZK, rvc, drawF, headN, pureH, stp, dvc, calleeOf, gcall, pev, eff, newB, okd, og, ogs, ogo, ogp, slv, bltv, opd, litv, strip, one, both, putE, St.put, look, gdOf, gdv, picka, pickv, pickw, binv, bini, bins, binb, binp, binq, isSlT, bina, shp, eqCells, unv, convv, nilv, faddv, addp, idxav, idxp, load1, load1m, loadn, loadnm, loadv, hget, hset, hrep, hdel, slicev, bnd, shift1, lenv, capv, IntKind.bits, extractv, fieldv, indexv, min2v, max2v, mkiv, cellsA, fillA, buildv, stC, oneC, rowMB, intsA, plN, appE, appZ, appC, appNZ, appNC, VwL, srcC, srcZ, srcM, isBoolT, isPtrT, isSliceT, uOk, Value.oneCell', Nat.reducePow, Int.reducePow, Nat.reduceAdd, Nat.reduceMul, Nat.reduceSub, Nat.reduceLT, Nat.reduceLeDiff, Nat.reduceEqDiff, Nat.reduceBEq, Nat.reduceDiv, Nat.reduceMod, ↓reduceIte, reduceCtorEq, Int.reduceToNat, Int.reduceLT, Int.reduceLE, TFExE, SeqQ, BlkQ, LoopQ, BodyQ, g1, g2, g3, z, h5, List.length_set, FR])
      | (first | refine CallV.fn (fl) (Sm.out ?_) | refine ExF.mk (fl) (Sm.out ?_) | refine ExG.mk (fun _ => fl) (Sm.out ?_) | refine ExG.mkJ (fun _ => fl) (Sm.out ?_) | refine ExG.mkI (Ob.out ?_) (fun _ => fl) (Sm.out ?_))
      | (refine WP.seq fun K hK => ?_)
      | (refine WP.region (rvc_sound _ _ (Sm.out ?_)))
      | (refine WP.drawK rfl mixed (by decide +kernel) (Sm.out ?_))
      | (refine Ob.mk ?_; focus (first | assumption | omega | decide | trivial | (intro hob; simp only [hob, ZF]; done) | (intros; (repeat' refine And.intro ?_ ?_) <;> first | assumption | omega | trivial | decide) | (intros; simp only [ZE] at *; (repeat' refine And.intro ?_ ?_) <;> first | assumption | omega | trivial)))
      | (refine And.intro (Ob.out ?_) ?_)
      | (refine WP.block ?_)
      | (refine WP.cond rfl (fun hc => ?_) (fun hc => ?_) <;> (try simp only [ZC, reduceCtorEq, ZD] at hc) <;> (try (exact absurd hc (by decide))) <;> (try (exfalso; omega)))
      | ((first | refine WP.skip ?_ | refine WP.exit ?_); simp only [SeqQ, BlkQ, LoopQ, BodyQ, ↓reduceIte, Nat.reduceEqDiff, reduceCtorEq, look, true_and])
      | (refine WP.ret (Sm.out ?_))
      | (first | refine ExG.no (Sm.out ?_) | refine Or.inl (ExG.no (Sm.out ?_)) | refine Or.inl (And.intro (fun hg => absurd hg (by decide)) (ExG.no (Sm.out ?_))))
      | (refine Rt.mk ?_; refine And.intro ?_ ?_ <;> (intro hg; first | exact absurd hg (by decide) | refine Sm.out ?_))
      | (refine Nu.mk ?_; first | (fail_if_success (have := nb1)); intro nb1 | (fail_if_success (have := nb2)); intro nb2 | (fail_if_success (have := nb3)); intro nb3 | intro nbz)
      | (refine Fr.mk ?_; intro hfr; replace FR := And.intro hfr FR; clear hfr; refine Sm.out ?_)
      | (refine Two.mk ?_ ?_)
      | (refine Cs.mk ?_; intro hcs; first | exact False.elim hcs | (exfalso; omega) | (refine Sm.out ?_))
      | go_step
      | omega
      | (simp only [maxLen_eq]; omega)
    refine ⟨⟨k', q, Z.set k' ((48 + a % 10 : Nat) : Int)⟩, ⟨?_, by simp only; omega, by simp only; omega, by simp only; omega, by simp [h5], h6⟩, by simp only; omega, (Sub.pick (by simp [pickB, hget, hdel, FR]) (by simp [look]))⟩
    simp only
    apply Nat.pos_of_ne_zero
    intro hk
    rw [hk] at h3
    omega
end Go.Proofs.Ytngdgicgppaeaaa
