/-
  The walks and the laws that the statement leans on, part 11.
-/
import Derived.Test.YtdfkpnkohikcgaaDoorZ10
namespace Go.Proofs.YtdfkpnkohikcgaaDoor
open Go
set_option linter.unusedVariables false
set_option linter.unusedSimpArgs false
theorem TFSpM : ((((type_of% tyc2) ∧ ((type_of% zmb2) ∧ (type_of% tyc4))) ∧ (((type_of% zmb4) ∧ (type_of% tyc9)) ∧ ((type_of% zmb9) ∧ (type_of% tyc24)))) ∧ (((type_of% zmb24) ∧ ((type_of% tyc25) ∧ (type_of% Tryd.underlying2))) ∧ (((type_of% Tryd.underlying4) ∧ (type_of% Tryd.underlying9)) ∧ ((type_of% Tryd.underlying24) ∧ (type_of% Tryd.underlying25))))) :=
  ⟨⟨⟨tyc2, ⟨zmb2, tyc4⟩⟩, ⟨⟨zmb4, tyc9⟩, ⟨zmb9, tyc24⟩⟩⟩, ⟨⟨zmb24, ⟨tyc25, Tryd.underlying2⟩⟩, ⟨⟨Tryd.underlying4, Tryd.underlying9⟩, ⟨Tryd.underlying24, Tryd.underlying25⟩⟩⟩⟩
/-- a number's digits read -/
theorem run_dec : ∀ (f k : Nat) (s : Int) (d : Bool) (j : Nat) (g : Bool) (t : List Int), k < 10 ^ (f + 1) → k ≤ 253402300799 →
    runR ⟨s, 0, d, j, g⟩ (decD (f + 1) k ++ t) = runR ⟨s, (k : Int), true, j, g⟩ t := by
  intro f
  induction f with
  | zero =>
    intro k s d j g t hk hm
    have h0 : k / 10 = 0 := by simp at hk; omega
    rw [decD_succ, if_pos h0, List.nil_append, List.singleton_append, runR_cons]
    have hs : stepR ⟨s, 0, d, j, g⟩ ((48 + k % 10 : Nat) : Int) = some ⟨s, (k : Int), true, j, g⟩ := by
      unfold stepR
      rw [if_pos (by omega)]
      unfold tkD hdV
      simp only
      have e : (0 : Int) * 10 + (((48 + k % 10 : Nat) : Int) - 48) = (k : Int) := by omega
      rw [e, if_neg (by omega), decide_eq_false (by omega), Bool.or_false]
    rw [hs]; rfl
  | succ f ih =>
    intro k s d j g t hk hm
    rw [decD_succ]
    by_cases h0 : k / 10 = 0
    · rw [if_pos h0, List.nil_append, List.singleton_append, runR_cons]
      have hs : stepR ⟨s, 0, d, j, g⟩ ((48 + k % 10 : Nat) : Int) = some ⟨s, (k : Int), true, j, g⟩ := by
        unfold stepR
        rw [if_pos (by omega)]
        unfold tkD hdV
        simp only
        have e : (0 : Int) * 10 + (((48 + k % 10 : Nat) : Int) - 48) = (k : Int) := by omega
        rw [e, if_neg (by omega), decide_eq_false (by omega), Bool.or_false]
      rw [hs]; rfl
    · rw [if_neg h0, List.append_assoc, ih (k / 10) s d j g _ (by rw [Nat.pow_succ] at hk; omega) (by omega), List.singleton_append, runR_cons]
      have hs : stepR ⟨s, ((k / 10 : Nat) : Int), true, j, g⟩ ((48 + k % 10 : Nat) : Int) = some ⟨s, (k : Int), true, j, g⟩ := by
        unfold stepR
        rw [if_pos (by omega)]
        unfold tkD hdV
        simp only
        have e : ((k / 10 : Nat) : Int) * 10 + (((48 + k % 10 : Nat) : Int) - 48) = (k : Int) := by omega
        rw [e, if_neg (by omega), decide_eq_false (by omega), Bool.or_false]
      rw [hs]; rfl
theorem ix_all : ∀ j, j < 5 → ∀ i, i < 5 → j ≤ i → ixN (uL j) ((uch i : Nat) : Int) = i - j ∧ 57 < uch i := by decide +kernel
/-- a unit read behind digits -/
theorem run_unit {s p : Int} {j i : Nat} (t : List Int) (hi : i < 5) (hj : j ≤ i) (hs : 0 ≤ s) (hp : 0 ≤ p) (hm : s + p * ((uni i : Nat) : Int) ≤ 253402300799) :
    runR ⟨s, p, true, j, false⟩ (((uch i : Nat) : Int) :: t) = runR ⟨s + p * ((uni i : Nat) : Int), 0, false, i + 1, false⟩ t := by
  obtain ⟨u1, u2, u3, u4, _⟩ := u_all i hi
  obtain ⟨x1, x2⟩ := ix_all j (by omega) i hi hj
  have hpu : 0 ≤ p * ((uni i : Nat) : Int) := Int.mul_nonneg hp (by omega)
  rw [runR_cons]
  have hst : stepR ⟨s, p, true, j, false⟩ ((uch i : Nat) : Int) = some ⟨s + p * ((uni i : Nat) : Int), 0, false, i + 1, false⟩ := by
    unfold stepR
    simp only
    rw [if_neg (by omega), if_pos ⟨by omega, by rw [x1, uL_len]; omega, trivial⟩, x1]
    unfold tkU hdV
    simp only
    rw [u1, if_neg (show ¬ p * ((uni i : Nat) : Int) > 253402300799 by omega), if_neg (by omega), decide_eq_false (by omega), show j + (i - j) + 1 = i + 1 by omega]
    rfl
  rw [hst]; rfl
theorem run_prU : ∀ (r n : Nat) (s : Int) (j : Nat), r ≤ 5 → (r = 0 → n = 0) → j ≤ 5 - r → 0 ≤ s → s + (n : Int) ≤ 253402300799 → ∃ j', runR ⟨s, 0, false, j, false⟩ (prU r n) = some ⟨s + (n : Int), 0, false, j', false⟩ := by
  intro r
  induction r with
  | zero =>
    intro n s j h1 h2 h3 h4 h5
    have := h2 rfl
    subst this
    exact ⟨j, by show some _ = some _; simp⟩
  | succ r ih =>
    intro n s j h1 h2 h3 h4 h5
    obtain ⟨u1, u2, u3, u4, _⟩ := u_all (4 - r) (by omega)
    have hd := Nat.div_add_mod n (uni (4 - r))
    have hl := Nat.mod_lt n (show 0 < uni (4 - r) by omega)
    have hz : r = 0 → n % uni (4 - r) = 0 := fun h => by subst h; exact Nat.mod_one n
    rw [prU_succ]
    by_cases h0 : n / uni (4 - r) = 0
    · rw [if_pos h0, List.nil_append]
      have hm : n % uni (4 - r) = n := by rw [h0] at hd; omega
      rw [hm] at hz ⊢
      exact ih n s j (by omega) hz (by omega) h4 h5
    · rw [if_neg h0, List.append_assoc]
      have hdl := Nat.div_le_self n (uni (4 - r))
      have e19 : (10 : Nat) ^ 20 = 100000000000000000000 := by decide
      rw [run_dec 19 _ s false j false _ (by rw [e19]; omega) (by omega), List.singleton_append]
      have ec : ((n / uni (4 - r) : Nat) : Int) * ((uni (4 - r) : Nat) : Int) + ((n % uni (4 - r) : Nat) : Int) = (n : Int) := by
        have : (((uni (4 - r) * (n / uni (4 - r)) + n % uni (4 - r) : Nat)) : Int) = (n : Int) := by rw [hd]
        rw [Int.natCast_add, Int.natCast_mul, Int.mul_comm] at this
        exact this
      obtain ⟨a, ha⟩ : ∃ a : Int, a = ((n / uni (4 - r) : Nat) : Int) * ((uni (4 - r) : Nat) : Int) := ⟨_, rfl⟩
      have hapos : 0 ≤ a := by rw [ha]; exact Int.mul_nonneg (Int.natCast_nonneg _) (Int.natCast_nonneg _)
      rw [← ha] at ec
      rw [run_unit _ (by omega) (by omega) h4 (Int.natCast_nonneg _) (by rw [← ha]; have := Int.natCast_nonneg (n % uni (4 - r)); omega), ← ha]
      obtain ⟨j', hj'⟩ := ih (n % uni (4 - r)) (s + a) (4 - r + 1) (by omega) hz (by omega) (by omega) (by omega)
      exact ⟨j', by rw [hj', show s + a + ((n % uni (4 - r) : Nat) : Int) = s + (n : Int) by omega]⟩
theorem rd_prS (n : Int) : (rightS n = true → rdS (prS n) = sgood n ∧ exS (prS n) = sgood n) ∧ (rightS n = false → rdS (prS n) = sbad 5 ∧ exS (prS n) = sbad 5 ∧ prS n = [63]) := by
  constructor
  · intro h
    obtain ⟨h1, h2⟩ := (rightS_iff n).1 h
    obtain ⟨N, rfl⟩ := Int.eq_ofNat_of_zero_le h1
    have key : ∃ j', runR r0 (prS (N : Int)) = some ⟨(N : Int), 0, false, j', false⟩ ∧ prS (N : Int) ≠ [] := by
      by_cases h0 : N = 0
      · subst h0
        exact ⟨5, by kernel_rfl, by decide +kernel⟩
      · have e : prS (N : Int) = prU 5 N := by unfold prS; rw [if_pos h, if_neg (by omega)]; rfl
        obtain ⟨j', hj'⟩ := run_prU 5 N 0 0 (by omega) (fun h => by omega) (by omega) (by omega) (by omega)
        rw [Int.zero_add] at hj'
        exact ⟨j', by rw [e]; exact hj', by rw [e]; exact fun h => by have := prU_nil 4 (by omega) N h; omega⟩
    obtain ⟨j', e, hne⟩ := key
    constructor
    · unfold rdS; rw [e]; unfold finR; simp only; rw [if_neg (by simp [hne]), if_neg (by simp)]
    · unfold exS; rw [e]; simp only; rw [if_neg (by simp [hne]), if_neg (by simp), if_pos trivial]
  · intro h
    have e : prS n = [63] := by unfold prS; rw [h]; rfl
    rw [e]
    have e2 : runR r0 [63] = none := by kernel_rfl
    exact ⟨by unfold rdS; rw [e2]; rfl, by unfold exS; rw [e2], rfl⟩
set_option maxHeartbeats 4000000 in
theorem prints_law (n : Int) (n0 : Nat) : ACt Tryd.prog 3 [iv .i64 n] (GG n0) (fun r F' => r = bv true ∧ F' = GG n0) := by
  have cA := awake_ct n0
  have cP := print_ct n0 n
  obtain ⟨bP, lP⟩ := prS_by n
  have cR := read_ct (prS n) bP lP
  have cE := exact_ct n0 (prS n) bP lP
  have cQ := rprint_ct n
  obtain ⟨g1, g2⟩ := rd_prS n
  have y1 : ∀ x : List UInt8, (x == x) = true := fun x => beq_self_eq_true x
  have y2 : ∀ x : Int, (x == x) = true := fun x => beq_self_eq_true x
  have y3 : ∀ x : List UInt8, (x != x) = false := fun x => by simp
  simp only [GG, p10] at cA cP cE ⊢
  cases h : rightS n
  · obtain ⟨e1, e2, e3⟩ := g2 h
    rw [e1] at cR
    rw [e2] at cE
    obtain ⟨B, hB⟩ : ∃ B, B = bstr (prS n) := ⟨_, rfl⟩
    have hq : (⟨#[63]⟩ : ByteArray) = B := by rw [hB, e3]; rfl
    unfold stz at cP cR cE cQ
    rw [← hB] at cP cR cE cQ
    obtain ⟨b1, b2, q1, q2, hb⟩ : ∃ b1 b2 : Bool, decide (n < 0) = b1 ∧ decide (n > 253402300799) = b2 ∧ (b1 = true ∨ b1 = false ∧ b2 = true) := by
      refine ⟨_, _, rfl, rfl, ?_⟩
      by_cases h1 : n < 0
      · exact .inl (decide_eq_true h1)
      · refine .inr ⟨decide_eq_false h1, decide_eq_true ?_⟩
        by_cases h2 : n > 253402300799
        · exact h2
        · rw [(rightS_iff n).2 ⟨by omega, by omega⟩] at h; cases h
    rcases hb with rfl | ⟨rfl, rfl⟩
    all_goals
      refine ACt.intro Tryd.func3 rfl (by kernel_rfl) (by simp [Tryd.ntmps3]) (fun cx => ?_)
      simp only [argE, Tryd.ntmps3, Tryd.results3]
    all_goals (
        first | (have FRx := FR; clear FRx) | (have FR : Sm (¬ ((1 : Nat) = 0)) := Sm.mk Nat.one_ne_zero)
        repeat' first
          | (refine Sm.mk ?_; try simp -dsimp only [ZK, rvc, drawF, headN, pureH, stp, dvc, calleeOf, gcall, pev, eff, newB, okd, og, ogs, ogo, ogp, slv, bltv, opd, litv, strip, one, both, putE, St.put, look, gdOf, gdv, picka, pickv, pickw, binv, bini, bins, binb, binp, binq, isSlT, bina, shp, eqCells, unv, convv, nilv, faddv, addp, idxav, idxp, load1, load1m, loadn, loadnm, loadv, hget, hset, hrep, hdel, slicev, bnd, shift1, lenv, capv, IntKind.bits, extractv, fieldv, indexv, min2v, max2v, mkiv, cellsA, fillA, buildv, stC, oneC, rowMB, intsA, plN, appE, appZ, appC, appNZ, appNC, VwL, srcC, srcZ, srcM, isBoolT, isPtrT, isSliceT, uOk, Value.oneCell', Nat.reducePow, Int.reducePow, Nat.reduceAdd, Nat.reduceMul, Nat.reduceSub, Nat.reduceLT, Nat.reduceLeDiff, Nat.reduceEqDiff, Nat.reduceBEq, Nat.reduceDiv, Nat.reduceMod, ↓reduceIte, reduceCtorEq, Int.reduceToNat, Int.reduceLT, Int.reduceLE, TFSpM, SeqQ, BlkQ, LoopQ, BodyQ, y1, y2, y3, hq, q1, q2, FR.out])
          | (refine CallV.updM (cA) (perm1 (by simp only [hget, hdel, ↓reduceIte, FR.out, y1, y2, y3, hq, q1, q2]; first | done | rfl)) (Sm.out ?_))
          | ((first | refine ExF.up ?_ (cA) (Sm.out ?_) | refine ExG.up ?_ (fun _ => cA) (Sm.out ?_) | refine ExG.upJ ?_ (fun _ => cA) (Sm.out ?_) | refine ExG.upI ?_ (fun _ => cA) (Ob.out ?_) (Sm.out ?_)); focus (exact ⟨_, (perm1 (by simp only [hget, hdel, ↓reduceIte, FR.out, y1, y2, y3, hq, q1, q2]; first | done | rfl))⟩))
          | (refine CallV.updM (cP) (perm1 (by simp only [hget, hdel, ↓reduceIte, FR.out, y1, y2, y3, hq, q1, q2]; first | done | rfl)) (Sm.out ?_))
          | ((first | refine ExF.up ?_ (cP) (Sm.out ?_) | refine ExG.up ?_ (fun _ => cP) (Sm.out ?_) | refine ExG.upJ ?_ (fun _ => cP) (Sm.out ?_) | refine ExG.upI ?_ (fun _ => cP) (Ob.out ?_) (Sm.out ?_)); focus (exact ⟨_, (perm1 (by simp only [hget, hdel, ↓reduceIte, FR.out, y1, y2, y3, hq, q1, q2]; first | done | rfl))⟩))
          | (first | refine CallV.fn (cR) (Sm.out ?_) | refine ExF.mk (cR) (Sm.out ?_) | refine ExG.mk (fun _ => cR) (Sm.out ?_) | refine ExG.mkJ (fun _ => cR) (Sm.out ?_) | refine ExG.mkI (Ob.out ?_) (fun _ => cR) (Sm.out ?_))
          | (refine CallV.updM (cE) (perm1 (by simp only [hget, hdel, ↓reduceIte, FR.out, y1, y2, y3, hq, q1, q2]; first | done | rfl)) (Sm.out ?_))
          | ((first | refine ExF.up ?_ (cE) (Sm.out ?_) | refine ExG.up ?_ (fun _ => cE) (Sm.out ?_) | refine ExG.upJ ?_ (fun _ => cE) (Sm.out ?_) | refine ExG.upI ?_ (fun _ => cE) (Ob.out ?_) (Sm.out ?_)); focus (exact ⟨_, (perm1 (by simp only [hget, hdel, ↓reduceIte, FR.out, y1, y2, y3, hq, q1, q2]; first | done | rfl))⟩))
          | (first | refine CallV.fn (cQ) (Sm.out ?_) | refine ExF.mk (cQ) (Sm.out ?_) | refine ExG.mk (fun _ => cQ) (Sm.out ?_) | refine ExG.mkJ (fun _ => cQ) (Sm.out ?_) | refine ExG.mkI (Ob.out ?_) (fun _ => cQ) (Sm.out ?_))
          | (refine WP.seq fun K hK => ?_)
          | (refine WP.region (rvc_sound _ _ (Sm.out ?_)))
          | (refine WP.drawK rfl mixed (by decide +kernel) (Sm.out ?_))
          | (refine Ob.mk ?_; focus (first | assumption | omega | decide | trivial | (intro hob; simp only [hob, ZF]; done) | (intros; (repeat' refine And.intro ?_ ?_) <;> first | assumption | omega | trivial | decide) | (intros; simp only [ZE] at *; (repeat' refine And.intro ?_ ?_) <;> first | assumption | omega | trivial)))
          | (refine And.intro (Ob.out ?_) ?_)
          | (refine WP.block ?_)
          | (refine WP.cond rfl (fun hc => ?_) (fun hc => ?_) <;> (try simp only [ZC, reduceCtorEq, ZD] at hc) <;> (try (exact absurd hc (by decide))) <;> (try (exfalso; omega)))
          | ((first | refine WP.skip ?_ | refine WP.exit ?_); simp only [SeqQ, BlkQ, LoopQ, BodyQ, ↓reduceIte, Nat.reduceEqDiff, reduceCtorEq, look, true_and])
          | (refine WP.ret (Sm.out ?_))
          | (first | refine ExG.no (Sm.out ?_) | refine Or.inl (ExG.no (Sm.out ?_)) | refine Or.inl (And.intro (fun hg => absurd hg (by decide)) (ExG.no (Sm.out ?_))))
          | (refine Rt.mk ?_; refine And.intro ?_ ?_ <;> (intro hg; first | exact absurd hg (by decide) | refine Sm.out ?_))
          | (refine Nu.mk ?_; first | (fail_if_success (have := nb1)); intro nb1 | (fail_if_success (have := nb2)); intro nb2 | (fail_if_success (have := nb3)); intro nb3 | (fail_if_success (have := nb4)); intro nb4 | (fail_if_success (have := nb5)); intro nb5 | (fail_if_success (have := nb6)); intro nb6 | intro nbz)
          | (refine Fr.mk ?_; intro hfr; (first | (have hFRb : _ ≤ _ ∧ _ ≤ _ := And.intro hfr.1 hfr.2.1) | (have hFRb : _ ≤ _ := hfr.1) | skip); replace FR := Sm.mk (And.intro hfr FR.out); clear hfr; refine Sm.out ?_)
          | (refine Two.mk ?_ ?_)
          | (refine Cs.mk ?_; intro hcs; first | exact False.elim hcs | (exfalso; omega) | (refine Sm.out ?_))
          | go_step
          | omega
          | (simp only [maxLen_eq]; omega))
    all_goals (refine OutQ.upd (by simp only [resv, ZK, look, loadv, loadn, loadnm, load1, load1m, hget, ↓reduceIte, Nat.reduceEqDiff, Nat.reduceAdd, Nat.reduceMul, Nat.reduceLeDiff, Nat.reduceLT, reduceCtorEq, TFSpM, FR.out]) (by simp only [resv, resA, ZK, look, loadv, loadn, loadnm, load1, load1m, hget, ↓reduceIte, Nat.reduceEqDiff, Nat.reduceAdd, Nat.reduceMul, Nat.reduceLeDiff, Nat.reduceLT, reduceCtorEq, TFSpM, FR.out]; first | done | rfl) (by simp only [hget, ↓reduceIte, if_true, if_false, FR.out]; first | done | rfl) ?_ <;> first | exact rfl | (simp only [ZK, look, loadv, loadn, loadnm, load1, load1m, hget, ↓reduceIte, Nat.reduceEqDiff, Nat.reduceAdd, Nat.reduceMul, Nat.reduceLeDiff, Nat.reduceLT, reduceCtorEq, TFSpM, FR.out]; done) | skip)
  · obtain ⟨e1, e2⟩ := g1 h
    rw [e1] at cR
    rw [e2] at cE
    obtain ⟨h1, h2⟩ := (rightS_iff n).1 h
    obtain ⟨B, hB⟩ : ∃ B, B = bstr (prS n) := ⟨_, rfl⟩
    unfold stz at cP cR cE cQ
    rw [← hB] at cP cR cE cQ
    have q1 : decide (n < 0) = false := decide_eq_false (by omega)
    have q2 : decide (n > 253402300799) = false := decide_eq_false (by omega)
    refine ACt.intro Tryd.func3 rfl (by kernel_rfl) (by simp [Tryd.ntmps3]) (fun cx => ?_)
    simp only [argE, Tryd.ntmps3, Tryd.results3]
    first | (have FRx := FR; clear FRx) | (have FR : Sm (¬ ((1 : Nat) = 0)) := Sm.mk Nat.one_ne_zero)
    repeat' first
      | (refine Sm.mk ?_; try simp -dsimp only [ZK, rvc, drawF, headN, pureH, stp, dvc, calleeOf, gcall, pev, eff, newB, okd, og, ogs, ogo, ogp, slv, bltv, opd, litv, strip, one, both, putE, St.put, look, gdOf, gdv, picka, pickv, pickw, binv, bini, bins, binb, binp, binq, isSlT, bina, shp, eqCells, unv, convv, nilv, faddv, addp, idxav, idxp, load1, load1m, loadn, loadnm, loadv, hget, hset, hrep, hdel, slicev, bnd, shift1, lenv, capv, IntKind.bits, extractv, fieldv, indexv, min2v, max2v, mkiv, cellsA, fillA, buildv, stC, oneC, rowMB, intsA, plN, appE, appZ, appC, appNZ, appNC, VwL, srcC, srcZ, srcM, isBoolT, isPtrT, isSliceT, uOk, Value.oneCell', Nat.reducePow, Int.reducePow, Nat.reduceAdd, Nat.reduceMul, Nat.reduceSub, Nat.reduceLT, Nat.reduceLeDiff, Nat.reduceEqDiff, Nat.reduceBEq, Nat.reduceDiv, Nat.reduceMod, ↓reduceIte, reduceCtorEq, Int.reduceToNat, Int.reduceLT, Int.reduceLE, TFSpM, SeqQ, BlkQ, LoopQ, BodyQ, y1, y2, y3, q1, q2, FR.out])
      | (refine CallV.updM (cA) (perm1 (by simp only [hget, hdel, ↓reduceIte, FR.out, y1, y2, y3, q1, q2]; first | done | rfl)) (Sm.out ?_))
      | ((first | refine ExF.up ?_ (cA) (Sm.out ?_) | refine ExG.up ?_ (fun _ => cA) (Sm.out ?_) | refine ExG.upJ ?_ (fun _ => cA) (Sm.out ?_) | refine ExG.upI ?_ (fun _ => cA) (Ob.out ?_) (Sm.out ?_)); focus (exact ⟨_, (perm1 (by simp only [hget, hdel, ↓reduceIte, FR.out, y1, y2, y3, q1, q2]; first | done | rfl))⟩))
      | (refine CallV.updM (cP) (perm1 (by simp only [hget, hdel, ↓reduceIte, FR.out, y1, y2, y3, q1, q2]; first | done | rfl)) (Sm.out ?_))
      | ((first | refine ExF.up ?_ (cP) (Sm.out ?_) | refine ExG.up ?_ (fun _ => cP) (Sm.out ?_) | refine ExG.upJ ?_ (fun _ => cP) (Sm.out ?_) | refine ExG.upI ?_ (fun _ => cP) (Ob.out ?_) (Sm.out ?_)); focus (exact ⟨_, (perm1 (by simp only [hget, hdel, ↓reduceIte, FR.out, y1, y2, y3, q1, q2]; first | done | rfl))⟩))
      | (first | refine CallV.fn (cR) (Sm.out ?_) | refine ExF.mk (cR) (Sm.out ?_) | refine ExG.mk (fun _ => cR) (Sm.out ?_) | refine ExG.mkJ (fun _ => cR) (Sm.out ?_) | refine ExG.mkI (Ob.out ?_) (fun _ => cR) (Sm.out ?_))
      | (refine CallV.updM (cE) (perm1 (by simp only [hget, hdel, ↓reduceIte, FR.out, y1, y2, y3, q1, q2]; first | done | rfl)) (Sm.out ?_))
      | ((first | refine ExF.up ?_ (cE) (Sm.out ?_) | refine ExG.up ?_ (fun _ => cE) (Sm.out ?_) | refine ExG.upJ ?_ (fun _ => cE) (Sm.out ?_) | refine ExG.upI ?_ (fun _ => cE) (Ob.out ?_) (Sm.out ?_)); focus (exact ⟨_, (perm1 (by simp only [hget, hdel, ↓reduceIte, FR.out, y1, y2, y3, q1, q2]; first | done | rfl))⟩))
      | (first | refine CallV.fn (cQ) (Sm.out ?_) | refine ExF.mk (cQ) (Sm.out ?_) | refine ExG.mk (fun _ => cQ) (Sm.out ?_) | refine ExG.mkJ (fun _ => cQ) (Sm.out ?_) | refine ExG.mkI (Ob.out ?_) (fun _ => cQ) (Sm.out ?_))
      | (refine WP.seq fun K hK => ?_)
      | (refine WP.region (rvc_sound _ _ (Sm.out ?_)))
      | (refine WP.drawK rfl mixed (by decide +kernel) (Sm.out ?_))
      | (refine Ob.mk ?_; focus (first | assumption | omega | decide | trivial | (intro hob; simp only [hob, ZF]; done) | (intros; (repeat' refine And.intro ?_ ?_) <;> first | assumption | omega | trivial | decide) | (intros; simp only [ZE] at *; (repeat' refine And.intro ?_ ?_) <;> first | assumption | omega | trivial)))
      | (refine And.intro (Ob.out ?_) ?_)
      | (refine WP.block ?_)
      | (refine WP.cond rfl (fun hc => ?_) (fun hc => ?_) <;> (try simp only [ZC, reduceCtorEq, ZD] at hc) <;> (try (exact absurd hc (by decide))) <;> (try (exfalso; omega)))
      | ((first | refine WP.skip ?_ | refine WP.exit ?_); simp only [SeqQ, BlkQ, LoopQ, BodyQ, ↓reduceIte, Nat.reduceEqDiff, reduceCtorEq, look, true_and])
      | (refine WP.ret (Sm.out ?_))
      | (first | refine ExG.no (Sm.out ?_) | refine Or.inl (ExG.no (Sm.out ?_)) | refine Or.inl (And.intro (fun hg => absurd hg (by decide)) (ExG.no (Sm.out ?_))))
      | (refine Rt.mk ?_; refine And.intro ?_ ?_ <;> (intro hg; first | exact absurd hg (by decide) | refine Sm.out ?_))
      | (refine Nu.mk ?_; first | (fail_if_success (have := nb1)); intro nb1 | (fail_if_success (have := nb2)); intro nb2 | (fail_if_success (have := nb3)); intro nb3 | (fail_if_success (have := nb4)); intro nb4 | (fail_if_success (have := nb5)); intro nb5 | (fail_if_success (have := nb6)); intro nb6 | intro nbz)
      | (refine Fr.mk ?_; intro hfr; (first | (have hFRb : _ ≤ _ ∧ _ ≤ _ := And.intro hfr.1 hfr.2.1) | (have hFRb : _ ≤ _ := hfr.1) | skip); replace FR := Sm.mk (And.intro hfr FR.out); clear hfr; refine Sm.out ?_)
      | (refine Two.mk ?_ ?_)
      | (refine Cs.mk ?_; intro hcs; first | exact False.elim hcs | (exfalso; omega) | (refine Sm.out ?_))
      | go_step
      | omega
      | (simp only [maxLen_eq]; omega)
    (refine OutQ.upd (by simp only [resv, ZK, look, loadv, loadn, loadnm, load1, load1m, hget, ↓reduceIte, Nat.reduceEqDiff, Nat.reduceAdd, Nat.reduceMul, Nat.reduceLeDiff, Nat.reduceLT, reduceCtorEq, TFSpM, FR.out]) (by simp only [resv, resA, ZK, look, loadv, loadn, loadnm, load1, load1m, hget, ↓reduceIte, Nat.reduceEqDiff, Nat.reduceAdd, Nat.reduceMul, Nat.reduceLeDiff, Nat.reduceLT, reduceCtorEq, TFSpM, FR.out]; first | done | rfl) (by simp only [hget, ↓reduceIte, if_true, if_false, FR.out]; first | done | rfl) ?_ <;> first | exact rfl | (simp only [ZK, look, loadv, loadn, loadnm, load1, load1m, hget, ↓reduceIte, Nat.reduceEqDiff, Nat.reduceAdd, Nat.reduceMul, Nat.reduceLeDiff, Nat.reduceLT, reduceCtorEq, TFSpM, FR.out]; done) | skip)
end Go.Proofs.YtdfkpnkohikcgaaDoor
