/-
  The walks and the laws that the statement leans on, part 9.
-/
import Derived.Test.YtocfaghflhgeeaaDoorZ8
namespace Go.Proofs.YtocfaghflhgeeaaDoor
open Go
set_option linter.unusedVariables false
set_option linter.unusedSimpArgs false
theorem TFStR : ((((((type_of% tyc0) ∧ (type_of% tyc3)) ∧ ((type_of% zmb3) ∧ ((type_of% tyc4) ∧ (type_of% zmb4)))) ∧ (((type_of% tyc22) ∧ ((type_of% zmb22) ∧ (type_of% tyc23))) ∧ ((type_of% zmb23) ∧ ((type_of% tyc26) ∧ (type_of% foff26_0))))) ∧ ((((type_of% fpart26_0) ∧ (type_of% foff26_1)) ∧ ((type_of% fpart26_1) ∧ ((type_of% fe26) ∧ (type_of% zmb26)))) ∧ (((type_of% bldT26) ∧ ((type_of% tyc27) ∧ (type_of% zmb27))) ∧ ((type_of% tyc28) ∧ ((type_of% tyc30) ∧ (type_of% tyc32)))))) ∧ (((((type_of% elt32) ∧ (type_of% mkz32)) ∧ ((type_of% mkc32) ∧ ((type_of% apT32) ∧ (type_of% elk32)))) ∧ (((type_of% zmb32) ∧ ((type_of% tyc34) ∧ (type_of% tyc39))) ∧ ((type_of% tyc42) ∧ ((type_of% Tryd.underlying0) ∧ (type_of% Tryd.underlying3))))) ∧ ((((type_of% Tryd.underlying4) ∧ (type_of% Tryd.underlying22)) ∧ ((type_of% Tryd.underlying23) ∧ ((type_of% Tryd.underlying26) ∧ (type_of% Tryd.underlying27)))) ∧ (((type_of% Tryd.underlying28) ∧ ((type_of% Tryd.underlying30) ∧ (type_of% Tryd.underlying32))) ∧ ((type_of% Tryd.underlying34) ∧ ((type_of% Tryd.underlying39) ∧ (type_of% Tryd.underlying42))))))) :=
  ⟨⟨⟨⟨⟨tyc0, tyc3⟩, ⟨zmb3, ⟨tyc4, zmb4⟩⟩⟩, ⟨⟨tyc22, ⟨zmb22, tyc23⟩⟩, ⟨zmb23, ⟨tyc26, foff26_0⟩⟩⟩⟩, ⟨⟨⟨fpart26_0, foff26_1⟩, ⟨fpart26_1, ⟨fe26, zmb26⟩⟩⟩, ⟨⟨bldT26, ⟨tyc27, zmb27⟩⟩, ⟨tyc28, ⟨tyc30, tyc32⟩⟩⟩⟩⟩, ⟨⟨⟨⟨elt32, mkz32⟩, ⟨mkc32, ⟨apT32, elk32⟩⟩⟩, ⟨⟨zmb32, ⟨tyc34, tyc39⟩⟩, ⟨tyc42, ⟨Tryd.underlying0, Tryd.underlying3⟩⟩⟩⟩, ⟨⟨⟨Tryd.underlying4, Tryd.underlying22⟩, ⟨Tryd.underlying23, ⟨Tryd.underlying26, Tryd.underlying27⟩⟩⟩, ⟨⟨Tryd.underlying28, ⟨Tryd.underlying30, Tryd.underlying32⟩⟩, ⟨Tryd.underlying34, ⟨Tryd.underlying39, Tryd.underlying42⟩⟩⟩⟩⟩⟩
set_option maxRecDepth 8000 in
set_option maxHeartbeats 4000000 in
theorem parts_ct (n0 : Nat) (n p : Nat) (hn : n < 18446744073709551616) (hp2 : p < 4294967296) : ACt Tryd.prog 3 [nu n, iv .u32 (p : Int)] (GG n0) (fun r F' => r = bv true ∧ F' = GG n0) := by
  have cA := awake_ct n0
  refine ACt.intro Tryd.func3 rfl (by kernel_rfl) (by simp [Tryd.ntmps3]) (fun cx => ?_)
  simp only [argE, Tryd.ntmps3, Tryd.results3, GG, p10] at cA ⊢
  by_cases hp : p ≤ 1000000
  case neg =>
    have cP := part_bad n p hp
    have cC := cut_bad n p hp
    have k1 : decide ((p : Int) > 1000000) = true := decide_eq_true (by omega)
    first | (have FRx := FR; clear FRx) | (have FR : Sm (¬ ((1 : Nat) = 0)) := Sm.mk Nat.one_ne_zero)
    repeat' first
      | (refine Sm.mk ?_; try simp -dsimp only [ZK, rvc, drawF, headN, pureH, stp, dvc, calleeOf, gcall, pev, eff, newB, okd, og, ogs, ogo, ogp, slv, bltv, opd, litv, strip, one, both, putE, St.put, look, gdOf, gdv, picka, pickv, pickw, binv, bini, bins, binb, binp, binq, isSlT, bina, shp, eqCells, unv, convv, nilv, faddv, addp, idxav, idxp, load1, load1m, loadn, loadnm, loadv, hget, hset, hrep, hdel, slicev, bnd, shift1, lenv, capv, IntKind.bits, extractv, fieldv, indexv, min2v, max2v, mkiv, cellsA, fillA, buildv, stC, oneC, rowMB, intsA, plN, appE, appZ, appC, appNZ, appNC, VwL, srcC, srcZ, srcM, isBoolT, isPtrT, isSliceT, uOk, Value.oneCell', Nat.reducePow, Int.reducePow, Nat.reduceAdd, Nat.reduceMul, Nat.reduceSub, Nat.reduceLT, Nat.reduceLeDiff, Nat.reduceEqDiff, Nat.reduceBEq, Nat.reduceDiv, Nat.reduceMod, ↓reduceIte, reduceCtorEq, Int.reduceToNat, Int.reduceLT, Int.reduceLE, TFStR, SeqQ, BlkQ, LoopQ, BodyQ, k1, FR.out])
      | (refine CallV.updM (cA) (perm1 (by simp only [hget, hdel, ↓reduceIte, FR.out, k1]; first | done | rfl)) (Sm.out ?_))
      | ((first | refine ExF.up ?_ (cA) (Sm.out ?_) | refine ExG.up ?_ (fun _ => cA) (Sm.out ?_) | refine ExG.upJ ?_ (fun _ => cA) (Sm.out ?_) | refine ExG.upI ?_ (fun _ => cA) (Ob.out ?_) (Sm.out ?_)); focus (exact ⟨_, (perm1 (by simp only [hget, hdel, ↓reduceIte, FR.out, k1]; first | done | rfl))⟩))
      | (first | refine CallV.fn (cP) (Sm.out ?_) | refine ExF.mk (cP) (Sm.out ?_) | refine ExG.mk (fun _ => cP) (Sm.out ?_) | refine ExG.mkJ (fun _ => cP) (Sm.out ?_) | refine ExG.mkI (Ob.out ?_) (fun _ => cP) (Sm.out ?_))
      | (first | refine CallV.fn (cC) (Sm.out ?_) | refine ExF.mk (cC) (Sm.out ?_) | refine ExG.mk (fun _ => cC) (Sm.out ?_) | refine ExG.mkJ (fun _ => cC) (Sm.out ?_) | refine ExG.mkI (Ob.out ?_) (fun _ => cC) (Sm.out ?_))
      | (refine WP.seq fun K hK => ?_)
      | (refine WP.region (rvc_sound _ _ (Sm.out ?_)))
      | (refine WP.drawK rfl mixed (by decide +kernel) (Sm.out ?_))
      | (refine Ob.mk ?_; focus (first | assumption | omega | decide | trivial | (intro hob; simp only [hob, ZF]; done) | (intros; (repeat' refine And.intro ?_ ?_) <;> first | assumption | omega | trivial | decide) | (intros; simp only [ZE] at *; (repeat' refine And.intro ?_ ?_) <;> first | assumption | omega | trivial)))
      | (refine And.intro (Ob.out ?_) ?_)
      | (refine WP.block ?_)
      | (refine WP.cond rfl (fun hc => ?_) (fun hc => ?_) <;> (try simp only [ZC, reduceCtorEq, ZD] at hc) <;> (try (exact absurd hc (by decide))) <;> (try (exfalso; omega)))
      | ((first | refine WP.skip ?_ | refine WP.exit ?_); simp only [SeqQ, BlkQ, LoopQ, BodyQ, ↓reduceIte, Nat.reduceEqDiff, reduceCtorEq, look, true_and])
      | (refine WP.ret (Sm.out ?_))
      | (first | refine ExG.no (Sm.out ?_) | refine Or.inl (ExG.no (Sm.out ?_)) | refine Or.inl (And.intro (fun hg => absurd hg (by decide)) (ExG.no (Sm.out ?_))))
      | (refine Rt.mk ?_; refine And.intro ?_ ?_ <;> (intro hg; first | exact absurd hg (by decide) | refine Sm.out ?_))
      | (refine Nu.mk ?_; first | (fail_if_success (have := nb1)); intro nb1 | (fail_if_success (have := nb2)); intro nb2 | (fail_if_success (have := nb3)); intro nb3 | (fail_if_success (have := nb4)); intro nb4 | (fail_if_success (have := nb5)); intro nb5 | (fail_if_success (have := nb6)); intro nb6 | (fail_if_success (have := nb7)); intro nb7 | (fail_if_success (have := nb8)); intro nb8 | (fail_if_success (have := nb9)); intro nb9 | (fail_if_success (have := nb10)); intro nb10 | (fail_if_success (have := nb11)); intro nb11 | (fail_if_success (have := nb12)); intro nb12 | intro nbz)
      | (refine Fr.mk ?_; intro hfr; (first | (have hFRb : _ ≤ _ ∧ _ ≤ _ := And.intro hfr.1 hfr.2.1) | (have hFRb : _ ≤ _ := hfr.1) | skip); replace FR := Sm.mk (And.intro hfr FR.out); clear hfr; refine Sm.out ?_)
      | (refine Two.mk ?_ ?_)
      | (refine Cs.mk ?_; intro hcs; first | exact False.elim hcs | (exfalso; omega) | (refine Sm.out ?_))
      | go_step
      | omega
      | (simp only [maxLen_eq]; omega)
    (refine OutQ.upd (by simp only [resv, ZK, look, loadv, loadn, loadnm, load1, load1m, hget, ↓reduceIte, Nat.reduceEqDiff, Nat.reduceAdd, Nat.reduceMul, Nat.reduceLeDiff, Nat.reduceLT, reduceCtorEq, TFStR, FR.out]) (by simp only [resv, resA, ZK, look, loadv, loadn, loadnm, load1, load1m, hget, ↓reduceIte, Nat.reduceEqDiff, Nat.reduceAdd, Nat.reduceMul, Nat.reduceLeDiff, Nat.reduceLT, reduceCtorEq, TFStR, FR.out]; first | done | rfl) (by simp only [hget, ↓reduceIte, if_true, if_false, FR.out]; first | done | rfl) ?_ <;> first | exact rfl | (simp only [ZK, look, loadv, loadn, loadnm, load1, load1m, hget, ↓reduceIte, Nat.reduceEqDiff, Nat.reduceAdd, Nat.reduceMul, Nat.reduceLeDiff, Nat.reduceLT, reduceCtorEq, TFStR, FR.out]; done) | skip)
  have k1 : decide ((p : Int) > 1000000) = false := decide_eq_false (by omega)
  have cP := part_ct n p hn hp
  have cC := cut_ct n p hn hp
  have cR := rest_ct p hp
  have cO := part_ct n (1000000 - p) hn (by omega)
  have b1 := big_mul hn hp
  have b2 := big_mul hn (show 1000000 - p ≤ 1000000 by omega)
  have hall : n * p + n * (1000000 - p) = n * 1000000 := by rw [← Nat.mul_add, show p + (1000000 - p) = 1000000 by omega]
  have hq : n * p / 1000000 ≤ n := Nat.div_le_of_le_mul (by rw [Nat.mul_comm]; exact Nat.mul_le_mul_right _ hp)
  have wp : IntKind.u64.wrap (p : Int) = (p : Int) := wrap_u64 (by omega) (by omega)
  have sn := bits0_ct n hn
  have sp := bits0_ct p (by omega)
  have sm := bits0_ct 1000000 (by omega)
  have vn := bits_val n (by omega)
  have vp := bits_val p (by omega)
  have vm := bits_val 1000000 (by omega)
  have ln := bitsN_len n 128
  have lp := bitsN_len p 128
  have lm := bitsN_len 1000000 128
  obtain ⟨N, hN⟩ : ∃ N, N = bitsN n 128 := ⟨_, rfl⟩
  obtain ⟨P, hP⟩ : ∃ P, P = bitsN p 128 := ⟨_, rfl⟩
  obtain ⟨M, hM⟩ : ∃ M, M = bitsN 1000000 128 := ⟨_, rfl⟩
  rw [← hN] at sn vn ln
  rw [← hP] at sp vp lp
  rw [← hM] at sm vm lm
  obtain ⟨w, hw⟩ : ∃ w, w = n * p := ⟨_, rfl⟩
  obtain ⟨o, ho⟩ : ∃ o, o = n * (1000000 - p) := ⟨_, rfl⟩
  rw [← hw] at cP cC b1 hall hq
  rw [← ho] at cO b2 hall
  have t1 := rtimes2_ct N P 128 128 ln lp (by omega) (by omega)
  have v1 := timesA_val N P
  have l1 := timesA_len N P
  rw [vn, vp, ← hw] at v1
  have o1 := of_fit (timesA N P) _ rfl (by omega) w v1 (by omega)
  have sw := bitsW_ct w (by omega)
  have so := bitsW_ct o (by omega)
  have vw := bits_val w (by omega)
  have vo := bits_val o (by omega)
  have lw := bitsN_len w 128
  have lo := bitsN_len o 128
  obtain ⟨W, hW⟩ : ∃ W, W = bitsN w 128 := ⟨_, rfl⟩
  obtain ⟨O, hO⟩ : ∃ O, O = bitsN o 128 := ⟨_, rfl⟩
  rw [← hW] at sw vw lw
  rw [← hO] at so vo lo
  have pl := plus2_ct W O 128 128 lw lo (by omega) (by omega)
  have v2 := plusF_val W O
  have l2 := plusF_len W O
  rw [vw, vo, hall] at v2
  have t2 := rtimes2_ct N M 128 128 ln lm (by omega) (by omega)
  have v3 := timesA_val N M
  have l3 := timesA_len N M
  rw [vn, vm] at v3
  have cmp := rcmp_ct (plusF W O) (timesA N M) _ _ rfl rfl (by omega) (by omega)
  rw [v2, v3, show cmpN (n * 1000000) (n * 1000000) = 0 by unfold cmpN; simp] at cmp
  obtain ⟨d1, d2, d3, d4⟩ := div_all W M (by omega)
  have dv := divide_ct W M 128 128 lw lm (by omega) (by omega) (by omega)
  rw [vw, vm] at d1 d2
  rw [lw] at d1 d2 d3 d4
  obtain ⟨X, hX⟩ : ∃ X, X = (divS W M 128).1 := ⟨_, rfl⟩
  obtain ⟨Y, hY⟩ : ∃ Y, Y = (divS W M 128).2 := ⟨_, rfl⟩
  rw [← hX] at dv d1 d3
  rw [← hY] at dv d2 d4
  obtain ⟨q, hqe⟩ : ∃ q, q = w / 1000000 := ⟨_, rfl⟩
  obtain ⟨r, hre⟩ : ∃ r, r = w % 1000000 := ⟨_, rfl⟩
  have hr : r < 1000000 := by rw [hre]; exact Nat.mod_lt _ (by omega)
  rw [← hqe] at cC d1 hq
  rw [← hre] at cC d2
  have oX := of_fit X 128 d3 (by omega) q d1 (by omega)
  have oY := of_fit Y 128 d4 (by omega) r d2 (by omega)
  have y1 : ∀ x : Int, (x == x) = true := fun x => beq_self_eq_true x
  have y2 : ∀ x : Int, (x != x) = false := fun x => bne_self_eq_false x
  have e1 : q / 18446744073709551616 = 0 := by omega
  have e2 : q % 18446744073709551616 = q := by omega
  have e3 : r % 18446744073709551616 = r := by omega
  have e4 : r / 18446744073709551616 = 0 := by omega
  have k2 : decide ((q : Int) ≤ (n : Int)) = true := decide_eq_true (by omega)
  obtain ⟨T, hT⟩ : ∃ T, T = timesA N P := ⟨_, rfl⟩
  obtain ⟨U, hU⟩ : ∃ U, U = plusF W O := ⟨_, rfl⟩
  obtain ⟨V, hV⟩ : ∃ V, V = timesA N M := ⟨_, rfl⟩
  rw [← hT] at t1 o1
  rw [← hU] at pl cmp
  rw [← hV] at t2 cmp
  clear hX hY hW hO hN hP hM
  first | (have FRx := FR; clear FRx) | (have FR : Sm (¬ ((1 : Nat) = 0)) := Sm.mk Nat.one_ne_zero)
  repeat' first
    | (refine Sm.mk ?_; try simp -dsimp only [ZK, rvc, drawF, headN, pureH, stp, dvc, calleeOf, gcall, pev, eff, newB, okd, og, ogs, ogo, ogp, slv, bltv, opd, litv, strip, one, both, putE, St.put, look, gdOf, gdv, picka, pickv, pickw, binv, bini, bins, binb, binp, binq, isSlT, bina, shp, eqCells, unv, convv, nilv, faddv, addp, idxav, idxp, load1, load1m, loadn, loadnm, loadv, hget, hset, hrep, hdel, slicev, bnd, shift1, lenv, capv, IntKind.bits, extractv, fieldv, indexv, min2v, max2v, mkiv, cellsA, fillA, buildv, stC, oneC, rowMB, intsA, plN, appE, appZ, appC, appNZ, appNC, VwL, srcC, srcZ, srcM, isBoolT, isPtrT, isSliceT, uOk, Value.oneCell', Nat.reducePow, Int.reducePow, Nat.reduceAdd, Nat.reduceMul, Nat.reduceSub, Nat.reduceLT, Nat.reduceLeDiff, Nat.reduceEqDiff, Nat.reduceBEq, Nat.reduceDiv, Nat.reduceMod, ↓reduceIte, reduceCtorEq, Int.reduceToNat, Int.reduceLT, Int.reduceLE, TFStR, SeqQ, BlkQ, LoopQ, BodyQ, k1, wp, y1, y2, e1, e2, e3, e4, k2, FR.out])
    | (refine CallV.updM (cA) (perm1 (by simp only [hget, hdel, ↓reduceIte, FR.out, k1, wp, y1, y2, e1, e2, e3, e4, k2]; first | done | rfl)) (Sm.out ?_))
    | ((first | refine ExF.up ?_ (cA) (Sm.out ?_) | refine ExG.up ?_ (fun _ => cA) (Sm.out ?_) | refine ExG.upJ ?_ (fun _ => cA) (Sm.out ?_) | refine ExG.upI ?_ (fun _ => cA) (Ob.out ?_) (Sm.out ?_)); focus (exact ⟨_, (perm1 (by simp only [hget, hdel, ↓reduceIte, FR.out, k1, wp, y1, y2, e1, e2, e3, e4, k2]; first | done | rfl))⟩))
    | (first | refine CallV.fn (cP) (Sm.out ?_) | refine ExF.mk (cP) (Sm.out ?_) | refine ExG.mk (fun _ => cP) (Sm.out ?_) | refine ExG.mkJ (fun _ => cP) (Sm.out ?_) | refine ExG.mkI (Ob.out ?_) (fun _ => cP) (Sm.out ?_))
    | (first | refine CallV.fn (cC) (Sm.out ?_) | refine ExF.mk (cC) (Sm.out ?_) | refine ExG.mk (fun _ => cC) (Sm.out ?_) | refine ExG.mkJ (fun _ => cC) (Sm.out ?_) | refine ExG.mkI (Ob.out ?_) (fun _ => cC) (Sm.out ?_))
    | (first | refine CallV.fn (cR) (Sm.out ?_) | refine ExF.mk (cR) (Sm.out ?_) | refine ExG.mk (fun _ => cR) (Sm.out ?_) | refine ExG.mkJ (fun _ => cR) (Sm.out ?_) | refine ExG.mkI (Ob.out ?_) (fun _ => cR) (Sm.out ?_))
    | (first | refine CallV.fn (cO) (Sm.out ?_) | refine ExF.mk (cO) (Sm.out ?_) | refine ExG.mk (fun _ => cO) (Sm.out ?_) | refine ExG.mkJ (fun _ => cO) (Sm.out ?_) | refine ExG.mkI (Ob.out ?_) (fun _ => cO) (Sm.out ?_))
    | (first | refine CallV.fn (sn) (Sm.out ?_) | refine ExF.mk (sn) (Sm.out ?_) | refine ExG.mk (fun _ => sn) (Sm.out ?_) | refine ExG.mkJ (fun _ => sn) (Sm.out ?_) | refine ExG.mkI (Ob.out ?_) (fun _ => sn) (Sm.out ?_))
    | (first | refine CallV.fn (sp) (Sm.out ?_) | refine ExF.mk (sp) (Sm.out ?_) | refine ExG.mk (fun _ => sp) (Sm.out ?_) | refine ExG.mkJ (fun _ => sp) (Sm.out ?_) | refine ExG.mkI (Ob.out ?_) (fun _ => sp) (Sm.out ?_))
    | (first | refine CallV.fn (sm) (Sm.out ?_) | refine ExF.mk (sm) (Sm.out ?_) | refine ExG.mk (fun _ => sm) (Sm.out ?_) | refine ExG.mkJ (fun _ => sm) (Sm.out ?_) | refine ExG.mkI (Ob.out ?_) (fun _ => sm) (Sm.out ?_))
    | (first | refine CallV.fn (t1) (Sm.out ?_) | refine ExF.mk (t1) (Sm.out ?_) | refine ExG.mk (fun _ => t1) (Sm.out ?_) | refine ExG.mkJ (fun _ => t1) (Sm.out ?_) | refine ExG.mkI (Ob.out ?_) (fun _ => t1) (Sm.out ?_))
    | (first | refine CallV.fn (o1) (Sm.out ?_) | refine ExF.mk (o1) (Sm.out ?_) | refine ExG.mk (fun _ => o1) (Sm.out ?_) | refine ExG.mkJ (fun _ => o1) (Sm.out ?_) | refine ExG.mkI (Ob.out ?_) (fun _ => o1) (Sm.out ?_))
    | (first | refine CallV.fn (sw) (Sm.out ?_) | refine ExF.mk (sw) (Sm.out ?_) | refine ExG.mk (fun _ => sw) (Sm.out ?_) | refine ExG.mkJ (fun _ => sw) (Sm.out ?_) | refine ExG.mkI (Ob.out ?_) (fun _ => sw) (Sm.out ?_))
    | (first | refine CallV.fn (so) (Sm.out ?_) | refine ExF.mk (so) (Sm.out ?_) | refine ExG.mk (fun _ => so) (Sm.out ?_) | refine ExG.mkJ (fun _ => so) (Sm.out ?_) | refine ExG.mkI (Ob.out ?_) (fun _ => so) (Sm.out ?_))
    | (first | refine CallV.fn (pl) (Sm.out ?_) | refine ExF.mk (pl) (Sm.out ?_) | refine ExG.mk (fun _ => pl) (Sm.out ?_) | refine ExG.mkJ (fun _ => pl) (Sm.out ?_) | refine ExG.mkI (Ob.out ?_) (fun _ => pl) (Sm.out ?_))
    | (first | refine CallV.fn (t2) (Sm.out ?_) | refine ExF.mk (t2) (Sm.out ?_) | refine ExG.mk (fun _ => t2) (Sm.out ?_) | refine ExG.mkJ (fun _ => t2) (Sm.out ?_) | refine ExG.mkI (Ob.out ?_) (fun _ => t2) (Sm.out ?_))
    | (first | refine CallV.fn (cmp) (Sm.out ?_) | refine ExF.mk (cmp) (Sm.out ?_) | refine ExG.mk (fun _ => cmp) (Sm.out ?_) | refine ExG.mkJ (fun _ => cmp) (Sm.out ?_) | refine ExG.mkI (Ob.out ?_) (fun _ => cmp) (Sm.out ?_))
    | (first | refine CallV.fn (dv) (Sm.out ?_) | refine ExF.mk (dv) (Sm.out ?_) | refine ExG.mk (fun _ => dv) (Sm.out ?_) | refine ExG.mkJ (fun _ => dv) (Sm.out ?_) | refine ExG.mkI (Ob.out ?_) (fun _ => dv) (Sm.out ?_))
    | (first | refine CallV.fn (oX) (Sm.out ?_) | refine ExF.mk (oX) (Sm.out ?_) | refine ExG.mk (fun _ => oX) (Sm.out ?_) | refine ExG.mkJ (fun _ => oX) (Sm.out ?_) | refine ExG.mkI (Ob.out ?_) (fun _ => oX) (Sm.out ?_))
    | (first | refine CallV.fn (oY) (Sm.out ?_) | refine ExF.mk (oY) (Sm.out ?_) | refine ExG.mk (fun _ => oY) (Sm.out ?_) | refine ExG.mkJ (fun _ => oY) (Sm.out ?_) | refine ExG.mkI (Ob.out ?_) (fun _ => oY) (Sm.out ?_))
    | (refine WP.seq fun K hK => ?_)
    | (refine WP.region (rvc_sound _ _ (Sm.out ?_)))
    | (refine WP.drawK rfl mixed (by decide +kernel) (Sm.out ?_))
    | (refine Ob.mk ?_; focus (first | assumption | omega | decide | trivial | (intro hob; simp only [hob, ZF]; done) | (intros; (repeat' refine And.intro ?_ ?_) <;> first | assumption | omega | trivial | decide) | (intros; simp only [ZE] at *; (repeat' refine And.intro ?_ ?_) <;> first | assumption | omega | trivial)))
    | (refine And.intro (Ob.out ?_) ?_)
    | (refine WP.block ?_)
    | (refine WP.cond rfl (fun hc => ?_) (fun hc => ?_) <;> (try simp only [ZC, reduceCtorEq, ZD] at hc) <;> (try (exact absurd hc (by decide))) <;> (try (exfalso; omega)))
    | ((first | refine WP.skip ?_ | refine WP.exit ?_); simp only [SeqQ, BlkQ, LoopQ, BodyQ, ↓reduceIte, Nat.reduceEqDiff, reduceCtorEq, look, true_and])
    | (refine WP.ret (Sm.out ?_))
    | (first | refine ExG.no (Sm.out ?_) | refine Or.inl (ExG.no (Sm.out ?_)) | refine Or.inl (And.intro (fun hg => absurd hg (by decide)) (ExG.no (Sm.out ?_))))
    | (refine Rt.mk ?_; refine And.intro ?_ ?_ <;> (intro hg; first | exact absurd hg (by decide) | refine Sm.out ?_))
    | (refine Nu.mk ?_; first | (fail_if_success (have := nb1)); intro nb1 | (fail_if_success (have := nb2)); intro nb2 | (fail_if_success (have := nb3)); intro nb3 | (fail_if_success (have := nb4)); intro nb4 | (fail_if_success (have := nb5)); intro nb5 | (fail_if_success (have := nb6)); intro nb6 | (fail_if_success (have := nb7)); intro nb7 | (fail_if_success (have := nb8)); intro nb8 | (fail_if_success (have := nb9)); intro nb9 | (fail_if_success (have := nb10)); intro nb10 | (fail_if_success (have := nb11)); intro nb11 | (fail_if_success (have := nb12)); intro nb12 | intro nbz)
    | (refine Fr.mk ?_; intro hfr; (first | (have hFRb : _ ≤ _ ∧ _ ≤ _ := And.intro hfr.1 hfr.2.1) | (have hFRb : _ ≤ _ := hfr.1) | skip); replace FR := Sm.mk (And.intro hfr FR.out); clear hfr; refine Sm.out ?_)
    | (refine Two.mk ?_ ?_)
    | (refine Cs.mk ?_; intro hcs; first | exact False.elim hcs | (exfalso; omega) | (refine Sm.out ?_))
    | go_step
    | omega
    | (simp only [maxLen_eq]; omega)
  (refine OutQ.upd (by simp only [resv, ZK, look, loadv, loadn, loadnm, load1, load1m, hget, ↓reduceIte, Nat.reduceEqDiff, Nat.reduceAdd, Nat.reduceMul, Nat.reduceLeDiff, Nat.reduceLT, reduceCtorEq, TFStR, FR.out]) (by simp only [resv, resA, ZK, look, loadv, loadn, loadnm, load1, load1m, hget, ↓reduceIte, Nat.reduceEqDiff, Nat.reduceAdd, Nat.reduceMul, Nat.reduceLeDiff, Nat.reduceLT, reduceCtorEq, TFStR, FR.out]; first | done | rfl) (by simp only [hget, ↓reduceIte, if_true, if_false, FR.out]; first | done | rfl) ?_ <;> first | exact rfl | (simp only [ZK, look, loadv, loadn, loadnm, load1, load1m, hget, ↓reduceIte, Nat.reduceEqDiff, Nat.reduceAdd, Nat.reduceMul, Nat.reduceLeDiff, Nat.reduceLT, reduceCtorEq, TFStR, FR.out]; done) | skip)
theorem parts_law (a p : Int) (ha : 0 ≤ a ∧ a ≤ 18446744073709551615) (hp : 0 ≤ p ∧ p ≤ 4294967295) (n0 : Nat) : ACt Tryd.prog 3 [iv .u64 a, iv .u32 p] (GG n0) (fun r F' => r = bv true ∧ F' = GG n0) := by
  obtain ⟨a, rfl⟩ := Int.eq_ofNat_of_zero_le ha.1
  obtain ⟨p, rfl⟩ := Int.eq_ofNat_of_zero_le hp.1
  exact parts_ct n0 a p (by omega) (by omega)
end Go.Proofs.YtocfaghflhgeeaaDoor
