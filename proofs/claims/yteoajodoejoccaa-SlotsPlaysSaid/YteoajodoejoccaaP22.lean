/-
  The walks and the laws that the statement leans on, part 22.
-/
import Derived.Test.YteoajodoejoccaaP10
import Derived.Test.YteoajodoejoccaaP21
namespace Go.Proofs.Yteoajodoejoccaa.Wi
open Go
set_option linter.unusedVariables false
set_option linter.unusedSimpArgs false
set_option linter.defProp false
def TFWiR :=
  And.intro (And.intro (And.intro (And.intro (And.intro tyc0 tyc3) (And.intro zmb3 (And.intro tyc4 zmb4))) (And.intro (And.intro tyc5 zmb5) (And.intro tyc35 (And.intro zmb35 tyc36)))) (And.intro (And.intro (And.intro elt36 mkz36) (And.intro apT36 (And.intro elk36 zmb36))) (And.intro (And.intro tyc90 (And.intro mth90_68 mth90_61)) (And.intro mth90_67 (And.intro con90 zmb90))))) (And.intro (And.intro (And.intro (And.intro tyc100 foff100_0) (And.intro fpart100_0 (And.intro foff100_1 fpart100_1))) (And.intro (And.intro zmb100 (And.intro bldT100 tyc101)) (And.intro tyc104 (And.intro zmb104 tyc108)))) (And.intro (And.intro (And.intro Try.underlying0 Try.underlying3) (And.intro Try.underlying4 (And.intro Try.underlying5 Try.underlying35))) (And.intro (And.intro Try.underlying36 (And.intro Try.underlying90 Try.underlying100)) (And.intro Try.underlying101 (And.intro Try.underlying104 Try.underlying108)))))
theorem Y1WiR {G R : Prop} (r : R) (h : R → G := by intro r; first | (apply WP.region; exact rvc_sound _ _ (Sm.out r)) | exact WP.drawK rfl mixed (by decide +kernel) (Sm.out r) | (apply WP.block; exact r) | (apply WP.skip; exact Yq r) | (apply WP.exit; exact Yq r) | (apply WP.ret; exact Sm.out r) | exact WP.cond rfl (fun _ => r) (fun hg => absurd hg (by decide)) | exact WP.cond rfl (fun hg => absurd hg (by decide)) (fun _ => r) | exact Rt.mk (And.intro (fun _ => Sm.out r) fun hg => absurd hg (by decide)) | exact Rt.mk (And.intro (fun hg => absurd hg (by decide)) fun _ => Sm.out r)) : G := h r
theorem YzWiR {G R : Prop} (r : R) (h : R → G := by intro r; first | (apply ExG.no; exact Sm.out r) | (apply Or.inl; apply ExG.no; exact Sm.out r) | exact Or.inl (And.intro (fun hg => absurd hg (by decide)) (ExG.no (Sm.out r)))) : G := h r
theorem YsWiR0 {P Q : Prop} (q : Q) (h : P = Q := by (try (conv => lhs; simp -dsimp only [ZK, rvc, capA, appA, litL, mkfv, drawF, headN, pureH, stp, dvc, calleeOf, gcall, pev, eff, newB, okd, og, ogs, ogo, ogp, slv, bltv, opd, litv, strip, one, both, putE, St.put, look, gdOf, gdv, picka, pickv, pickw, binv, bini, bins, binb, binp, binq, isSlT, bina, shp, eqCells, unv, convv, nilv, faddv, addp, idxav, idxp, load1, load1m, loadn, loadnm, loadv, hget, hset, hrep, hdel, slicev, slice3v, bnd, shift1, lenv, capv, IntKind.bits, extractv, fieldv, indexv, min2v, max2v, mkiv, tasv, tasz, cellsA, fillA, buildv, stC, oneC, rowMB, intsA, plN, appE, appZ, appC, appS, srcB, appNZ, appNC, VwL, srcC, srcZ, srcM, isBoolT, isPtrT, isSliceT, uOk, Value.oneCell', Nat.reducePow, Int.reducePow, Nat.reduceAdd, Nat.reduceMul, Nat.reduceSub, Nat.reduceLT, Nat.reduceLeDiff, Nat.reduceEqDiff, Nat.reduceBEq, Nat.reduceDiv, Nat.reduceMod, ↓reduceIte, reduceCtorEq, Int.reduceToNat, Int.reduceLT, Int.reduceLE, TFWiR, SeqQ, BlkQ, LoopQ, BodyQ, List.getD_cons_zero, FA.out, FR])) <;> exact rfl) : P := h.mpr q
abbrev rd (zs : List Int) (f : Bool) : MB := .cells [.slz .u8 zs, bv f] 2 100
set_option maxRecDepth 8000 in
theorem badR (b : Nat) (zs : List Int) (f : Bool) : ACt Try.prog 52 [pt b 0] [(b, rd zs f)] (fun r F' => r = bv f ∧ F' = [(b, rd zs f)]) := by
  refine ACt.intro Try.func52 rfl (by kernel_rfl) (by simp [Try.ntmps52]) (fun cx => ?_)
  simp only [argE, Try.ntmps52, Try.results52]
  first | (have FRx := FR; clear FRx) | have FR := fr0
  have FA := Sm.mk (TFWiR)
  repeat' first | (apply Sm.mk; refine Ysn ?_) | refine WP.seq fun K hK => ?_ | (apply Ob.mk; exact Yo) | refine And.intro (Ob.out ?_) ?_ | refine Y1WiR ?_ | refine YzWiR ?_ | (refine WP.cond rfl (fun hc => ?_) (fun hc => ?_) <;> (try simp only [ZC, reduceCtorEq, ZD] at hc) <;> (try exact absurd hc (by decide)) <;> (try (exfalso; omega))) | refine Rt.mk (And.intro (fun hg => Sm.out ?_) fun hg => Sm.out ?_) | (refine Nu.mk ?_; first | (fail_if_success have := nb1); intro nb1 | (fail_if_success have := nb2); intro nb2 | (fail_if_success have := nb3); intro nb3 | intro nbz) | (refine Fr.mk ?_; intro hfr; replace FR := And.intro hfr FR; clear hfr; refine Sm.out ?_) | refine Two.mk ?_ ?_ | (apply Yxc; exact Yx) | refine Cs.mk fun hcs => Sm.out ?_ | go_step | omega | (simp only [maxLen_eq]; omega) | exact trivial | refine Or.inr (Rt.mk (And.intro (fun hg => Sm.out ?_) fun hg => Sm.out ?_))
  (refine OutQ.upd (by simp only [resv, ZK, look, loadv, loadn, loadnm, load1, load1m, hget, ↓reduceIte, Nat.reduceEqDiff, Nat.reduceAdd, Nat.reduceMul, Nat.reduceLeDiff, Nat.reduceLT, reduceCtorEq, TFWiR, FR]) (by simp only [resv, resA, ZK, look, loadv, loadn, loadnm, load1, load1m, hget, ↓reduceIte, Nat.reduceEqDiff, Nat.reduceAdd, Nat.reduceMul, Nat.reduceLeDiff, Nat.reduceLT, reduceCtorEq, TFWiR, FR]; first | done | rfl) (by simp only [hget, ↓reduceIte, if_true, if_false, FR]; first | done | rfl) ?_ <;> first | exact rfl | (simp only [ZK, look, loadv, loadn, loadnm, load1, load1m, hget, ↓reduceIte, Nat.reduceEqDiff, Nat.reduceAdd, Nat.reduceMul, Nat.reduceLeDiff, Nat.reduceLT, reduceCtorEq, TFWiR, FR]; done) | skip)
set_option maxRecDepth 8000 in
theorem takeR (b : Nat) (zs : List Int) (n : Nat) (hn : n ≤ zs.length) (hz : zs.length ≤ 100000) :
    ACt Try.prog 67 [pt b 0, nu n] [(b, rd zs false)] (fun r F' => r = .tup [.slz .u8 (zs.take n), bv true] ∧ F' = [(b, rd (zs.drop n) false)]) := by
  refine ACt.intro Try.func67 rfl (by kernel_rfl) (by simp [Try.ntmps67]) (fun cx => ?_)
  simp only [argE, Try.ntmps67, Try.results67]
  have w : IntKind.u64.wrap (zs.length : Int) = (zs.length : Int) := wrap_u64_nat (by omega)
  have d : decide ((n : Int) > zs.length) = false := by simp; omega
  have e : zs.take zs.length = zs := List.take_length
  first | (have FRx := FR; clear FRx) | have FR := fr0
  have FA := Sm.mk (And.intro TFWiR (And.intro w (And.intro d e)))
  repeat' first | (apply Sm.mk; refine Ysn ?_) | refine WP.seq fun K hK => ?_ | (apply Ob.mk; exact Yo) | refine And.intro (Ob.out ?_) ?_ | refine Y1WiR ?_ | refine Yun (c := badR b zs false) (r := ?_) | refine YzWiR ?_ | (refine WP.cond rfl (fun hc => ?_) (fun hc => ?_) <;> (try simp only [ZC, reduceCtorEq, ZD] at hc) <;> (try exact absurd hc (by decide)) <;> (try (exfalso; omega))) | refine Rt.mk (And.intro (fun hg => Sm.out ?_) fun hg => Sm.out ?_) | (refine Nu.mk ?_; first | (fail_if_success have := nb1); intro nb1 | (fail_if_success have := nb2); intro nb2 | (fail_if_success have := nb3); intro nb3 | intro nbz) | (refine Fr.mk ?_; intro hfr; replace FR := And.intro hfr FR; clear hfr; refine Sm.out ?_) | refine Two.mk ?_ ?_ | (apply Yxc; exact Yx) | refine Cs.mk fun hcs => Sm.out ?_ | go_step | omega | (simp only [maxLen_eq]; omega) | exact trivial | refine Or.inr (Rt.mk (And.intro (fun hg => Sm.out ?_) fun hg => Sm.out ?_))
  (refine OutQ.upd (by simp only [resv, ZK, look, loadv, loadn, loadnm, load1, load1m, hget, ↓reduceIte, Nat.reduceEqDiff, Nat.reduceAdd, Nat.reduceMul, Nat.reduceLeDiff, Nat.reduceLT, reduceCtorEq, TFWiR, FR]) (by simp only [resv, resA, ZK, look, loadv, loadn, loadnm, load1, load1m, hget, ↓reduceIte, Nat.reduceEqDiff, Nat.reduceAdd, Nat.reduceMul, Nat.reduceLeDiff, Nat.reduceLT, reduceCtorEq, TFWiR, FR]; first | done | rfl) (by simp only [hget, ↓reduceIte, if_true, if_false, FR]; first | done | rfl) ?_ <;> first | exact rfl | (simp only [ZK, look, loadv, loadn, loadnm, load1, load1m, hget, ↓reduceIte, Nat.reduceEqDiff, Nat.reduceAdd, Nat.reduceMul, Nat.reduceLeDiff, Nat.reduceLT, reduceCtorEq, TFWiR, FR]; done) | skip)
theorem byteL_hd {n k : Nat} (h : n < 256 ^ (k + 1)) (h2 : 256 ^ k ≤ n) : n / 256 ^ k % 256 ≠ 0 := by
  have h3 : n / 256 ^ k < 256 := by rw [Nat.div_lt_iff_lt_mul (Nat.pow_pos (by omega))]; rw [Nat.pow_succ, Nat.mul_comm] at h; exact h
  have h4 : 1 ≤ n / 256 ^ k := Nat.div_pos h2 (Nat.pow_pos (by omega))
  omega
theorem byteL_at (n : Nat) : ∀ (k j : Nat), j < k → (byteL n k).getD j 0 = ((n / 256 ^ (k - 1 - j) % 256 : Nat) : Int)
  | 0, j, h => by omega
  | k + 1, 0, _ => by simp [byteL]
  | k + 1, j + 1, h => by
    rw [byteL, List.getD_cons_succ, byteL_at n k j (by omega), show k + 1 - 1 - (j + 1) = k - 1 - j by omega]
set_option maxRecDepth 8000 in
theorem or8 (a c : Nat) (ha : a * 256 < 18446744073709551616) (hc : c < 256) : ibit .or .u64 ((a * 256 : Nat) : Int) (c : Int) = ((a * 256 + c : Nat) : Int) := by
  have h3 : a * 256 + c < 18446744073709551616 := by omega
  have e : ibit .or .u64 ((a * 256 : Nat) : Int) (c : Int) = IntKind.u64.wrap ((BitVec.ofInt 64 ((a * 256 : Nat) : Int) ||| BitVec.ofInt 64 ((c : Nat) : Int)).toNat : Int) := rfl
  have h2 : a * 256 ||| c = a * 256 + c := by
    have := Nat.two_pow_add_eq_or_of_lt (i := 8) (b := c) (by omega) a
    rw [Nat.mul_comm a 256]; exact this.symm
  rw [e, ofInt_nat, ofInt_nat, BitVec.toNat_or, BitVec.toNat_ofNat, BitVec.toNat_ofNat, Nat.mod_eq_of_lt ha, Nat.mod_eq_of_lt (show c < 2 ^ 64 by omega), h2]
  exact wrap_u64_nat h3
structure GG where
  j : Nat
set_option maxRecDepth 8000 in
set_option maxHeartbeats 2000000 in
theorem getR (b : Nat) (hd sg sgn : Int) (n k : Nat) (rest : List Int) (hk : k = (lenN n + 7) / 8) (hn : n < 18446744073709551616) (hr : rest.length ≤ 10000) (h1 : ibit .and .u8 hd sgn = sg) (h2 : ibit .andNot .u8 hd sgn = (k : Int)) :
    ACt Try.prog 61 [pt b 0, iv .u8 sgn] [(b, rd (hd :: byteL n k ++ rest) false)] (fun r F' => r = .tup [iv .u8 sg, nu n] ∧ F' = [(b, rd rest false)]) := by
  refine ACt.intro Try.func61 rfl (by kernel_rfl) (by simp [Try.ntmps61]) (fun cx => ?_)
  simp only [argE, Try.ntmps61, Try.results61]
  have hl : lenN n ≤ 64 := lenN_le.2 hn
  have hk8 : k ≤ 8 := by omega
  have hlt : n < 256 ^ k := size_le.1 (Nat.le_of_eq hk.symm)
  have hlb := byteL_len n k
  obtain ⟨Z, hZ⟩ : ∃ Z, Z = hd :: byteL n k ++ rest := ⟨_, rfl⟩
  have lZ : Z.length = 1 + k + rest.length := by rw [hZ]; simp [hlb]; omega
  have c1 := takeR b Z 1 (by omega) (by omega)
  rw [show Z.take 1 = [hd] by rw [hZ]; simp] at c1
  obtain ⟨V, hV⟩ : ∃ V, V = byteL n k ++ rest := ⟨_, rfl⟩
  rw [show Z.drop 1 = V by rw [hZ, hV]; simp] at c1
  have lV : V.length = k + rest.length := by rw [hV]; simp [hlb]
  have c2 := takeR b V k (by omega) (by omega)
  rw [show V.take k = byteL n k by rw [hV]; exact List.take_left' hlb, show V.drop k = rest by rw [hV]; exact List.drop_left' hlb] at c2
  have c3 : ACt Try.prog 67 [pt b 0, iv .u64 1] [(b, rd Z false)] (fun r F' => r = .tup [.slz .u8 [hd], bv true] ∧ F' = [(b, rd V false)]) := c1
  have d1 : decide ((k : Int) > 8) = false := by simp; omega
  have w1 : IntKind.u64.wrap (k : Int) = (k : Int) := wrap_u64_nat (by omega)
  obtain ⟨L, hL⟩ : ∃ L, L = byteL n k := ⟨_, rfl⟩
  rw [← hL] at c2 hlb
  rw [← hZ]
  have cc : (decide ((k : Int) > 0) && (L.getD 0 0 == 0)) = false := by
    by_cases h0 : k = 0
    · rw [h0]; rfl
    · have e : L.getD 0 0 = ((n / 256 ^ (k - 1 - 0) % 256 : Nat) : Int) := by rw [hL]; exact byteL_at n k 0 (by omega)
      have hge : 256 ^ (k - 1) ≤ n := by
        apply Classical.byContradiction; intro hc
        have := size_le.2 (show n < 256 ^ (k - 1) by omega)
        omega
      have hne := byteL_hd (k := k - 1) (by rw [show k - 1 + 1 = k by omega]; exact hlt) hge
      rw [Nat.sub_zero] at e
      have hx : L.getD 0 0 ≠ 0 := by rw [e]; exact fun hz => hne (by exact_mod_cast hz)
      rw [beq_eq_false_iff_ne.2 hx, Bool.and_false]
  have hz0 : n / 256 ^ k = 0 := Nat.div_eq_of_lt hlt
  by_cases h0 : k = 0
  · have d2 : decide ((k : Int) > 0) = false := by simp; omega
    first | (have FRx := FR; clear FRx) | have FR := fr0
    have FA := Sm.mk (And.intro TFWiR (And.intro h1 (And.intro h2 (And.intro d1 (And.intro d2 w1)))))
    repeat' first | (apply Sm.mk; refine YsWiR0 ?_) | refine WP.seq fun K hK => ?_ | (apply Ob.mk; exact Yo) | refine And.intro (Ob.out ?_) ?_ | ((fail_if_success (show WP _ _ _ (.region 14 _ _) _ _)); refine Y1WiR ?_) | (refine CallV.upd (by simp only [hget, ↓reduceIte, FR, h1, h2, d1, d2, w1, List.getD_cons_zero]; first | done | rfl) (c3) (Sm.out ?_)) | (refine CallV.upd (by simp only [hget, ↓reduceIte, FR, h1, h2, d1, d2, w1, List.getD_cons_zero]; first | done | rfl) (c2) (Sm.out ?_)) | refine YzWiR ?_ | (refine WP.cond rfl (fun hc => ?_) (fun hc => ?_) <;> (try simp only [ZC, reduceCtorEq, ZD] at hc) <;> (try exact absurd hc (by decide)) <;> (try (exfalso; omega))) | refine Rt.mk (And.intro (fun hg => Sm.out ?_) fun hg => Sm.out ?_) | (refine Nu.mk ?_; first | (fail_if_success have := nb1); intro nb1 | (fail_if_success have := nb2); intro nb2 | (fail_if_success have := nb3); intro nb3 | intro nbz) | (refine Fr.mk ?_; intro hfr; replace FR := And.intro hfr FR; clear hfr; refine Sm.out ?_) | refine Two.mk ?_ ?_ | (apply Yxc; exact Yx) | refine Cs.mk fun hcs => Sm.out ?_ | go_step | omega | (simp only [maxLen_eq]; omega) | exact trivial | refine Or.inr (Rt.mk (And.intro (fun hg => Sm.out ?_) fun hg => Sm.out ?_))
    first | (have FRx := FR; clear FRx) | have FR := fr0
    have FA := Sm.mk (And.intro TFWiR hlb)
    repeat' first | (apply Sm.mk; refine Ysn ?_) | refine WP.seq fun K hK => ?_ | (apply Ob.mk; exact Yo) | refine And.intro (Ob.out ?_) ?_ | refine Y1WiR ?_ | refine YzWiR ?_ | (refine WP.cond rfl (fun hc => ?_) (fun hc => ?_) <;> (try simp only [ZC, reduceCtorEq, ZD] at hc) <;> (try exact absurd hc (by decide)) <;> (try (exfalso; omega))) | refine Rt.mk (And.intro (fun hg => Sm.out ?_) fun hg => Sm.out ?_) | (refine Nu.mk ?_; first | (fail_if_success have := nb1); intro nb1 | (fail_if_success have := nb2); intro nb2 | (fail_if_success have := nb3); intro nb3 | intro nbz) | (refine Fr.mk ?_; intro hfr; replace FR := And.intro hfr FR; clear hfr; refine Sm.out ?_) | refine Two.mk ?_ ?_ | (apply Yxc; exact Yx) | refine Cs.mk fun hcs => Sm.out ?_ | go_step | omega | (simp only [maxLen_eq]; omega) | exact trivial | refine Or.inr (Rt.mk (And.intro (fun hg => Sm.out ?_) fun hg => Sm.out ?_))
    refine WP.loop (Γ := GG) (fun g => ⟨[(58, iv .i64 g.j), (57, iv .i64 k), (56, .slz .u8 L), (11, nu (n / 256 ^ (k - g.j))), (8, iv .u8 sg)], [(b, rd rest false)]⟩) (fun g => g.j ≤ k) (fun g => k - g.j) ⟨0⟩ (by simp) (Sub.pick (by simp [pickB, hget, hdel, FR, hlb, hz0]) (by simp [look, hlb, hz0])) ?_
    intro ⟨j⟩ hj
    simp only at hj ⊢
    by_cases hjk : j < k
    · have k1 : decide ((j : Int) < k) = true := by simp; omega
      have g1 : IntKind.i64.wrap ((j : Int) + 1) = ((j + 1 : Nat) : Int) := by rw [wrap_i64 (by omega) (by omega)]; omega
      have e3 : L.getD j 0 = ((n / 256 ^ (k - 1 - j) % 256 : Nat) : Int) := by rw [hL]; exact byteL_at n k j hjk
      obtain ⟨A, hA⟩ : ∃ A, A = n / 256 ^ (k - j) := ⟨_, rfl⟩
      obtain ⟨C, hC⟩ : ∃ C, C = n / 256 ^ (k - 1 - j) := ⟨_, rfl⟩
      have hAC : A = C / 256 := by rw [hA, hC, show k - j = (k - 1 - j) + 1 by omega, Nat.pow_succ, Nat.div_div_eq_div_mul]
      have hCn : C ≤ n := by rw [hC]; exact Nat.div_le_self _ _
      have hC2 : n / 256 ^ (k - (j + 1)) = C := by rw [hC, show k - (j + 1) = k - 1 - j by omega]
      rw [← hC] at e3
      rw [← hA]
      have e4 : IntKind.u64.wrap ((A : Int) * 256) = ((A * 256 : Nat) : Int) := by rw [show (A : Int) * 256 = ((A * 256 : Nat) : Int) by simp, wrap_u64_nat (by omega)]
      have e5 : IntKind.u64.wrap ((C % 256 : Nat) : Int) = ((C % 256 : Nat) : Int) := wrap_u64_nat (by omega)
      have e6 := or8 A (C % 256) (by omega) (by omega)
      have e7 : A * 256 + C % 256 = C := by omega
      rw [e7] at e6
      have q : j < L.length := by omega
      first | (have FRx := FR; clear FRx) | have FR := fr0
      have FA := Sm.mk (And.intro TFWiR (And.intro k1 (And.intro g1 (And.intro e3 (And.intro e4 (And.intro e5 (And.intro e6 (And.intro q hlb))))))))
      repeat' first | (apply Sm.mk; refine Ysn ?_) | refine WP.seq fun K hK => ?_ | (apply Ob.mk; exact Yo) | refine And.intro (Ob.out ?_) ?_ | refine Y1WiR ?_ | refine YzWiR ?_ | (refine WP.cond rfl (fun hc => ?_) (fun hc => ?_) <;> (try simp only [ZC, reduceCtorEq, ZD] at hc) <;> (try exact absurd hc (by decide)) <;> (try (exfalso; omega))) | refine Rt.mk (And.intro (fun hg => Sm.out ?_) fun hg => Sm.out ?_) | (refine Nu.mk ?_; first | (fail_if_success have := nb1); intro nb1 | (fail_if_success have := nb2); intro nb2 | (fail_if_success have := nb3); intro nb3 | intro nbz) | (refine Fr.mk ?_; intro hfr; replace FR := And.intro hfr FR; clear hfr; refine Sm.out ?_) | refine Two.mk ?_ ?_ | (apply Yxc; exact Yx) | refine Cs.mk fun hcs => Sm.out ?_ | go_step | omega | (simp only [maxLen_eq]; omega) | exact trivial | refine Or.inr (Rt.mk (And.intro (fun hg => Sm.out ?_) fun hg => Sm.out ?_))
      all_goals exact ⟨⟨j + 1⟩, by simp only; omega, by simp only; omega, (Sub.pick (by simp [pickB, hget, hdel, FR, hC2]) (by simp [look, hC2]))⟩
    · have k1 : decide ((j : Int) < k) = false := by simp; omega
      obtain rfl : j = k := by omega
      have e8 : n / 256 ^ (j - j) = n := by simp
      first | (have FRx := FR; clear FRx) | have FR := fr0
      have FA := Sm.mk (And.intro TFWiR (And.intro k1 e8))
      repeat' first | (apply Sm.mk; refine Ysn ?_) | refine WP.seq fun K hK => ?_ | (apply Ob.mk; exact Yo) | refine And.intro (Ob.out ?_) ?_ | refine Y1WiR ?_ | refine YzWiR ?_ | (refine WP.cond rfl (fun hc => ?_) (fun hc => ?_) <;> (try simp only [ZC, reduceCtorEq, ZD] at hc) <;> (try exact absurd hc (by decide)) <;> (try (exfalso; omega))) | refine Rt.mk (And.intro (fun hg => Sm.out ?_) fun hg => Sm.out ?_) | (refine Nu.mk ?_; first | (fail_if_success have := nb1); intro nb1 | (fail_if_success have := nb2); intro nb2 | (fail_if_success have := nb3); intro nb3 | intro nbz) | (refine Fr.mk ?_; intro hfr; replace FR := And.intro hfr FR; clear hfr; refine Sm.out ?_) | refine Two.mk ?_ ?_ | (apply Yxc; exact Yx) | refine Cs.mk fun hcs => Sm.out ?_ | go_step | omega | (simp only [maxLen_eq]; omega) | exact trivial | refine Or.inr (Rt.mk (And.intro (fun hg => Sm.out ?_) fun hg => Sm.out ?_))
      (refine OutQ.upd (by simp only [resv, ZK, look, loadv, loadn, loadnm, load1, load1m, hget, ↓reduceIte, Nat.reduceEqDiff, Nat.reduceAdd, Nat.reduceMul, Nat.reduceLeDiff, Nat.reduceLT, reduceCtorEq, TFWiR, FR, e8]) (by simp only [resv, resA, ZK, look, loadv, loadn, loadnm, load1, load1m, hget, ↓reduceIte, Nat.reduceEqDiff, Nat.reduceAdd, Nat.reduceMul, Nat.reduceLeDiff, Nat.reduceLT, reduceCtorEq, TFWiR, FR, e8]; first | done | rfl) (by simp only [hget, ↓reduceIte, if_true, if_false, FR, e8]; first | done | rfl) ?_ <;> first | exact rfl | (simp only [ZK, look, loadv, loadn, loadnm, load1, load1m, hget, ↓reduceIte, Nat.reduceEqDiff, Nat.reduceAdd, Nat.reduceMul, Nat.reduceLeDiff, Nat.reduceLT, reduceCtorEq, TFWiR, FR, e8]; done) | skip)
  · have d2 : decide ((k : Int) > 0) = true := by simp; omega
    rw [d2, Bool.true_and] at cc
    have hL0 : 0 < L.length := by omega
    first | (have FRx := FR; clear FRx) | have FR := fr0
    have FA := Sm.mk (And.intro TFWiR (And.intro h1 (And.intro h2 (And.intro d1 (And.intro d2 (And.intro w1 (And.intro cc hL0)))))))
    repeat' first | (apply Sm.mk; refine YsWiR0 ?_) | refine WP.seq fun K hK => ?_ | (apply Ob.mk; exact Yo) | refine And.intro (Ob.out ?_) ?_ | ((fail_if_success (show WP _ _ _ (.region 14 _ _) _ _)); refine Y1WiR ?_) | (refine CallV.upd (by simp only [hget, ↓reduceIte, FR, h1, h2, d1, d2, w1, cc, hL0, List.getD_cons_zero]; first | done | rfl) (c3) (Sm.out ?_)) | (refine CallV.upd (by simp only [hget, ↓reduceIte, FR, h1, h2, d1, d2, w1, cc, hL0, List.getD_cons_zero]; first | done | rfl) (c2) (Sm.out ?_)) | refine YzWiR ?_ | (refine WP.cond rfl (fun hc => ?_) (fun hc => ?_) <;> (try simp only [ZC, reduceCtorEq, ZD] at hc) <;> (try exact absurd hc (by decide)) <;> (try (exfalso; omega))) | refine Rt.mk (And.intro (fun hg => Sm.out ?_) fun hg => Sm.out ?_) | (refine Nu.mk ?_; first | (fail_if_success have := nb1); intro nb1 | (fail_if_success have := nb2); intro nb2 | (fail_if_success have := nb3); intro nb3 | intro nbz) | (refine Fr.mk ?_; intro hfr; replace FR := And.intro hfr FR; clear hfr; refine Sm.out ?_) | refine Two.mk ?_ ?_ | (apply Yxc; exact Yx) | refine Cs.mk fun hcs => Sm.out ?_ | go_step | omega | (simp only [maxLen_eq]; omega) | exact trivial | refine Or.inr (Rt.mk (And.intro (fun hg => Sm.out ?_) fun hg => Sm.out ?_))
    first | (have FRx := FR; clear FRx) | have FR := fr0
    have FA := Sm.mk (And.intro TFWiR hlb)
    repeat' first | (apply Sm.mk; refine Ysn ?_) | refine WP.seq fun K hK => ?_ | (apply Ob.mk; exact Yo) | refine And.intro (Ob.out ?_) ?_ | refine Y1WiR ?_ | refine YzWiR ?_ | (refine WP.cond rfl (fun hc => ?_) (fun hc => ?_) <;> (try simp only [ZC, reduceCtorEq, ZD] at hc) <;> (try exact absurd hc (by decide)) <;> (try (exfalso; omega))) | refine Rt.mk (And.intro (fun hg => Sm.out ?_) fun hg => Sm.out ?_) | (refine Nu.mk ?_; first | (fail_if_success have := nb1); intro nb1 | (fail_if_success have := nb2); intro nb2 | (fail_if_success have := nb3); intro nb3 | intro nbz) | (refine Fr.mk ?_; intro hfr; replace FR := And.intro hfr FR; clear hfr; refine Sm.out ?_) | refine Two.mk ?_ ?_ | (apply Yxc; exact Yx) | refine Cs.mk fun hcs => Sm.out ?_ | go_step | omega | (simp only [maxLen_eq]; omega) | exact trivial | refine Or.inr (Rt.mk (And.intro (fun hg => Sm.out ?_) fun hg => Sm.out ?_))
    refine WP.loop (Γ := GG) (fun g => ⟨[(58, iv .i64 g.j), (57, iv .i64 k), (56, .slz .u8 L), (11, nu (n / 256 ^ (k - g.j))), (8, iv .u8 sg)], [(b, rd rest false)]⟩) (fun g => g.j ≤ k) (fun g => k - g.j) ⟨0⟩ (by simp) (Sub.pick (by simp [pickB, hget, hdel, FR, hlb, hz0]) (by simp [look, hlb, hz0])) ?_
    intro ⟨j⟩ hj
    simp only at hj ⊢
    by_cases hjk : j < k
    · have k1 : decide ((j : Int) < k) = true := by simp; omega
      have g1 : IntKind.i64.wrap ((j : Int) + 1) = ((j + 1 : Nat) : Int) := by rw [wrap_i64 (by omega) (by omega)]; omega
      have e3 : L.getD j 0 = ((n / 256 ^ (k - 1 - j) % 256 : Nat) : Int) := by rw [hL]; exact byteL_at n k j hjk
      obtain ⟨A, hA⟩ : ∃ A, A = n / 256 ^ (k - j) := ⟨_, rfl⟩
      obtain ⟨C, hC⟩ : ∃ C, C = n / 256 ^ (k - 1 - j) := ⟨_, rfl⟩
      have hAC : A = C / 256 := by rw [hA, hC, show k - j = (k - 1 - j) + 1 by omega, Nat.pow_succ, Nat.div_div_eq_div_mul]
      have hCn : C ≤ n := by rw [hC]; exact Nat.div_le_self _ _
      have hC2 : n / 256 ^ (k - (j + 1)) = C := by rw [hC, show k - (j + 1) = k - 1 - j by omega]
      rw [← hC] at e3
      rw [← hA]
      have e4 : IntKind.u64.wrap ((A : Int) * 256) = ((A * 256 : Nat) : Int) := by rw [show (A : Int) * 256 = ((A * 256 : Nat) : Int) by simp, wrap_u64_nat (by omega)]
      have e5 : IntKind.u64.wrap ((C % 256 : Nat) : Int) = ((C % 256 : Nat) : Int) := wrap_u64_nat (by omega)
      have e6 := or8 A (C % 256) (by omega) (by omega)
      have e7 : A * 256 + C % 256 = C := by omega
      rw [e7] at e6
      have q : j < L.length := by omega
      first | (have FRx := FR; clear FRx) | have FR := fr0
      have FA := Sm.mk (And.intro TFWiR (And.intro k1 (And.intro g1 (And.intro e3 (And.intro e4 (And.intro e5 (And.intro e6 (And.intro q hlb))))))))
      repeat' first | (apply Sm.mk; refine Ysn ?_) | refine WP.seq fun K hK => ?_ | (apply Ob.mk; exact Yo) | refine And.intro (Ob.out ?_) ?_ | refine Y1WiR ?_ | refine YzWiR ?_ | (refine WP.cond rfl (fun hc => ?_) (fun hc => ?_) <;> (try simp only [ZC, reduceCtorEq, ZD] at hc) <;> (try exact absurd hc (by decide)) <;> (try (exfalso; omega))) | refine Rt.mk (And.intro (fun hg => Sm.out ?_) fun hg => Sm.out ?_) | (refine Nu.mk ?_; first | (fail_if_success have := nb1); intro nb1 | (fail_if_success have := nb2); intro nb2 | (fail_if_success have := nb3); intro nb3 | intro nbz) | (refine Fr.mk ?_; intro hfr; replace FR := And.intro hfr FR; clear hfr; refine Sm.out ?_) | refine Two.mk ?_ ?_ | (apply Yxc; exact Yx) | refine Cs.mk fun hcs => Sm.out ?_ | go_step | omega | (simp only [maxLen_eq]; omega) | exact trivial | refine Or.inr (Rt.mk (And.intro (fun hg => Sm.out ?_) fun hg => Sm.out ?_))
      all_goals exact ⟨⟨j + 1⟩, by simp only; omega, by simp only; omega, (Sub.pick (by simp [pickB, hget, hdel, FR, hC2]) (by simp [look, hC2]))⟩
    · have k1 : decide ((j : Int) < k) = false := by simp; omega
      obtain rfl : j = k := by omega
      have e8 : n / 256 ^ (j - j) = n := by simp
      first | (have FRx := FR; clear FRx) | have FR := fr0
      have FA := Sm.mk (And.intro TFWiR (And.intro k1 e8))
      repeat' first | (apply Sm.mk; refine Ysn ?_) | refine WP.seq fun K hK => ?_ | (apply Ob.mk; exact Yo) | refine And.intro (Ob.out ?_) ?_ | refine Y1WiR ?_ | refine YzWiR ?_ | (refine WP.cond rfl (fun hc => ?_) (fun hc => ?_) <;> (try simp only [ZC, reduceCtorEq, ZD] at hc) <;> (try exact absurd hc (by decide)) <;> (try (exfalso; omega))) | refine Rt.mk (And.intro (fun hg => Sm.out ?_) fun hg => Sm.out ?_) | (refine Nu.mk ?_; first | (fail_if_success have := nb1); intro nb1 | (fail_if_success have := nb2); intro nb2 | (fail_if_success have := nb3); intro nb3 | intro nbz) | (refine Fr.mk ?_; intro hfr; replace FR := And.intro hfr FR; clear hfr; refine Sm.out ?_) | refine Two.mk ?_ ?_ | (apply Yxc; exact Yx) | refine Cs.mk fun hcs => Sm.out ?_ | go_step | omega | (simp only [maxLen_eq]; omega) | exact trivial | refine Or.inr (Rt.mk (And.intro (fun hg => Sm.out ?_) fun hg => Sm.out ?_))
      (refine OutQ.upd (by simp only [resv, ZK, look, loadv, loadn, loadnm, load1, load1m, hget, ↓reduceIte, Nat.reduceEqDiff, Nat.reduceAdd, Nat.reduceMul, Nat.reduceLeDiff, Nat.reduceLT, reduceCtorEq, TFWiR, FR, e8]) (by simp only [resv, resA, ZK, look, loadv, loadn, loadnm, load1, load1m, hget, ↓reduceIte, Nat.reduceEqDiff, Nat.reduceAdd, Nat.reduceMul, Nat.reduceLeDiff, Nat.reduceLT, reduceCtorEq, TFWiR, FR, e8]; first | done | rfl) (by simp only [hget, ↓reduceIte, if_true, if_false, FR, e8]; first | done | rfl) ?_ <;> first | exact rfl | (simp only [ZK, look, loadv, loadn, loadnm, load1, load1m, hget, ↓reduceIte, Nat.reduceEqDiff, Nat.reduceAdd, Nat.reduceMul, Nat.reduceLeDiff, Nat.reduceLT, reduceCtorEq, TFWiR, FR, e8]; done) | skip)
theorem and16 : ∀ k : Nat, k < 9 → ibit .and .u8 (16 + (k : Int)) 16 = 16 ∧ ibit .andNot .u8 (16 + (k : Int)) 16 = (k : Int) ∧ ibit .and .u8 (k : Int) 16 = 0 ∧ ibit .andNot .u8 (k : Int) 16 = (k : Int) ∧ ibit .and .u8 (k : Int) 0 = 0 ∧ ibit .andNot .u8 (k : Int) 0 = (k : Int) := by decide +kernel
theorem putL0 (n : Nat) (hn : n < 18446744073709551616) : ∃ k, k = (lenN n + 7) / 8 ∧ k < 9 ∧ putL 0 n = (k : Int) :: byteL n k ∧ putL 16 n = (16 + (k : Int)) :: byteL n k := by
  have hl : lenN n ≤ 64 := lenN_le.2 hn
  refine ⟨_, rfl, by omega, ?_, ?_⟩
  · unfold putL; rw [or0 _ (by omega)]
  · unfold putL; rw [or16 _ (by omega)]
end Go.Proofs.Yteoajodoejoccaa.Wi
