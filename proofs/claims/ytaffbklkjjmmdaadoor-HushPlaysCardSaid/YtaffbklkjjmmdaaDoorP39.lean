/-
  The walks and the laws that the statement leans on, part 39.
-/
import Derived.Test.YtaffbklkjjmmdaaDoorP9
import Derived.Test.YtaffbklkjjmmdaaDoorP37
import Derived.Test.YtaffbklkjjmmdaaDoorP38
namespace Go.Proofs.YtaffbklkjjmmdaaDoor
open Go
set_option linter.unusedVariables false
set_option linter.unusedSimpArgs false
set_option linter.defProp false
def TFHuQ :=
  And.intro (And.intro (And.intro (And.intro (And.intro tyc0 (And.intro tyc2 zmb2)) (And.intro (And.intro tyc3 zmb3) (And.intro tyc4 zmb4))) (And.intro (And.intro (And.intro tyc9 zmb9) (And.intro tyc22 elt22)) (And.intro (And.intro mkz22 mkc22) (And.intro apT22 elk22)))) (And.intro (And.intro (And.intro zmb22 (And.intro tyc32 foff32_0)) (And.intro (And.intro fpart32_0 foff32_1) (And.intro fpart32_1 foff32_2))) (And.intro (And.intro (And.intro fpart32_2 foff32_3) (And.intro fpart32_3 foff32_4)) (And.intro (And.intro fpart32_4 fe32) (And.intro zmb32 bldT32))))) (And.intro (And.intro (And.intro (And.intro tyc37 (And.intro elt37 mkz37)) (And.intro (And.intro mkc37 apT37) (And.intro elk37 zmb37))) (And.intro (And.intro (And.intro tyc39 foff39_0) (And.intro fpart39_0 foff39_1)) (And.intro (And.intro fpart39_1 foff39_2) (And.intro fpart39_2 zmb39)))) (And.intro (And.intro (And.intro bldT39 (And.intro tyc40 zmb40)) (And.intro (And.intro tyc41 Tryd.underlying0) (And.intro Tryd.underlying2 Tryd.underlying3))) (And.intro (And.intro (And.intro Tryd.underlying4 Tryd.underlying9) (And.intro Tryd.underlying22 Tryd.underlying32)) (And.intro (And.intro Tryd.underlying37 Tryd.underlying39) (And.intro Tryd.underlying40 Tryd.underlying41)))))
theorem Y1HuQ {G R : Prop} (r : R) (h : R → G := by intro r; first | (apply WP.region; exact rvc_sound _ _ (Sm.out r)) | exact WP.drawK rfl mixed (by decide +kernel) (Sm.out r) | (apply WP.block; exact r) | (apply WP.skip; exact Yq r) | (apply WP.exit; exact Yq r) | (apply WP.ret; exact Sm.out r) | exact WP.cond rfl (fun _ => r) (fun hg => absurd hg (by decide)) | exact WP.cond rfl (fun hg => absurd hg (by decide)) (fun _ => r) | exact Rt.mk (And.intro (fun _ => Sm.out r) fun hg => absurd hg (by decide)) | exact Rt.mk (And.intro (fun hg => absurd hg (by decide)) fun _ => Sm.out r)) : G := h r
theorem YzHuQ {G R : Prop} (r : R) (h : R → G := by intro r; first | (apply ExG.no; exact Sm.out r) | (apply Or.inl; apply ExG.no; exact Sm.out r) | exact Or.inl (And.intro (fun hg => absurd hg (by decide)) (ExG.no (Sm.out r)))) : G := h r
theorem YsHuQ0 {P Q : Prop} (q : Q) (h : P = Q := by (try (conv => lhs; simp -dsimp only [ZK, rvc, capA, appA, litL, mkfv, drawF, headN, pureH, stp, dvc, calleeOf, gcall, pev, eff, newB, okd, og, ogs, ogo, ogp, slv, bltv, opd, litv, strip, one, both, putE, St.put, look, gdOf, gdv, picka, pickv, pickw, binv, bini, bins, binb, binp, binq, isSlT, bina, shp, eqCells, unv, convv, nilv, faddv, addp, idxav, idxp, load1, load1m, loadn, loadnm, loadv, hget, hset, hrep, hdel, slicev, slice3v, bnd, shift1, lenv, capv, IntKind.bits, extractv, fieldv, indexv, min2v, max2v, mkiv, tasv, tasz, cellsA, fillA, buildv, stC, oneC, rowMB, intsA, plN, appE, appZ, appC, appS, srcB, appNZ, appNC, VwL, srcC, srcZ, srcM, isBoolT, isPtrT, isSliceT, uOk, Value.oneCell', Nat.reducePow, Int.reducePow, Nat.reduceAdd, Nat.reduceMul, Nat.reduceSub, Nat.reduceLT, Nat.reduceLeDiff, Nat.reduceEqDiff, Nat.reduceBEq, Nat.reduceDiv, Nat.reduceMod, ↓reduceIte, reduceCtorEq, Int.reduceToNat, Int.reduceLT, Int.reduceLE, TFHuQ, SeqQ, BlkQ, LoopQ, BodyQ, hin, FA.out, FR.out])) <;> exact rfl) : P := h.mpr q
theorem YsHuQ1 {P Q : Prop} (q : Q) (h : P = Q := by (try (conv => lhs; simp -dsimp only [ZK, rvc, capA, appA, litL, mkfv, drawF, headN, pureH, stp, dvc, calleeOf, gcall, pev, eff, newB, okd, og, ogs, ogo, ogp, slv, bltv, opd, litv, strip, one, both, putE, St.put, look, gdOf, gdv, picka, pickv, pickw, binv, bini, bins, binb, binp, binq, isSlT, bina, shp, eqCells, unv, convv, nilv, faddv, addp, idxav, idxp, load1, load1m, loadn, loadnm, loadv, hget, hset, hrep, hdel, slicev, slice3v, bnd, shift1, lenv, capv, IntKind.bits, extractv, fieldv, indexv, min2v, max2v, mkiv, tasv, tasz, cellsA, fillA, buildv, stC, oneC, rowMB, intsA, plN, appE, appZ, appC, appS, srcB, appNZ, appNC, VwL, srcC, srcZ, srcM, isBoolT, isPtrT, isSliceT, uOk, Value.oneCell', Nat.reducePow, Int.reducePow, Nat.reduceAdd, Nat.reduceMul, Nat.reduceSub, Nat.reduceLT, Nat.reduceLeDiff, Nat.reduceEqDiff, Nat.reduceBEq, Nat.reduceDiv, Nat.reduceMod, ↓reduceIte, reduceCtorEq, Int.reduceToNat, Int.reduceLT, Int.reduceLE, TFHuQ, SeqQ, BlkQ, LoopQ, BodyQ, hin, Nat.zero_add, List.nil_append, FA.out, FR.out])) <;> exact rfl) : P := h.mpr q
structure Ac where
  kd : Int
  s : Sl
  now : Int
abbrev av7 (a : Ac) (r : List AV) : List AV := iv .i64 a.kd :: .lit (.string a.s.nm) :: .lit (.string a.s.gl) :: iv .i64 a.s.w :: iv .i64 a.s.f :: iv .i64 a.s.t :: iv .i64 a.now :: r
def acs : List Ac → List AV
  | [] => []
  | a :: l => iv .i64 a.kd :: .lit (.string a.s.nm) :: .lit (.string a.s.gl) :: iv .i64 a.s.w :: iv .i64 a.s.f :: iv .i64 a.s.t :: iv .i64 a.now :: acs l
theorem acs_len : ∀ l, (acs l).length = l.length * 7
  | [] => rfl
  | k :: r => by simp only [acs, List.length_cons, acs_len r]; omega
theorem acs_drop : ∀ (l : List Ac) (i : Nat) (h : i < l.length), (acs l).drop (i * 7) = av7 l[i] (acs (l.drop (i + 1)))
  | k :: r, 0, _ => rfl
  | k :: r, i + 1, h => by
    have := acs_drop r i (by simpa using h)
    rw [show (i + 1) * 7 = i * 7 + 7 by omega]
    simpa [acs] using this
theorem addL_len {l : List Sl} {s : Sl} {now : Int} (h : l.length ≤ 12) : (addL l s now).length ≤ 12 := by
  unfold addL
  split
  · rename_i h0
    unfold addC at h0
    by_cases h1 : 12 ≤ l.length
    · rw [if_pos h1] at h0
      repeat' split at h0
      all_goals omega
    · rw [List.length_append, List.length_singleton]; omega
  · simp
theorem drpL_len {l : List Sl} {nm : ByteArray} (h : l.length ≤ 12) : (drpL l nm).length ≤ 12 := by
  unfold drpL
  split
  · simp
  · exact Nat.le_trans (List.length_eraseIdx_le ..) h
theorem swpL_len {l : List Sl} {now : Int} (h : l.length ≤ 12) : (swpL l now).length ≤ 12 := Nat.le_trans (List.length_filter_le ..) h
theorem same_own (l : List Sl) (n x c s : Nat) (hn : l.length = n) (hl : n ≤ 100000) (h2 : n ≤ c) (h3 : c ≤ 9223372036854775807) : ACt Tryd.prog 23 [.sl n (scs l), ms x 0 n c] [(x, .cells (scs l) s 32)] (fun r F' => r = bv true ∧ F' = [(x, .cells (scs l) s 32)]) := by
  have h := same_ct l l n n hn hn hl
  rw [sameX_t rfl] at h
  exact h.view rfl ⟨.same _, vw_row rfl h2 h3, trivial⟩
structure PlG where
  i : Nat
  l : List Sl
set_option maxRecDepth 20000 in
set_option maxHeartbeats 8000000 in
theorem plays_ct (L : List Ac) (n : Nat) (hn : L.length = n) (n0 n1 : Nat) : ACt Tryd.prog 4 [.sl n (acs L)] [(0, .ro .u8 fsZ 256 n0), (1, .ro .u8 acZ 32 n1)] (fun r F' => r = bv true ∧ F' = [(0, .ro .u8 fsZ 256 n0), (1, .ro .u8 acZ 32 n1)]) := by
  have cA := awake_ct n0 n1
  have cAd := fun (l : List Sl) (s : Sl) (now : Int) (m : Nat) (hm : l.length = m) (hl : m ≤ 100000) (hz : Sz s) => add_ct l s now m hm hl hz n0 n1
  obtain ⟨FZ, hFZ⟩ : ∃ FZ, FZ = fsZ := ⟨_, rfl⟩
  obtain ⟨AZ, hAZ⟩ : ∃ AZ, AZ = acZ := ⟨_, rfl⟩
  rw [← hFZ, ← hAZ] at cA ⊢
  simp only [← hFZ, ← hAZ] at cAd
  clear hFZ hAZ
  have hCl := acs_len L
  have hdr := acs_drop L
  rw [hn] at hCl
  obtain ⟨A, hA⟩ : ∃ A, A = acs L := ⟨_, rfl⟩
  rw [← hA] at hCl hdr ⊢
  clear hA
  by_cases h60 : 60 < n
  · have k0 : decide ((n : Int) > 60) = true := decide_eq_true (by omega)
    refine ACt.intro Tryd.func4 rfl (by kernel_rfl) (by simp [Tryd.ntmps4]) (fun cx => ?_)
    simp only [argE, Tryd.ntmps4, Tryd.results4]
    first | (have FRx := FR; clear FRx) | have FR := fr0S
    have FA := Sm.mk (And.intro TFHuQ k0)
    repeat' first | (apply Sm.mk; refine Ys ?_) | refine WP.seq fun K hK => ?_ | (apply Ob.mk; exact Yo) | refine And.intro (Ob.out ?_) ?_ | refine Y1HuQ ?_ | refine Yl2 (c := cA) (r := ?_) | refine YzHuQ ?_ | (refine WP.cond rfl (fun hc => ?_) (fun hc => ?_) <;> (try simp only [ZC, reduceCtorEq, ZD] at hc) <;> (try exact absurd hc (by decide)) <;> (try (exfalso; omega))) | refine Rt.mk (And.intro (fun hg => Sm.out ?_) fun hg => Sm.out ?_) | (refine Nu.mk ?_; first | (fail_if_success have := nb1); intro nb1 | (fail_if_success have := nb2); intro nb2 | (fail_if_success have := nb3); intro nb3 | (fail_if_success have := nb4); intro nb4 | (fail_if_success have := nb5); intro nb5 | (fail_if_success have := nb6); intro nb6 | (fail_if_success have := nb7); intro nb7 | (fail_if_success have := nb8); intro nb8 | (fail_if_success have := nb9); intro nb9 | (fail_if_success have := nb10); intro nb10 | intro nbz) | (apply Yfr; refine Yf FR fun hFRb FR => ?_) | refine Two.mk ?_ ?_ | (apply Yxc; exact Yx) | refine Cs.mk fun hcs => Sm.out ?_ | go_step | omega | (simp only [maxLen_eq]; omega) | exact trivial
    (refine OutQ.drop _ _ (perm2 (by simp only [hget, hdel, ↓reduceIte, if_true, if_false, FR.out]; first | done | rfl) (by simp only [hget, hdel, ↓reduceIte, if_true, if_false, FR.out]; first | done | rfl)) (by simp only [resv, ZK, look, loadv, loadn, loadnm, load1, load1m, hget, ↓reduceIte, Nat.reduceEqDiff, Nat.reduceAdd, Nat.reduceMul, Nat.reduceLeDiff, Nat.reduceLT, reduceCtorEq, TFHuQ, FR.out]) ⟨(by simp only [resv, resA, ZK, look, loadv, loadn, loadnm, load1, load1m, hget, ↓reduceIte, Nat.reduceEqDiff, Nat.reduceAdd, Nat.reduceMul, Nat.reduceLeDiff, Nat.reduceLT, reduceCtorEq, TFHuQ, FR.out]; first | done | rfl), rfl⟩)
  have k0 : decide ((n : Int) > 60) = false := decide_eq_false (by omega)
  refine ACt.intro Tryd.func4 rfl (by kernel_rfl) (by simp [Tryd.ntmps4]) (fun cx => ?_)
  simp only [argE, Tryd.ntmps4, Tryd.results4]
  first | (have FRx := FR; clear FRx) | have FR := fr0S
  have FA := Sm.mk (And.intro TFHuQ k0)
  repeat' first | (apply Sm.mk; refine Ys ?_) | refine WP.seq fun K hK => ?_ | (apply Ob.mk; exact Yo) | refine And.intro (Ob.out ?_) ?_ | ((fail_if_success (show WP _ _ _ (.region 7 _ _) _ _)); refine Y1HuQ ?_) | refine Yl2 (c := cA) (r := ?_) | refine YzHuQ ?_ | (refine WP.cond rfl (fun hc => ?_) (fun hc => ?_) <;> (try simp only [ZC, reduceCtorEq, ZD] at hc) <;> (try exact absurd hc (by decide)) <;> (try (exfalso; omega))) | refine Rt.mk (And.intro (fun hg => Sm.out ?_) fun hg => Sm.out ?_) | (refine Nu.mk ?_; first | (fail_if_success have := nb1); intro nb1 | (fail_if_success have := nb2); intro nb2 | (fail_if_success have := nb3); intro nb3 | (fail_if_success have := nb4); intro nb4 | (fail_if_success have := nb5); intro nb5 | (fail_if_success have := nb6); intro nb6 | (fail_if_success have := nb7); intro nb7 | (fail_if_success have := nb8); intro nb8 | (fail_if_success have := nb9); intro nb9 | (fail_if_success have := nb10); intro nb10 | intro nbz) | (apply Yfr; refine Yf FR fun hFRb FR => ?_) | refine Two.mk ?_ ?_ | (apply Yxc; exact Yx) | refine Cs.mk fun hcs => Sm.out ?_ | go_step | omega | (simp only [maxLen_eq]; omega) | exact trivial
  refine WP.wk (Wk.cons (i := 3) (by simp only [look, ↓reduceIte, Nat.reduceEqDiff]; rfl) (fun w I v h => rep_sl0 (by rw [maxLen_eq]; omega) h)) ?_
  refine WP.wk (Wk.cons (i := 4) (by simp only [look, ↓reduceIte, Nat.reduceEqDiff]; rfl) (fun w I v h => rep_sl0 (by rw [maxLen_eq]; omega) h)) ?_
  have he0 : scs [] = [] := rfl
  refine WP.loop (Γ := PlG) (fun g => ⟨[(5, iv .i64 (g.i : Int)), (0, .sl n A), (3, .sl g.l.length (scs g.l)), (4, .sl g.l.length (scs g.l))], [(0, .ro .u8 FZ 256 n0), (1, .ro .u8 AZ 32 n1)]⟩) (fun g => g.i ≤ n ∧ g.l.length ≤ 12) (fun g => n - g.i) ⟨0, []⟩ ⟨Nat.zero_le _, by simp⟩ (Sub.pick (by simp [pickB, hget, hdel, FR.out, he0, List.length_nil]) (by simp [look, he0, List.length_nil])) ?_
  intro ⟨i, l⟩ ⟨hi, hl⟩
  simp only at hi hl ⊢
  have FR : Sm (¬ ((1 : Nat) = 0)) := Sm.mk Nat.one_ne_zero
  by_cases hin : i < n
  · have ki : decide ((i : Int) < (n : Int)) = true := decide_eq_true (by omega)
    have s1 : IntKind.i64.wrap ((i : Int) + 1) = ((i + 1 : Nat) : Int) := by rw [wrap_i64 (by omega) (by omega)]; omega
    have hd := hdr i (by omega)
    obtain ⟨a, ha⟩ : ∃ x, x = L[i]'(by omega) := ⟨_, rfl⟩
    rw [← ha] at hd
    have q1 : (i + 1) * 7 ≤ A.length := by omega
    clear ha
    have cSo := fun x c s h2 h3 => same_own l l.length x c s rfl (by omega) h2 h3
    have hQl := scs_len l
    have hQo := scs_one l
    obtain ⟨kd, ⟨sn, sg, w, f, t⟩, now⟩ := a
    try simp only at hd
    by_cases hz : (sn.size : Int) > 500 ∨ (sg.size : Int) > 500
    · obtain ⟨x, hx⟩ : ∃ x, decide ((sn.size : Int) > 500) = x := ⟨_, rfl⟩
      obtain ⟨y, hy⟩ : ∃ y, decide ((sg.size : Int) > 500) = y := ⟨_, rfl⟩
      have hxy : (x || y) = true := by
        rw [← hx, ← hy]
        rcases hz with h | h
        · rw [decide_eq_true h]; rfl
        · rw [decide_eq_true h]; simp
      obtain ⟨Q, hQ⟩ : ∃ Q, Q = scs l := ⟨_, rfl⟩
      rw [← hQ]
      obtain ⟨m, hm⟩ : ∃ m, m = l.length := ⟨_, rfl⟩
      rw [← hm]
      first | (have FRx := FR; clear FRx) | have FR := fr0S
      have FA := Sm.mk (And.intro TFHuQ (And.intro ki (And.intro hd (And.intro q1 (And.intro s1 (And.intro hx (And.intro hy hxy)))))))
      repeat' first | (apply Sm.mk; refine YsHuQ0 ?_) | refine WP.seq fun K hK => ?_ | (apply Ob.mk; exact Yo) | refine And.intro (Ob.out ?_) ?_ | refine Y1HuQ ?_ | refine YzHuQ ?_ | (refine WP.cond rfl (fun hc => ?_) (fun hc => ?_) <;> (try simp only [ZC, reduceCtorEq, ZD] at hc) <;> (try exact absurd hc (by decide)) <;> (try (exfalso; omega))) | refine Rt.mk (And.intro (fun hg => Sm.out ?_) fun hg => Sm.out ?_) | (refine Nu.mk ?_; first | (fail_if_success have := nb1); intro nb1 | (fail_if_success have := nb2); intro nb2 | (fail_if_success have := nb3); intro nb3 | (fail_if_success have := nb4); intro nb4 | (fail_if_success have := nb5); intro nb5 | (fail_if_success have := nb6); intro nb6 | (fail_if_success have := nb7); intro nb7 | (fail_if_success have := nb8); intro nb8 | (fail_if_success have := nb9); intro nb9 | (fail_if_success have := nb10); intro nb10 | intro nbz) | (apply Yfr; refine Yf FR fun hFRb FR => ?_) | refine Two.mk ?_ ?_ | (apply Yxc; exact Yx) | refine Cs.mk fun hcs => Sm.out ?_ | go_step | omega | (simp only [maxLen_eq]; omega) | exact trivial
      (refine OutQ.drop _ _ (perm2 (by simp only [hget, hdel, ↓reduceIte, if_true, if_false, FR.out]; first | done | rfl) (by simp only [hget, hdel, ↓reduceIte, if_true, if_false, FR.out]; first | done | rfl)) (by simp only [resv, ZK, look, loadv, loadn, loadnm, load1, load1m, hget, ↓reduceIte, Nat.reduceEqDiff, Nat.reduceAdd, Nat.reduceMul, Nat.reduceLeDiff, Nat.reduceLT, reduceCtorEq, TFHuQ, FR.out]) ⟨(by simp only [resv, resA, ZK, look, loadv, loadn, loadnm, load1, load1m, hget, ↓reduceIte, Nat.reduceEqDiff, Nat.reduceAdd, Nat.reduceMul, Nat.reduceLeDiff, Nat.reduceLT, reduceCtorEq, TFHuQ, FR.out]; first | done | rfl), rfl⟩)
    · have hx : decide ((sn.size : Int) > 500) = false := decide_eq_false (by omega)
      have hy : decide ((sg.size : Int) > 500) = false := decide_eq_false (by omega)
      have hsz : Sz ⟨sn, sg, w, f, t⟩ := ⟨by simp only; omega, by simp only; omega⟩
      by_cases h1 : kd = 1
      · have k1 : (kd == 1) = true := by rw [h1]; rfl
        have c17 := cAd l ⟨sn, sg, w, f, t⟩ now l.length rfl (by omega) hsz
        have c18 := radd_ct l ⟨sn, sg, w, f, t⟩ now l.length rfl (by omega) hsz
        have hlen := addL_len (s := ⟨sn, sg, w, f, t⟩) (now := now) hl
        unfold adR at c17 c18
        obtain ⟨l', hl'⟩ : ∃ x, x = addL l ⟨sn, sg, w, f, t⟩ now := ⟨_, rfl⟩
        rw [← hl'] at c17 c18 hlen
        obtain ⟨c, hc0⟩ : ∃ x, x = addC l ⟨sn, sg, w, f, t⟩ now := ⟨_, rfl⟩
        rw [← hc0] at c17 c18
        have cSm := same_ct l' l' l'.length l'.length rfl rfl (by omega)
        rw [sameX_t rfl] at cSm
        have e1 : (c != c) = false := by simp
        have e2 : (c == c) = true := by simp
        clear hl' hc0 hsz
        have e5 : (scs l).take (l.length * 5) = scs l := List.take_of_length_le (by omega)
        obtain ⟨Q2, hQ2⟩ : ∃ Q, Q = scs l' := ⟨_, rfl⟩
        rw [← hQ2] at c17 c18 cSm
        obtain ⟨m2, hm2⟩ : ∃ m, m = l'.length := ⟨_, rfl⟩
        rw [← hm2] at c17 c18 cSm hlen
        obtain ⟨Q, hQ⟩ : ∃ Q, Q = scs l := ⟨_, rfl⟩
        rw [← hQ] at c17 c18 hQl hQo e5 ⊢
        simp only [← hQ] at cSo
        obtain ⟨m, hm⟩ : ∃ m, m = l.length := ⟨_, rfl⟩
        rw [← hm] at c17 c18 hQl e5 hl ⊢
        simp only [← hm] at cSo
        first | (have FRx := FR; clear FRx) | have FR := fr0S
        have FA := Sm.mk (And.intro TFHuQ (And.intro ki (And.intro hd (And.intro q1 (And.intro s1 (And.intro hx (And.intro hy (And.intro hQl (And.intro hQo (And.intro e5 k1))))))))))
        repeat' first | (apply Sm.mk; refine YsHuQ1 ?_) | refine WP.seq fun K hK => ?_ | (apply Ob.mk; exact Yo) | refine And.intro (Ob.out ?_) ?_ | ((fail_if_success (show WP _ _ _ (.region 24 _ _) _ _)); refine Y1HuQ ?_) | (refine CallV.updM (c17) (perm2 (by simp only [hget, hdel, ↓reduceIte, FR.out, ki, hd, q1, hin, s1, hx, hy, hQl, hQo, e5, k1, Nat.zero_add, List.nil_append]; first | done | rfl) (by simp only [hget, hdel, ↓reduceIte, FR.out, ki, hd, q1, hin, s1, hx, hy, hQl, hQo, e5, k1, Nat.zero_add, List.nil_append]; first | done | rfl)) (Sm.out ?_)) | ((first | refine ExF.up ?_ (c17) (Sm.out ?_) | refine ExG.up ?_ (fun _ => c17) (Sm.out ?_) | refine ExG.upJ ?_ (fun _ => c17) (Sm.out ?_) | refine ExG.upI ?_ (fun _ => c17) (Ob.out ?_) (Sm.out ?_)); focus (exact ⟨_, (perm2 (by simp only [hget, hdel, ↓reduceIte, FR.out, ki, hd, q1, hin, s1, hx, hy, hQl, hQo, e5, k1, Nat.zero_add, List.nil_append]; first | done | rfl) (by simp only [hget, hdel, ↓reduceIte, FR.out, ki, hd, q1, hin, s1, hx, hy, hQl, hQo, e5, k1, Nat.zero_add, List.nil_append]; first | done | rfl))⟩)) | (first | refine CallV.fn (c18) (Sm.out ?_) | refine ExF.mk (c18) (Sm.out ?_) | refine ExG.mk (fun _ => c18) (Sm.out ?_) | refine ExG.mkJ (fun _ => c18) (Sm.out ?_) | refine ExG.mkI (Ob.out ?_) (fun _ => c18) (Sm.out ?_)) | refine YzHuQ ?_ | (refine WP.cond rfl (fun hc => ?_) (fun hc => ?_) <;> (try simp only [ZC, reduceCtorEq, ZD] at hc) <;> (try exact absurd hc (by decide)) <;> (try (exfalso; omega))) | refine Rt.mk (And.intro (fun hg => Sm.out ?_) fun hg => Sm.out ?_) | (refine Nu.mk ?_; first | (fail_if_success have := nb1); intro nb1 | (fail_if_success have := nb2); intro nb2 | (fail_if_success have := nb3); intro nb3 | (fail_if_success have := nb4); intro nb4 | (fail_if_success have := nb5); intro nb5 | (fail_if_success have := nb6); intro nb6 | (fail_if_success have := nb7); intro nb7 | (fail_if_success have := nb8); intro nb8 | (fail_if_success have := nb9); intro nb9 | (fail_if_success have := nb10); intro nb10 | intro nbz) | (apply Yfr; refine Yf FR fun hFRb FR => ?_) | refine Two.mk ?_ ?_ | (apply Yxc; exact Yx) | refine Cs.mk fun hcs => Sm.out ?_ | go_step | omega | (simp only [maxLen_eq]; omega) | exact trivial
        have cW := cSo nb5 nb6 (nb6 * 5) (by omega) (by omega)
        clear cSo
        first | (have FRx := FR; clear FRx) | have FR := fr0S
        have FA := Sm.mk (And.intro TFHuQ (And.intro e1 (And.intro hQl s1)))
        repeat' first | (apply Sm.mk; refine Ys ?_) | refine WP.seq fun K hK => ?_ | (apply Ob.mk; exact Yo) | refine And.intro (Ob.out ?_) ?_ | refine Y1HuQ ?_ | refine Yc (c := cSm) (r := ?_) | refine Yl1 (c := cW) (r := ?_) | refine YzHuQ ?_ | (refine WP.cond rfl (fun hc => ?_) (fun hc => ?_) <;> (try simp only [ZC, reduceCtorEq, ZD] at hc) <;> (try exact absurd hc (by decide)) <;> (try (exfalso; omega))) | refine Rt.mk (And.intro (fun hg => Sm.out ?_) fun hg => Sm.out ?_) | (refine Nu.mk ?_; first | (fail_if_success have := nb1); intro nb1 | (fail_if_success have := nb2); intro nb2 | (fail_if_success have := nb3); intro nb3 | (fail_if_success have := nb4); intro nb4 | (fail_if_success have := nb5); intro nb5 | (fail_if_success have := nb6); intro nb6 | (fail_if_success have := nb7); intro nb7 | (fail_if_success have := nb8); intro nb8 | (fail_if_success have := nb9); intro nb9 | (fail_if_success have := nb10); intro nb10 | intro nbz) | (apply Yfr; refine Yf FR fun hFRb FR => ?_) | refine Two.mk ?_ ?_ | (apply Yxc; exact Yx) | refine Cs.mk fun hcs => Sm.out ?_ | go_step | omega | (simp only [maxLen_eq]; omega) | exact trivial
        · exact ⟨⟨i + 1, l'⟩, ⟨by simp only; omega, by simp only; omega⟩, by simp only; omega, (Sub.pick (by simp [pickB, hget, hdel, FR.out, hQ2, hm2]) (by simp [look, hQ2, hm2]))⟩
        · exact ⟨⟨i + 1, l⟩, ⟨by simp only; omega, by simp only; omega⟩, by simp only; omega, (Sub.pick (by simp [pickB, hget, hdel, FR.out, hQ, hm]) (by simp [look, hQ, hm]))⟩
      · have k1 : (kd == 1) = false := beq_eq_false_iff_ne.2 h1
        by_cases h2 : kd = 2
        · have k2 : (kd == 2) = true := by rw [h2]; rfl
          have c17 := drop_ct l sn l.length rfl (by omega)
          have c18 := rdrop_ct l sn l.length rfl (by omega)
          have hlen := drpL_len (nm := sn) hl
          obtain ⟨l', hl'⟩ : ∃ x, x = drpL l sn := ⟨_, rfl⟩
          rw [← hl'] at c17 c18 hlen
          obtain ⟨c, hc0⟩ : ∃ x, x = drpC l sn := ⟨_, rfl⟩
          rw [← hc0] at c17 c18
          have cSm := same_ct l' l' l'.length l'.length rfl rfl (by omega)
          rw [sameX_t rfl] at cSm
          have e1 : (c != c) = false := by simp
          have e2 : (c == c) = true := by simp
          clear hl' hc0 hsz
          have e5 : (scs l).take (l.length * 5) = scs l := List.take_of_length_le (by omega)
          obtain ⟨Q2, hQ2⟩ : ∃ Q, Q = scs l' := ⟨_, rfl⟩
          rw [← hQ2] at c17 c18 cSm
          obtain ⟨m2, hm2⟩ : ∃ m, m = l'.length := ⟨_, rfl⟩
          rw [← hm2] at c17 c18 cSm hlen
          obtain ⟨Q, hQ⟩ : ∃ Q, Q = scs l := ⟨_, rfl⟩
          rw [← hQ] at c17 c18 hQl hQo e5 ⊢
          simp only [← hQ] at cSo
          obtain ⟨m, hm⟩ : ∃ m, m = l.length := ⟨_, rfl⟩
          rw [← hm] at c17 c18 hQl e5 hl ⊢
          simp only [← hm] at cSo
          first | (have FRx := FR; clear FRx) | have FR := fr0S
          have FA := Sm.mk (And.intro TFHuQ (And.intro ki (And.intro hd (And.intro q1 (And.intro s1 (And.intro hx (And.intro hy (And.intro hQl (And.intro hQo (And.intro e5 (And.intro k1 k2)))))))))))
          repeat' first | (apply Sm.mk; refine YsHuQ1 ?_) | refine WP.seq fun K hK => ?_ | (apply Ob.mk; exact Yo) | refine And.intro (Ob.out ?_) ?_ | ((fail_if_success (show WP _ _ _ (.region 24 _ _) _ _)); refine Y1HuQ ?_) | refine Yc (c := c17) (r := ?_) | refine Yc (c := c18) (r := ?_) | refine YzHuQ ?_ | (refine WP.cond rfl (fun hc => ?_) (fun hc => ?_) <;> (try simp only [ZC, reduceCtorEq, ZD] at hc) <;> (try exact absurd hc (by decide)) <;> (try (exfalso; omega))) | refine Rt.mk (And.intro (fun hg => Sm.out ?_) fun hg => Sm.out ?_) | (refine Nu.mk ?_; first | (fail_if_success have := nb1); intro nb1 | (fail_if_success have := nb2); intro nb2 | (fail_if_success have := nb3); intro nb3 | (fail_if_success have := nb4); intro nb4 | (fail_if_success have := nb5); intro nb5 | (fail_if_success have := nb6); intro nb6 | (fail_if_success have := nb7); intro nb7 | (fail_if_success have := nb8); intro nb8 | (fail_if_success have := nb9); intro nb9 | (fail_if_success have := nb10); intro nb10 | intro nbz) | (apply Yfr; refine Yf FR fun hFRb FR => ?_) | refine Two.mk ?_ ?_ | (apply Yxc; exact Yx) | refine Cs.mk fun hcs => Sm.out ?_ | go_step | omega | (simp only [maxLen_eq]; omega) | exact trivial
          have cW := cSo nb5 nb6 (nb6 * 5) (by omega) (by omega)
          clear cSo
          first | (have FRx := FR; clear FRx) | have FR := fr0S
          have FA := Sm.mk (And.intro TFHuQ (And.intro e1 (And.intro hQl s1)))
          repeat' first | (apply Sm.mk; refine Ys ?_) | refine WP.seq fun K hK => ?_ | (apply Ob.mk; exact Yo) | refine And.intro (Ob.out ?_) ?_ | refine Y1HuQ ?_ | refine Yc (c := cSm) (r := ?_) | refine Yl1 (c := cW) (r := ?_) | refine YzHuQ ?_ | (refine WP.cond rfl (fun hc => ?_) (fun hc => ?_) <;> (try simp only [ZC, reduceCtorEq, ZD] at hc) <;> (try exact absurd hc (by decide)) <;> (try (exfalso; omega))) | refine Rt.mk (And.intro (fun hg => Sm.out ?_) fun hg => Sm.out ?_) | (refine Nu.mk ?_; first | (fail_if_success have := nb1); intro nb1 | (fail_if_success have := nb2); intro nb2 | (fail_if_success have := nb3); intro nb3 | (fail_if_success have := nb4); intro nb4 | (fail_if_success have := nb5); intro nb5 | (fail_if_success have := nb6); intro nb6 | (fail_if_success have := nb7); intro nb7 | (fail_if_success have := nb8); intro nb8 | (fail_if_success have := nb9); intro nb9 | (fail_if_success have := nb10); intro nb10 | intro nbz) | (apply Yfr; refine Yf FR fun hFRb FR => ?_) | refine Two.mk ?_ ?_ | (apply Yxc; exact Yx) | refine Cs.mk fun hcs => Sm.out ?_ | go_step | omega | (simp only [maxLen_eq]; omega) | exact trivial
          · exact ⟨⟨i + 1, l'⟩, ⟨by simp only; omega, by simp only; omega⟩, by simp only; omega, (Sub.pick (by simp [pickB, hget, hdel, FR.out, hQ2, hm2]) (by simp [look, hQ2, hm2]))⟩
          · exact ⟨⟨i + 1, l⟩, ⟨by simp only; omega, by simp only; omega⟩, by simp only; omega, (Sub.pick (by simp [pickB, hget, hdel, FR.out, hQ, hm]) (by simp [look, hQ, hm]))⟩
        · have k2 : (kd == 2) = false := beq_eq_false_iff_ne.2 h2
          by_cases h3 : kd = 3
          · have k3 : (kd == 3) = true := by rw [h3]; rfl
            have c17 := swp_ct l now l.length rfl (by omega)
            have c18 := rswp_ct l now l.length rfl (by omega)
            have hlen := swpL_len (now := now) hl
            obtain ⟨l', hl'⟩ : ∃ x, x = swpL l now := ⟨_, rfl⟩
            rw [← hl'] at c17 c18 hlen
            have cSm := same_ct l' l' l'.length l'.length rfl rfl (by omega)
            rw [sameX_t rfl] at cSm
            have e1 : ((0 : Int) != 0) = false := rfl
            have e2 : ((0 : Int) == 0) = true := rfl
            clear hl' hsz
            have e5 : (scs l).take (l.length * 5) = scs l := List.take_of_length_le (by omega)
            obtain ⟨Q2, hQ2⟩ : ∃ Q, Q = scs l' := ⟨_, rfl⟩
            rw [← hQ2] at c17 c18 cSm
            obtain ⟨m2, hm2⟩ : ∃ m, m = l'.length := ⟨_, rfl⟩
            rw [← hm2] at c17 c18 cSm hlen
            obtain ⟨Q, hQ⟩ : ∃ Q, Q = scs l := ⟨_, rfl⟩
            rw [← hQ] at c17 c18 hQl hQo e5 ⊢
            simp only [← hQ] at cSo
            obtain ⟨m, hm⟩ : ∃ m, m = l.length := ⟨_, rfl⟩
            rw [← hm] at c17 c18 hQl e5 hl ⊢
            simp only [← hm] at cSo
            first | (have FRx := FR; clear FRx) | have FR := fr0S
            have FA := Sm.mk (And.intro TFHuQ (And.intro ki (And.intro hd (And.intro q1 (And.intro s1 (And.intro hx (And.intro hy (And.intro hQl (And.intro hQo (And.intro e5 (And.intro k1 (And.intro k2 k3))))))))))))
            repeat' first | (apply Sm.mk; refine YsHuQ1 ?_) | refine WP.seq fun K hK => ?_ | (apply Ob.mk; exact Yo) | refine And.intro (Ob.out ?_) ?_ | ((fail_if_success (show WP _ _ _ (.region 24 _ _) _ _)); refine Y1HuQ ?_) | refine Yc (c := c17) (r := ?_) | refine Yc (c := c18) (r := ?_) | refine YzHuQ ?_ | (refine WP.cond rfl (fun hc => ?_) (fun hc => ?_) <;> (try simp only [ZC, reduceCtorEq, ZD] at hc) <;> (try exact absurd hc (by decide)) <;> (try (exfalso; omega))) | refine Rt.mk (And.intro (fun hg => Sm.out ?_) fun hg => Sm.out ?_) | (refine Nu.mk ?_; first | (fail_if_success have := nb1); intro nb1 | (fail_if_success have := nb2); intro nb2 | (fail_if_success have := nb3); intro nb3 | (fail_if_success have := nb4); intro nb4 | (fail_if_success have := nb5); intro nb5 | (fail_if_success have := nb6); intro nb6 | (fail_if_success have := nb7); intro nb7 | (fail_if_success have := nb8); intro nb8 | (fail_if_success have := nb9); intro nb9 | (fail_if_success have := nb10); intro nb10 | intro nbz) | (apply Yfr; refine Yf FR fun hFRb FR => ?_) | refine Two.mk ?_ ?_ | (apply Yxc; exact Yx) | refine Cs.mk fun hcs => Sm.out ?_ | go_step | omega | (simp only [maxLen_eq]; omega) | exact trivial
            have cW := cSo nb5 nb6 (nb6 * 5) (by omega) (by omega)
            clear cSo
            first | (have FRx := FR; clear FRx) | have FR := fr0S
            have FA := Sm.mk (And.intro TFHuQ (And.intro hQl s1))
            repeat' first | (apply Sm.mk; refine Ys ?_) | refine WP.seq fun K hK => ?_ | (apply Ob.mk; exact Yo) | refine And.intro (Ob.out ?_) ?_ | refine Y1HuQ ?_ | refine Yc (c := cSm) (r := ?_) | refine Yl1 (c := cW) (r := ?_) | refine YzHuQ ?_ | (refine WP.cond rfl (fun hc => ?_) (fun hc => ?_) <;> (try simp only [ZC, reduceCtorEq, ZD] at hc) <;> (try exact absurd hc (by decide)) <;> (try (exfalso; omega))) | refine Rt.mk (And.intro (fun hg => Sm.out ?_) fun hg => Sm.out ?_) | (refine Nu.mk ?_; first | (fail_if_success have := nb1); intro nb1 | (fail_if_success have := nb2); intro nb2 | (fail_if_success have := nb3); intro nb3 | (fail_if_success have := nb4); intro nb4 | (fail_if_success have := nb5); intro nb5 | (fail_if_success have := nb6); intro nb6 | (fail_if_success have := nb7); intro nb7 | (fail_if_success have := nb8); intro nb8 | (fail_if_success have := nb9); intro nb9 | (fail_if_success have := nb10); intro nb10 | intro nbz) | (apply Yfr; refine Yf FR fun hFRb FR => ?_) | refine Two.mk ?_ ?_ | (apply Yxc; exact Yx) | refine Cs.mk fun hcs => Sm.out ?_ | go_step | omega | (simp only [maxLen_eq]; omega) | exact trivial
            exact ⟨⟨i + 1, l'⟩, ⟨by simp only; omega, by simp only; omega⟩, by simp only; omega, (Sub.pick (by simp [pickB, hget, hdel, FR.out, hQ2, hm2]) (by simp [look, hQ2, hm2]))⟩
          · have k3 : (kd == 3) = false := beq_eq_false_iff_ne.2 h3
            have e5 : (scs l).take (l.length * 5) = scs l := List.take_of_length_le (by omega)
            obtain ⟨Q, hQ⟩ : ∃ Q, Q = scs l := ⟨_, rfl⟩
            rw [← hQ] at hQl hQo e5 ⊢
            obtain ⟨m, hm⟩ : ∃ m, m = l.length := ⟨_, rfl⟩
            rw [← hm] at hQl e5 hl ⊢
            clear cSo
            first | (have FRx := FR; clear FRx) | have FR := fr0S
            have FA := Sm.mk (And.intro TFHuQ (And.intro ki (And.intro hd (And.intro q1 (And.intro s1 (And.intro hx (And.intro hy (And.intro hQl (And.intro hQo (And.intro e5 (And.intro k1 (And.intro k2 k3))))))))))))
            repeat' first | (apply Sm.mk; refine YsHuQ1 ?_) | refine WP.seq fun K hK => ?_ | (apply Ob.mk; exact Yo) | refine And.intro (Ob.out ?_) ?_ | refine Y1HuQ ?_ | refine YzHuQ ?_ | (refine WP.cond rfl (fun hc => ?_) (fun hc => ?_) <;> (try simp only [ZC, reduceCtorEq, ZD] at hc) <;> (try exact absurd hc (by decide)) <;> (try (exfalso; omega))) | refine Rt.mk (And.intro (fun hg => Sm.out ?_) fun hg => Sm.out ?_) | (refine Nu.mk ?_; first | (fail_if_success have := nb1); intro nb1 | (fail_if_success have := nb2); intro nb2 | (fail_if_success have := nb3); intro nb3 | (fail_if_success have := nb4); intro nb4 | (fail_if_success have := nb5); intro nb5 | (fail_if_success have := nb6); intro nb6 | (fail_if_success have := nb7); intro nb7 | (fail_if_success have := nb8); intro nb8 | (fail_if_success have := nb9); intro nb9 | (fail_if_success have := nb10); intro nb10 | intro nbz) | (apply Yfr; refine Yf FR fun hFRb FR => ?_) | refine Two.mk ?_ ?_ | (apply Yxc; exact Yx) | refine Cs.mk fun hcs => Sm.out ?_ | go_step | omega | (simp only [maxLen_eq]; omega) | exact trivial
            exact ⟨⟨i + 1, l⟩, ⟨by simp only; omega, by simp only; omega⟩, by simp only; omega, (Sub.pick (by simp [pickB, hget, hdel, FR.out, hQ, hm]) (by simp [look, hQ, hm]))⟩
  · have ki : decide ((i : Int) < (n : Int)) = false := decide_eq_false (by omega)
    have k12 : decide ((l.length : Int) ≤ 12) = true := decide_eq_true (by omega)
    obtain ⟨Q, hQ⟩ : ∃ Q, Q = scs l := ⟨_, rfl⟩
    rw [← hQ]
    obtain ⟨m, hm⟩ : ∃ m, m = l.length := ⟨_, rfl⟩
    rw [← hm] at k12 ⊢
    first | (have FRx := FR; clear FRx) | have FR := fr0S
    have FA := Sm.mk (And.intro TFHuQ (And.intro ki k12))
    repeat' first | (apply Sm.mk; refine Ys ?_) | refine WP.seq fun K hK => ?_ | (apply Ob.mk; exact Yo) | refine And.intro (Ob.out ?_) ?_ | refine Y1HuQ ?_ | refine YzHuQ ?_ | (refine WP.cond rfl (fun hc => ?_) (fun hc => ?_) <;> (try simp only [ZC, reduceCtorEq, ZD] at hc) <;> (try exact absurd hc (by decide)) <;> (try (exfalso; omega))) | refine Rt.mk (And.intro (fun hg => Sm.out ?_) fun hg => Sm.out ?_) | (refine Nu.mk ?_; first | (fail_if_success have := nb1); intro nb1 | (fail_if_success have := nb2); intro nb2 | (fail_if_success have := nb3); intro nb3 | (fail_if_success have := nb4); intro nb4 | (fail_if_success have := nb5); intro nb5 | (fail_if_success have := nb6); intro nb6 | (fail_if_success have := nb7); intro nb7 | (fail_if_success have := nb8); intro nb8 | (fail_if_success have := nb9); intro nb9 | (fail_if_success have := nb10); intro nb10 | intro nbz) | (apply Yfr; refine Yf FR fun hFRb FR => ?_) | refine Two.mk ?_ ?_ | (apply Yxc; exact Yx) | refine Cs.mk fun hcs => Sm.out ?_ | go_step | omega | (simp only [maxLen_eq]; omega) | exact trivial
    (refine OutQ.drop _ _ (perm2 (by simp only [hget, hdel, ↓reduceIte, if_true, if_false, FR.out]; first | done | rfl) (by simp only [hget, hdel, ↓reduceIte, if_true, if_false, FR.out]; first | done | rfl)) (by simp only [resv, ZK, look, loadv, loadn, loadnm, load1, load1m, hget, ↓reduceIte, Nat.reduceEqDiff, Nat.reduceAdd, Nat.reduceMul, Nat.reduceLeDiff, Nat.reduceLT, reduceCtorEq, TFHuQ, FR.out]) ⟨(by simp only [resv, resA, ZK, look, loadv, loadn, loadnm, load1, load1m, hget, ↓reduceIte, Nat.reduceEqDiff, Nat.reduceAdd, Nat.reduceMul, Nat.reduceLeDiff, Nat.reduceLT, reduceCtorEq, TFHuQ, FR.out]; first | done | rfl), rfl⟩)
abbrev silTy : Ty := .st [.str, .str, .int .i64, .int .i64, .int .i64]
abbrev actTy : Ty := .st [.int .i64, silTy, .int .i64]
theorem sil_shp {xs : List AV} (h : Shp silTy xs) : ∃ s : Sl, xs = [.lit (.string s.nm), .lit (.string s.gl), iv .i64 s.w, iv .i64 s.f, iv .i64 s.t] ∧ (-9223372036854775808 ≤ s.w ∧ s.w ≤ 9223372036854775807) ∧ (-9223372036854775808 ≤ s.f ∧ s.f ≤ 9223372036854775807) ∧ (-9223372036854775808 ≤ s.t ∧ s.t ≤ 9223372036854775807) := by
  simp only [Shp, ShpL] at h
  obtain ⟨_, _, rfl, ⟨a, rfl, ha⟩, _, _, rfl, ⟨b, rfl, hb⟩, _, _, rfl, ⟨c, rfl, hc⟩, _, _, rfl, ⟨d, rfl, hd⟩, _, _, rfl, ⟨e, rfl, he⟩, rfl⟩ := h
  exact ⟨⟨a, b, c, d, e⟩, rfl, wf_i64 hc, wf_i64 hd, wf_i64 he⟩
theorem ac_rows : ∀ (rows : List (List AV)), (∀ r ∈ rows, Shp actTy r) → ∃ L : List Ac, L.length = rows.length ∧ rows.flatten = acs L
  | [], _ => ⟨[], rfl, rfl⟩
  | r :: rows, h => by
    obtain ⟨L, l1, l2⟩ := ac_rows rows fun x hx => h x (List.mem_cons_of_mem _ hx)
    have h0 := h r (List.mem_cons_self ..)
    simp only [actTy, Shp, ShpL] at h0
    obtain ⟨_, _, rfl, ⟨a, rfl, ha⟩, _, _, rfl, hs, _, _, rfl, ⟨b, rfl, hb⟩, rfl⟩ := h0
    obtain ⟨s, rfl, -⟩ := sil_shp (by simpa only [Shp, ShpL] using hs)
    exact ⟨⟨a, s, b⟩ :: L, by simp [l1], by simp [l2, acs]⟩
theorem plays_law {y : AV} (hy : Shp (.sl actTy) [y]) (n0 n1 : Nat) : ACt Tryd.prog 4 [y] [(0, .ro .u8 fsZ 256 n0), (1, .ro .u8 acZ 32 n1)] (fun r F' => r = bv true ∧ F' = [(0, .ro .u8 fsZ 256 n0), (1, .ro .u8 acZ 32 n1)]) := by
  unfold Shp at hy
  obtain ⟨rows, e, hr⟩ := hy
  obtain rfl : y = _ := (List.cons.inj e).1
  obtain ⟨L, l1, l2⟩ := ac_rows rows hr
  rw [l2]
  exact plays_ct L rows.length l1 n0 n1
end Go.Proofs.YtaffbklkjjmmdaaDoor
