/-
  The walks and the laws that the statement leans on, part 15.
-/
import Derived.Test.YtdkkfgcdnojmaaaDoorS13
import Derived.Test.YtdkkfgcdnojmaaaDoorS14
namespace Go.Proofs.YtdkkfgcdnojmaaaDoor
open Go
set_option linter.unusedVariables false
set_option linter.unusedSimpArgs false
set_option linter.defProp false
def TFTxE :=
  And.intro (And.intro (And.intro (And.intro tyc3 zmb3) (And.intro tyc4 (And.intro zmb4 tyc5))) (And.intro (And.intro zmb5 (And.intro tyc9 zmb9)) (And.intro tyc21 (And.intro zmb21 tyc25)))) (And.intro (And.intro (And.intro elt25 mkz25) (And.intro apT25 (And.intro elk25 zmb25))) (And.intro (And.intro Tryd.underlying3 (And.intro Tryd.underlying4 Tryd.underlying5)) (And.intro Tryd.underlying9 (And.intro Tryd.underlying21 Tryd.underlying25))))
theorem Y1TxE {G R : Prop} (r : R) (h : R → G := by intro r; first | (apply WP.region; exact rvc_sound _ _ (Sm.out r)) | exact WP.drawK rfl mixed (by decide +kernel) (Sm.out r) | (apply WP.block; exact r) | (apply WP.skip; exact Yq r) | (apply WP.exit; exact Yq r) | (apply WP.ret; exact Sm.out r) | exact WP.cond rfl (fun _ => r) (fun hg => absurd hg (by decide)) | exact WP.cond rfl (fun hg => absurd hg (by decide)) (fun _ => r) | exact Rt.mk (And.intro (fun _ => Sm.out r) fun hg => absurd hg (by decide)) | exact Rt.mk (And.intro (fun hg => absurd hg (by decide)) fun _ => Sm.out r)) : G := h r
theorem YzTxE {G R : Prop} (r : R) (h : R → G := by intro r; first | (apply ExG.no; exact Sm.out r) | (apply Or.inl; apply ExG.no; exact Sm.out r) | exact Or.inl (And.intro (fun hg => absurd hg (by decide)) (ExG.no (Sm.out r)))) : G := h r
theorem YsTxE0 {P Q : Prop} (q : Q) (h : P = Q := by (try (conv => lhs; simp -dsimp only [ZK, rvc, capA, appA, litL, mkfv, drawF, headN, pureH, stp, dvc, calleeOf, gcall, pev, eff, newB, okd, og, ogs, ogo, ogp, slv, bltv, opd, litv, strip, one, both, putE, St.put, look, gdOf, gdv, picka, pickv, pickw, binv, bini, bins, binb, binp, binq, isSlT, bina, shp, eqCells, unv, convv, nilv, faddv, addp, idxav, idxp, load1, load1m, loadn, loadnm, loadv, hget, hset, hrep, hdel, slicev, slice3v, bnd, shift1, lenv, capv, IntKind.bits, extractv, fieldv, indexv, min2v, max2v, mkiv, tasv, tasz, cellsA, fillA, buildv, stC, oneC, rowMB, intsA, plN, appE, appZ, appC, appS, srcB, appNZ, appNC, VwL, srcC, srcZ, srcM, isBoolT, isPtrT, isSliceT, uOk, Value.oneCell', Nat.reducePow, Int.reducePow, Nat.reduceAdd, Nat.reduceMul, Nat.reduceSub, Nat.reduceLT, Nat.reduceLeDiff, Nat.reduceEqDiff, Nat.reduceBEq, Nat.reduceDiv, Nat.reduceMod, ↓reduceIte, reduceCtorEq, Int.reduceToNat, Int.reduceLT, Int.reduceLE, TFTxE, SeqQ, BlkQ, LoopQ, BodyQ, ← hob, FA.out, FR.out])) <;> exact rfl) : P := h.mpr q
theorem wrap_i32 {n : Int} (h1 : -2147483648 ≤ n) (h2 : n ≤ 2147483647) : IntKind.i32.wrap n = n := by
  simp only [IntKind.wrap, IntKind.bits, IntKind.signed]
  simp
  omega
noncomputable def rnF (zs : List Int) : Nat → Nat → List Int
  | 0, _ => []
  | f + 1, i => if i < zs.length then (elR zs i).1 :: rnF zs f (i + (elR zs i).2) else []
theorem rnF_succ (zs : List Int) (f i : Nat) : rnF zs (f + 1) i = if i < zs.length then (elR zs i).1 :: rnF zs f (i + (elR zs i).2) else [] := rfl
noncomputable def rn (zs : List Int) : List Int := rnF zs zs.length 0
theorem nB_le (b : Int) : nB b ≤ 3 := by unfold nB; (repeat' split) <;> omega
theorem bs_all : ∀ n, n < 4 → 0 ≤ bsR n ∧ bsR n ≤ 240 ∧ 0 ≤ lsR n ∧ lsR n ≤ 65536 := by decide +kernel
theorem nB_bd {b : Int} (hb : 128 ≤ b ∧ b ≤ 255) : 0 ≤ b - bsR (nB b) ∧ b - bsR (nB b) ≤ 255 ∧ (nB b ≠ 0 → b - bsR (nB b) < 32) := by
  unfold nB
  by_cases h1 : 192 ≤ b ∧ b < 224
  · rw [if_pos h1]; show 0 ≤ b - 192 ∧ b - 192 ≤ 255 ∧ (1 ≠ 0 → b - 192 < 32); omega
  rw [if_neg h1]
  by_cases h2 : 224 ≤ b ∧ b < 240
  · rw [if_pos h2]; show 0 ≤ b - 224 ∧ b - 224 ≤ 255 ∧ (2 ≠ 0 → b - 224 < 32); omega
  rw [if_neg h2]
  by_cases h3 : 240 ≤ b ∧ b < 248
  · rw [if_pos h3]; show 0 ≤ b - 240 ∧ b - 240 ≤ 255 ∧ (3 ≠ 0 → b - 240 < 32); omega
  rw [if_neg h3]; show 0 ≤ b - 0 ∧ b - 0 ≤ 255 ∧ (0 ≠ 0 → b - 0 < 32); omega
structure RnG where
  i : Nat
  f : Nat
  A : List Int
  x : Nat
  k : Nat
set_option maxHeartbeats 8000000 in
theorem runes_ct (zs : List Int) (hb : By zs) (hl : zs.length ≤ 5000) : ACt Tryd.prog 14 [stz zs] [] (Row .i32 21 (rn zs)) := by
  have hs := bstr_size zs
  have hat := fun i (h : i < zs.length) => bstr_at hb h
  have hel := fun i (h : i < zs.length) => el_dec hb h
  obtain ⟨B, hB⟩ : ∃ B, B = bstr zs := ⟨_, rfl⟩
  unfold stz
  rw [← hB] at hs ⊢
  simp only [← hB] at hat
  obtain ⟨T, hT⟩ : ∃ T, T = rn zs := ⟨_, rfl⟩
  rw [← hT]
  have t1 : ∀ k : Nat, ((k : Nat) : Int).toNat = k := fun k => by omega
  refine ACt.intro Tryd.func14 rfl (by kernel_rfl) (by simp [Tryd.ntmps14]) (fun cx => ?_)
  simp only [argE, Tryd.ntmps14, Tryd.results14]
  first | (have FRx := FR; clear FRx) | have FR := fr0S
  have FA := Sm.mk (TFTxE)
  repeat' first | (apply Sm.mk; refine Ys ?_) | refine WP.seq fun K hK => ?_ | (apply Ob.mk; exact Yo) | refine And.intro (Ob.out ?_) ?_ | refine Y1TxE ?_ | refine YzTxE ?_ | (refine WP.cond rfl (fun hc => ?_) (fun hc => ?_) <;> (try simp only [ZC, reduceCtorEq, ZD] at hc) <;> (try exact absurd hc (by decide)) <;> (try (exfalso; omega))) | refine Rt.mk (And.intro (fun hg => Sm.out ?_) fun hg => Sm.out ?_) | (refine Nu.mk ?_; first | (fail_if_success have := nb1); intro nb1 | (fail_if_success have := nb2); intro nb2 | (fail_if_success have := nb3); intro nb3 | (fail_if_success have := nb4); intro nb4 | (fail_if_success have := nb5); intro nb5 | (fail_if_success have := nb6); intro nb6 | (fail_if_success have := nb7); intro nb7 | (fail_if_success have := nb8); intro nb8 | (fail_if_success have := nb9); intro nb9 | (fail_if_success have := nb10); intro nb10 | (fail_if_success have := nb11); intro nb11 | (fail_if_success have := nb12); intro nb12 | intro nbz) | (apply Yfr; refine Yf FR fun hFRb FR => ?_) | refine Two.mk ?_ ?_ | (apply Yxc; exact Yx) | refine Cs.mk fun hcs => Sm.out ?_ | go_step | omega | (simp only [maxLen_eq]; omega) | exact trivial
  refine WP.loop (Γ := RnG) (fun g => ⟨[(4, iv .i64 (g.i : Int)), (3, ms g.x 0 g.A.length g.k), (0, .lit (.string B))], [(g.x, .zs .i32 g.A g.k 21)]⟩)
    (fun g => zs.length - g.i ≤ g.f ∧ g.i ≤ zs.length ∧ g.A.length ≤ g.i ∧ g.A.length ≤ g.k ∧ g.k ≤ 9223372036854775807 ∧ T = g.A ++ rnF zs g.f g.i) (fun g => zs.length - g.i) ⟨0, zs.length, [], nb1, 0⟩
    ⟨by simp, by simp, by simp, by simp, by simp, hT⟩ (Sub.pick (by simp [pickB, hget, hdel, FR.out]) (by simp [look])) ?_
  intro ⟨i, f, A, x, k⟩ ⟨h1, h2, h3, h4, h5, h6⟩
  simp only at h1 h2 h3 h4 h5 h6 ⊢
  have FR : Sm (¬ ((1 : Nat) = 0)) := Sm.mk Nat.one_ne_zero
  obtain ⟨a, ha⟩ : ∃ a, a = A.length := ⟨_, rfl⟩
  rw [← ha] at h3 h4 ⊢
  have haA : A.length = a := ha.symm
  have l1 : a + 1 ≤ 9223372036854775807 ∧ (a + 1) * 4 ≤ 140737488355328 := by omega
  have l2 : k ≤ 9223372036854775807 := h5
  by_cases hi : i < zs.length
  · have ki : decide ((i : Int) < (zs.length : Int)) = true := decide_eq_true (by omega)
    obtain ⟨f, rfl⟩ : ∃ f', f = f' + 1 := ⟨f - 1, by omega⟩
    rw [rnF_succ, if_pos hi] at h6
    have hzc := hat i hi
    have hbi := hb i hi
    obtain ⟨z, hz⟩ : ∃ z, z = zs.getD i 0 := ⟨_, rfl⟩
    rw [← hz] at hzc hbi
    have w1 : IntKind.i32.wrap z = z := wrap_i32 (by omega) (by omega)
    have s1 : IntKind.i64.wrap ((i : Int) + 1) = ((i + 1 : Nat) : Int) := by rw [wrap_i64 (by omega) (by omega)]; omega
    by_cases h0 : z < 128
    · have k0 : decide (z < 128) = true := decide_eq_true h0
      have e : elR zs i = (z, 1) := by unfold elR; rw [if_pos (by rw [← hz]; exact h0), ← hz]
      rw [e] at h6
      first | (have FRx := FR; clear FRx) | have FR := fr0S
      have FA := Sm.mk (And.intro TFTxE (And.intro hs (And.intro ki (And.intro hzc (And.intro t1 (And.intro w1 (And.intro s1 (And.intro k0 (And.intro haA (And.intro l1 l2))))))))))
      repeat' first | (apply Sm.mk; refine Ys ?_) | refine WP.seq fun K hK => ?_ | (apply Ob.mk; exact Yo) | refine And.intro (Ob.out ?_) ?_ | refine Y1TxE ?_ | refine YzTxE ?_ | (refine WP.cond rfl (fun hc => ?_) (fun hc => ?_) <;> (try simp only [ZC, reduceCtorEq, ZD] at hc) <;> (try exact absurd hc (by decide)) <;> (try (exfalso; omega))) | refine Rt.mk (And.intro (fun hg => Sm.out ?_) fun hg => Sm.out ?_) | (refine Nu.mk ?_; first | (fail_if_success have := nb1); intro nb1 | (fail_if_success have := nb2); intro nb2 | (fail_if_success have := nb3); intro nb3 | (fail_if_success have := nb4); intro nb4 | (fail_if_success have := nb5); intro nb5 | (fail_if_success have := nb6); intro nb6 | (fail_if_success have := nb7); intro nb7 | (fail_if_success have := nb8); intro nb8 | (fail_if_success have := nb9); intro nb9 | (fail_if_success have := nb10); intro nb10 | (fail_if_success have := nb11); intro nb11 | (fail_if_success have := nb12); intro nb12 | intro nbz) | (apply Yfr; refine Yf FR fun hFRb FR => ?_) | refine Two.mk ?_ ?_ | (apply Yxc; exact Yx) | refine Cs.mk fun hcs => Sm.out ?_ | go_step | omega | (simp only [maxLen_eq]; omega) | exact trivial
      have hzc2 : ((B.data[i]?.getD 0).toNat : Int) = z := by simpa using hzc
      refine ⟨⟨i + 1, f, A ++ [z], nb3, nb4⟩, ⟨by simp only; omega, by simp only; omega, by simp only [List.length_append, List.length_cons, List.length_nil]; omega, by simp only [List.length_append, List.length_cons, List.length_nil]; omega, by simp only; omega, by simp only; rw [h6]; simp⟩, by simp only; omega, (Sub.pick (by simp [pickB, hget, hdel, FR.out, hzc2, w1, haA]) (by simp [look, hzc2, w1, haA]))⟩
    have k0 : decide (z < 128) = false := decide_eq_false h0
    have hzz : 128 ≤ z ∧ z ≤ 255 := by omega
    obtain ⟨n, hn⟩ : ∃ n, n = nB z := ⟨_, rfl⟩
    have hn3 := nB_le z
    have hcb := nB_bd hzz
    have hlsb := bs_all (nB z) (by omega)
    rw [← hn] at hn3 hcb hlsb
    have hel := hel i hi
    obtain ⟨c0, hc0⟩ : ∃ c0, c0 = z - bsR n := ⟨_, rfl⟩
    obtain ⟨ls, hls⟩ : ∃ ls, ls = lsR n := ⟨_, rfl⟩
    have hcp0 : cP zs i n 0 = c0 := by rw [hc0, hz]; rfl
    rw [← hc0] at hcb
    rw [← hls] at hlsb
    -- what the rune is
    have hbad : ¬ (n ≠ 0 ∧ allC zs i n ∧ fitR n (cP zs i n n)) → T = (A ++ [-1]) ++ rnF zs f (i + 1) := fun hx => by
      have e : elR zs i = (-1, 1) := by unfold elR; rw [if_neg (by rw [← hz]; exact h0), if_neg (by rw [← hz, ← hn]; exact hx)]
      rw [h6, e]; simp
    have hgood : (n ≠ 0 ∧ allC zs i n ∧ fitR n (cP zs i n n)) → T = (A ++ [cP zs i n n]) ++ rnF zs f (i + (n + 1)) := fun hx => by
      have e : elR zs i = (cP zs i n n, n + 1) := by unfold elR; rw [if_neg (by rw [← hz]; exact h0), if_pos (by rw [← hz, ← hn]; exact hx), ← hz, ← hn]
      rw [h6, e]; simp
    clear h6 hel
    have hat2 := hat
    first | (have FRx := FR; clear FRx) | have FR := fr0S
    have FA := Sm.mk (And.intro TFTxE (And.intro hs (And.intro ki (And.intro hzc (And.intro t1 (And.intro w1 (And.intro s1 (And.intro haA (And.intro l1 l2)))))))))
    repeat' first | (apply Sm.mk; refine Ys ?_) | refine WP.seq fun K hK => ?_ | (apply Ob.mk; exact Yo) | refine And.intro (Ob.out ?_) ?_ | ((fail_if_success (show WP _ _ _ (.region 7 _ _) _ _)); refine Y1TxE ?_) | refine YzTxE ?_ | (refine WP.cond rfl (fun hc => ?_) (fun hc => ?_) <;> (try simp only [ZC, reduceCtorEq, ZD] at hc) <;> (try exact absurd hc (by decide)) <;> (try (exfalso; omega))) | refine Rt.mk (And.intro (fun hg => Sm.out ?_) fun hg => Sm.out ?_) | (refine Nu.mk ?_; first | (fail_if_success have := nb1); intro nb1 | (fail_if_success have := nb2); intro nb2 | (fail_if_success have := nb3); intro nb3 | (fail_if_success have := nb4); intro nb4 | (fail_if_success have := nb5); intro nb5 | (fail_if_success have := nb6); intro nb6 | (fail_if_success have := nb7); intro nb7 | (fail_if_success have := nb8); intro nb8 | (fail_if_success have := nb9); intro nb9 | (fail_if_success have := nb10); intro nb10 | (fail_if_success have := nb11); intro nb11 | (fail_if_success have := nb12); intro nb12 | intro nbz) | (apply Yfr; refine Yf FR fun hFRb FR => ?_) | refine Two.mk ?_ ?_ | (apply Yxc; exact Yx) | refine Cs.mk fun hcs => Sm.out ?_ | go_step | omega | (simp only [maxLen_eq]; omega) | exact trivial
    rename_i K2 hK2
    have cont : Sm (∀ s', Sub s' ⟨[(6, iv .i64 (n : Int)), (5, iv .i32 c0), (7, iv .i32 ls), (4, iv .i64 (i : Int)), (3, ms x 0 a k), (0, .lit (.string B))], [(x, .zs .i32 A k 21)]⟩ → K2 s') := Sm.mk fun s' hsb => by
      refine hK2 s' (WP.sub hsb ?_)
      clear hK2 hsb hzc hat
      obtain ⟨ob, hob⟩ : ∃ ob : Bool, ob = decide ((n : Int) > 0) := ⟨_, rfl⟩
      first | (have FRx := FR; clear FRx) | have FR := fr0S
      have FA := Sm.mk (TFTxE)
      repeat' first | (apply Sm.mk; refine YsTxE0 ?_) | refine WP.seq fun K hK => ?_ | (apply Ob.mk; exact Yo) | refine And.intro (Ob.out ?_) ?_ | refine Y1TxE ?_ | refine YzTxE ?_ | (refine WP.cond rfl (fun hc => ?_) (fun hc => ?_) <;> (try simp only [ZC, reduceCtorEq, ZD] at hc) <;> (try exact absurd hc (by decide)) <;> (try (exfalso; omega))) | refine Rt.mk (And.intro (fun hg => Sm.out ?_) fun hg => Sm.out ?_) | (refine Nu.mk ?_; first | (fail_if_success have := nb1); intro nb1 | (fail_if_success have := nb2); intro nb2 | (fail_if_success have := nb3); intro nb3 | (fail_if_success have := nb4); intro nb4 | (fail_if_success have := nb5); intro nb5 | (fail_if_success have := nb6); intro nb6 | (fail_if_success have := nb7); intro nb7 | (fail_if_success have := nb8); intro nb8 | (fail_if_success have := nb9); intro nb9 | (fail_if_success have := nb10); intro nb10 | (fail_if_success have := nb11); intro nb11 | (fail_if_success have := nb12); intro nb12 | intro nbz) | (apply Yfr; refine Yf FR fun hFRb FR => ?_) | refine Two.mk ?_ ?_ | (apply Yxc; exact Yx) | refine Cs.mk fun hcs => Sm.out ?_ | go_step | omega | (simp only [maxLen_eq]; omega) | exact trivial
      refine WP.loop (Γ := Nat) (fun m => ⟨[(9, iv .i64 ((m + 1 : Nat) : Int)), (8, bv ob), (6, iv .i64 (n : Int)), (5, iv .i32 (cP zs i n m)), (7, iv .i32 ls), (4, iv .i64 (i : Int)), (3, ms x 0 a k), (0, .lit (.string B))], [(x, .zs .i32 A k 21)]⟩)
        (fun m => m ≤ n ∧ (∀ q, 1 ≤ q → q ≤ m → ctB zs (i + q)) ∧ 0 ≤ cP zs i n m ∧ (n ≠ 0 → cP zs i n m < 33 * 64 ^ m)) (fun m => n - m) 0
        ⟨Nat.zero_le _, fun q h1 h2 => by omega, by rw [hcp0]; exact hcb.1, fun hn0 => by rw [hcp0]; have := hcb.2.2 hn0; simp; omega⟩ (Sub.pick (by simp [pickB, hget, hdel, FR.out, hcp0]) (by simp [look, hcp0])) ?_
      intro m ⟨m1, m2, m3, m4⟩
      have FR : Sm (¬ ((1 : Nat) = 0)) := Sm.mk Nat.one_ne_zero
      obtain ⟨c, hcc⟩ : ∃ c, c = cP zs i n m := ⟨_, rfl⟩
      rw [← hcc] at m3 m4 ⊢
      by_cases hmn : m + 1 ≤ n
      · have kk : decide (((m + 1 : Nat) : Int) ≤ (n : Int)) = true := decide_eq_true (by omega)
        have hn0 : n ≠ 0 := by omega
        have hob1 : ob = true := by rw [hob]; exact decide_eq_true (by omega)
        have m4 := m4 hn0
        have hm64 : (64 : Int) ^ m ≤ 4096 := by rcases (by omega : m = 0 ∨ m = 1 ∨ m = 2) with rfl | rfl | rfl <;> decide
        obtain ⟨p, hp⟩ : ∃ p, p = i + (m + 1) := ⟨_, rfl⟩
        have wp : IntKind.i64.wrap ((i : Int) + ((m + 1 : Nat) : Int)) = (p : Int) := by rw [wrap_i64 (by omega) (by omega)]; omega
        have bad2 : ¬ ctB zs p → T = (A ++ [-1]) ++ rnF zs f (i + 1) := fun hx => hbad fun h => hx (by rw [hp]; exact h.2.1 (m + 1) (by omega) hmn)
        obtain ⟨mm, hmm⟩ : ∃ mm, mm = m + 1 := ⟨_, rfl⟩
        rw [← hmm] at kk wp
        simp only [← hmm]
        have sm : IntKind.i64.wrap ((mm : Int) + 1) = ((mm + 1 : Nat) : Int) := by rw [wrap_i64 (by omega) (by omega)]; omega
        have wm1 : IntKind.i32.wrap (-1) = -1 := by decide
        by_cases hpl : p < zs.length
        · have kp : decide ((p : Int) ≥ (zs.length : Int)) = false := decide_eq_false (by omega)
          have hzp := hat2 p hpl
          have hbp := hb p hpl
          obtain ⟨y, hy⟩ : ∃ y, y = zs.getD p 0 := ⟨_, rfl⟩
          rw [← hy] at hzp hbp
          by_cases hy1 : y < 128
          · have ky : decide (y < 128) = true := decide_eq_true hy1
            have hT2 := bad2 (fun h => by have := h.2.1; omega)
            first | (have FRx := FR; clear FRx) | have FR := fr0S
            have FA := Sm.mk (And.intro TFTxE (And.intro hs (And.intro kk (And.intro wp (And.intro kp (And.intro hzp (And.intro t1 (And.intro ky (And.intro s1 (And.intro haA (And.intro l1 l2)))))))))))
            repeat' first | (apply Sm.mk; refine Ys ?_) | refine WP.seq fun K hK => ?_ | (apply Ob.mk; exact Yo) | refine And.intro (Ob.out ?_) ?_ | refine Y1TxE ?_ | refine YzTxE ?_ | (refine WP.cond rfl (fun hc => ?_) (fun hc => ?_) <;> (try simp only [ZC, reduceCtorEq, ZD] at hc) <;> (try exact absurd hc (by decide)) <;> (try (exfalso; omega))) | refine Rt.mk (And.intro (fun hg => Sm.out ?_) fun hg => Sm.out ?_) | (refine Nu.mk ?_; first | (fail_if_success have := nb1); intro nb1 | (fail_if_success have := nb2); intro nb2 | (fail_if_success have := nb3); intro nb3 | (fail_if_success have := nb4); intro nb4 | (fail_if_success have := nb5); intro nb5 | (fail_if_success have := nb6); intro nb6 | (fail_if_success have := nb7); intro nb7 | (fail_if_success have := nb8); intro nb8 | (fail_if_success have := nb9); intro nb9 | (fail_if_success have := nb10); intro nb10 | (fail_if_success have := nb11); intro nb11 | (fail_if_success have := nb12); intro nb12 | intro nbz) | (apply Yfr; refine Yf FR fun hFRb FR => ?_) | refine Two.mk ?_ ?_ | (apply Yxc; exact Yx) | refine Cs.mk fun hcs => Sm.out ?_ | go_step | omega | (simp only [maxLen_eq]; omega) | exact trivial
            refine ⟨⟨i + 1, f, A ++ [-1], nb3, nb4⟩, ⟨by simp only; omega, by simp only; omega, by simp only [List.length_append, List.length_cons, List.length_nil]; omega, by simp only [List.length_append, List.length_cons, List.length_nil]; omega, by simp only; omega, hT2⟩, by simp only; omega, (Sub.pick (by simp [pickB, hget, hdel, FR.out, haA]) (by simp [look, haA]))⟩
          have ky : decide (y < 128) = false := decide_eq_false hy1
          by_cases hy2 : y > 191
          · have ky2 : decide (y > 191) = true := decide_eq_true hy2
            have hT2 := bad2 (fun h => by have := h.2.2; omega)
            first | (have FRx := FR; clear FRx) | have FR := fr0S
            have FA := Sm.mk (And.intro TFTxE (And.intro hs (And.intro kk (And.intro wp (And.intro kp (And.intro hzp (And.intro t1 (And.intro ky (And.intro ky2 (And.intro s1 (And.intro haA (And.intro l1 l2))))))))))))
            repeat' first | (apply Sm.mk; refine Ys ?_) | refine WP.seq fun K hK => ?_ | (apply Ob.mk; exact Yo) | refine And.intro (Ob.out ?_) ?_ | refine Y1TxE ?_ | refine YzTxE ?_ | (refine WP.cond rfl (fun hc => ?_) (fun hc => ?_) <;> (try simp only [ZC, reduceCtorEq, ZD] at hc) <;> (try exact absurd hc (by decide)) <;> (try (exfalso; omega))) | refine Rt.mk (And.intro (fun hg => Sm.out ?_) fun hg => Sm.out ?_) | (refine Nu.mk ?_; first | (fail_if_success have := nb1); intro nb1 | (fail_if_success have := nb2); intro nb2 | (fail_if_success have := nb3); intro nb3 | (fail_if_success have := nb4); intro nb4 | (fail_if_success have := nb5); intro nb5 | (fail_if_success have := nb6); intro nb6 | (fail_if_success have := nb7); intro nb7 | (fail_if_success have := nb8); intro nb8 | (fail_if_success have := nb9); intro nb9 | (fail_if_success have := nb10); intro nb10 | (fail_if_success have := nb11); intro nb11 | (fail_if_success have := nb12); intro nb12 | intro nbz) | (apply Yfr; refine Yf FR fun hFRb FR => ?_) | refine Two.mk ?_ ?_ | (apply Yxc; exact Yx) | refine Cs.mk fun hcs => Sm.out ?_ | go_step | omega | (simp only [maxLen_eq]; omega) | exact trivial
            refine ⟨⟨i + 1, f, A ++ [-1], nb3, nb4⟩, ⟨by simp only; omega, by simp only; omega, by simp only [List.length_append, List.length_cons, List.length_nil]; omega, by simp only [List.length_append, List.length_cons, List.length_nil]; omega, by simp only; omega, hT2⟩, by simp only; omega, (Sub.pick (by simp [pickB, hget, hdel, FR.out, haA]) (by simp [look, haA]))⟩
          have ky2 : decide (y > 191) = false := decide_eq_false hy2
          have hcn : cP zs i n mm = 64 * c + y - 128 := by rw [hmm, cP_succ, ← hcc, ← hp, ← hy]
          have v1 : IntKind.i32.wrap (64 * c) = 64 * c := wrap_i32 (by omega) (by omega)
          have v2 : IntKind.i32.wrap y = y := wrap_i32 (by omega) (by omega)
          have v3 : IntKind.i32.wrap (64 * c + y) = 64 * c + y := wrap_i32 (by omega) (by omega)
          have v4 : IntKind.i32.wrap (64 * c + y - 128) = cP zs i n mm := by rw [hcn, wrap_i32 (by omega) (by omega)]
          have hzp2 : ((B.data[p]?.getD 0).toNat : Int) = y := by simpa using hzp
          first | (have FRx := FR; clear FRx) | have FR := fr0S
          have FA := Sm.mk (And.intro TFTxE (And.intro hs (And.intro kk (And.intro wp (And.intro kp (And.intro hzp (And.intro t1 (And.intro ky (And.intro ky2 (And.intro v1 (And.intro v2 (And.intro v3 (And.intro v4 sm)))))))))))))
          repeat' first | (apply Sm.mk; refine Ys ?_) | refine WP.seq fun K hK => ?_ | (apply Ob.mk; exact Yo) | refine And.intro (Ob.out ?_) ?_ | refine Y1TxE ?_ | refine YzTxE ?_ | (refine WP.cond rfl (fun hc => ?_) (fun hc => ?_) <;> (try simp only [ZC, reduceCtorEq, ZD] at hc) <;> (try exact absurd hc (by decide)) <;> (try (exfalso; omega))) | refine Rt.mk (And.intro (fun hg => Sm.out ?_) fun hg => Sm.out ?_) | (refine Nu.mk ?_; first | (fail_if_success have := nb1); intro nb1 | (fail_if_success have := nb2); intro nb2 | (fail_if_success have := nb3); intro nb3 | (fail_if_success have := nb4); intro nb4 | (fail_if_success have := nb5); intro nb5 | (fail_if_success have := nb6); intro nb6 | (fail_if_success have := nb7); intro nb7 | (fail_if_success have := nb8); intro nb8 | (fail_if_success have := nb9); intro nb9 | (fail_if_success have := nb10); intro nb10 | (fail_if_success have := nb11); intro nb11 | (fail_if_success have := nb12); intro nb12 | intro nbz) | (apply Yfr; refine Yf FR fun hFRb FR => ?_) | refine Two.mk ?_ ?_ | (apply Yxc; exact Yx) | refine Cs.mk fun hcs => Sm.out ?_ | go_step | omega | (simp only [maxLen_eq]; omega) | exact trivial
          refine ⟨mm, ⟨by omega, fun q h1 h2 => ?_, by rw [hcn]; omega, fun _ => ?_⟩, by omega, (Sub.pick (by simp [pickB, hget, hdel, FR.out, hzp2, v2, v3, v4]) (by simp [look, hzp2, v2, v3, v4]))⟩
          · by_cases hq : q ≤ m
            · exact m2 q h1 hq
            · obtain rfl : q = m + 1 := by omega
              rw [← hp]; exact ⟨hpl, by omega, by omega⟩
          · rw [hcn, hmm, Int.pow_succ]; omega
        · have kp : decide ((p : Int) ≥ (zs.length : Int)) = true := decide_eq_true (by omega)
          have hT2 := bad2 (fun h => hpl h.1)
          first | (have FRx := FR; clear FRx) | have FR := fr0S
          have FA := Sm.mk (And.intro TFTxE (And.intro hs (And.intro kk (And.intro wp (And.intro kp (And.intro t1 (And.intro s1 (And.intro haA (And.intro l1 l2)))))))))
          repeat' first | (apply Sm.mk; refine Ys ?_) | refine WP.seq fun K hK => ?_ | (apply Ob.mk; exact Yo) | refine And.intro (Ob.out ?_) ?_ | refine Y1TxE ?_ | refine YzTxE ?_ | (refine WP.cond rfl (fun hc => ?_) (fun hc => ?_) <;> (try simp only [ZC, reduceCtorEq, ZD] at hc) <;> (try exact absurd hc (by decide)) <;> (try (exfalso; omega))) | refine Rt.mk (And.intro (fun hg => Sm.out ?_) fun hg => Sm.out ?_) | (refine Nu.mk ?_; first | (fail_if_success have := nb1); intro nb1 | (fail_if_success have := nb2); intro nb2 | (fail_if_success have := nb3); intro nb3 | (fail_if_success have := nb4); intro nb4 | (fail_if_success have := nb5); intro nb5 | (fail_if_success have := nb6); intro nb6 | (fail_if_success have := nb7); intro nb7 | (fail_if_success have := nb8); intro nb8 | (fail_if_success have := nb9); intro nb9 | (fail_if_success have := nb10); intro nb10 | (fail_if_success have := nb11); intro nb11 | (fail_if_success have := nb12); intro nb12 | intro nbz) | (apply Yfr; refine Yf FR fun hFRb FR => ?_) | refine Two.mk ?_ ?_ | (apply Yxc; exact Yx) | refine Cs.mk fun hcs => Sm.out ?_ | go_step | omega | (simp only [maxLen_eq]; omega) | exact trivial
          refine ⟨⟨i + 1, f, A ++ [-1], nb3, nb4⟩, ⟨by simp only; omega, by simp only; omega, by simp only [List.length_append, List.length_cons, List.length_nil]; omega, by simp only [List.length_append, List.length_cons, List.length_nil]; omega, by simp only; omega, hT2⟩, by simp only; omega, (Sub.pick (by simp [pickB, hget, hdel, FR.out, haA]) (by simp [look, haA]))⟩
      · obtain rfl : m = n := by omega
        have kk : decide (((m + 1 : Nat) : Int) ≤ (m : Int)) = false := decide_eq_false (by omega)
        obtain ⟨mm, hmm⟩ : ∃ mm, mm = m + 1 := ⟨_, rfl⟩
        rw [← hmm] at kk
        simp only [← hmm]
        by_cases hm0 : m = 0
        · have hob0 : ob = false := by rw [hob]; exact decide_eq_false (by omega)
          subst hob0
          have hT2 := hbad fun h => h.1 hm0
          first | (have FRx := FR; clear FRx) | have FR := fr0S
          have FA := Sm.mk (And.intro TFTxE (And.intro hs (And.intro kk (And.intro s1 (And.intro haA (And.intro l1 l2))))))
          repeat' first | (apply Sm.mk; refine Ys ?_) | refine WP.seq fun K hK => ?_ | (apply Ob.mk; exact Yo) | refine And.intro (Ob.out ?_) ?_ | refine Y1TxE ?_ | refine YzTxE ?_ | (refine WP.cond rfl (fun hc => ?_) (fun hc => ?_) <;> (try simp only [ZC, reduceCtorEq, ZD] at hc) <;> (try exact absurd hc (by decide)) <;> (try (exfalso; omega))) | refine Rt.mk (And.intro (fun hg => Sm.out ?_) fun hg => Sm.out ?_) | (refine Nu.mk ?_; first | (fail_if_success have := nb1); intro nb1 | (fail_if_success have := nb2); intro nb2 | (fail_if_success have := nb3); intro nb3 | (fail_if_success have := nb4); intro nb4 | (fail_if_success have := nb5); intro nb5 | (fail_if_success have := nb6); intro nb6 | (fail_if_success have := nb7); intro nb7 | (fail_if_success have := nb8); intro nb8 | (fail_if_success have := nb9); intro nb9 | (fail_if_success have := nb10); intro nb10 | (fail_if_success have := nb11); intro nb11 | (fail_if_success have := nb12); intro nb12 | intro nbz) | (apply Yfr; refine Yf FR fun hFRb FR => ?_) | refine Two.mk ?_ ?_ | (apply Yxc; exact Yx) | refine Cs.mk fun hcs => Sm.out ?_ | go_step | omega | (simp only [maxLen_eq]; omega) | exact trivial
          refine ⟨⟨i + 1, f, A ++ [-1], nb3, nb4⟩, ⟨by simp only; omega, by simp only; omega, by simp only [List.length_append, List.length_cons, List.length_nil]; omega, by simp only [List.length_append, List.length_cons, List.length_nil]; omega, by simp only; omega, hT2⟩, by simp only; omega, (Sub.pick (by simp [pickB, hget, hdel, FR.out, haA]) (by simp [look, haA]))⟩
        have hob1 : ob = true := by rw [hob]; exact decide_eq_true (by omega)
        subst hob1
        have m4 := m4 hm0
        have hm64 : (64 : Int) ^ m ≤ 262144 := by rcases (by omega : m = 0 ∨ m = 1 ∨ m = 2 ∨ m = 3) with rfl | rfl | rfl | rfl <;> decide
        have hend := (m2 m (by omega) (Nat.le_refl _)).1
        obtain ⟨b1, b2, b3, b4, p1, p2, p3, p4, hbs⟩ : ∃ b1 b2 b3 b4 : Bool, decide (c < ls) = b1 ∧ decide (c > 1114111) = b2 ∧ decide (c ≥ 55296) = b3 ∧ decide (c < 57344) = b4 ∧
            (((b1 = true ∨ (b1 = false ∧ b2 = true) ∨ (b1 = false ∧ b2 = false ∧ b3 = true ∧ b4 = true)) ∧ ¬ fitR m c) ∨ ((b1 = false ∧ b2 = false ∧ b3 = false ∨ b1 = false ∧ b2 = false ∧ b3 = true ∧ b4 = false) ∧ fitR m c)) := by
          refine ⟨_, _, _, _, rfl, rfl, rfl, rfl, ?_⟩
          unfold fitR
          rw [← hls]
          by_cases h1 : c < ls
          · exact .inl ⟨.inl (decide_eq_true h1), fun h => by omega⟩
          by_cases h2 : c > 1114111
          · exact .inl ⟨.inr (.inl ⟨decide_eq_false h1, decide_eq_true h2⟩), fun h => by omega⟩
          by_cases h3 : c ≥ 55296
          · by_cases h4 : c < 57344
            · exact .inl ⟨.inr (.inr ⟨decide_eq_false h1, decide_eq_false h2, decide_eq_true h3, decide_eq_true h4⟩), fun h => by omega⟩
            · exact .inr ⟨.inr ⟨decide_eq_false h1, decide_eq_false h2, decide_eq_true h3, decide_eq_false h4⟩, by omega⟩
          · exact .inr ⟨.inl ⟨decide_eq_false h1, decide_eq_false h2, decide_eq_false h3⟩, by omega⟩
        rcases hbs with ⟨hbs, hfit⟩ | ⟨hbs, hfit⟩
        · have hT2 := hbad fun h => hfit (by rw [hcc]; exact h.2.2)
          rcases hbs with rfl | ⟨rfl, rfl⟩ | ⟨rfl, rfl, rfl, rfl⟩
          all_goals (
              first | (have FRx := FR; clear FRx) | have FR := fr0S
              have FA := Sm.mk (And.intro TFTxE (And.intro hs (And.intro kk (And.intro s1 (And.intro p1 (And.intro p2 (And.intro p3 (And.intro p4 (And.intro haA (And.intro l1 l2))))))))))
              repeat' first | (apply Sm.mk; refine Ys ?_) | refine WP.seq fun K hK => ?_ | (apply Ob.mk; exact Yo) | refine And.intro (Ob.out ?_) ?_ | refine Y1TxE ?_ | refine YzTxE ?_ | (refine WP.cond rfl (fun hc => ?_) (fun hc => ?_) <;> (try simp only [ZC, reduceCtorEq, ZD] at hc) <;> (try exact absurd hc (by decide)) <;> (try (exfalso; omega))) | refine Rt.mk (And.intro (fun hg => Sm.out ?_) fun hg => Sm.out ?_) | (refine Nu.mk ?_; first | (fail_if_success have := nb1); intro nb1 | (fail_if_success have := nb2); intro nb2 | (fail_if_success have := nb3); intro nb3 | (fail_if_success have := nb4); intro nb4 | (fail_if_success have := nb5); intro nb5 | (fail_if_success have := nb6); intro nb6 | (fail_if_success have := nb7); intro nb7 | (fail_if_success have := nb8); intro nb8 | (fail_if_success have := nb9); intro nb9 | (fail_if_success have := nb10); intro nb10 | (fail_if_success have := nb11); intro nb11 | (fail_if_success have := nb12); intro nb12 | intro nbz) | (apply Yfr; refine Yf FR fun hFRb FR => ?_) | refine Two.mk ?_ ?_ | (apply Yxc; exact Yx) | refine Cs.mk fun hcs => Sm.out ?_ | go_step | omega | (simp only [maxLen_eq]; omega) | exact trivial)
          all_goals exact ⟨⟨i + 1, f, A ++ [-1], nb3, nb4⟩, ⟨by simp only; omega, by simp only; omega, by simp only [List.length_append, List.length_cons, List.length_nil]; omega, by simp only [List.length_append, List.length_cons, List.length_nil]; omega, by simp only; omega, hT2⟩, by simp only; omega, (Sub.pick (by simp [pickB, hget, hdel, FR.out, haA]) (by simp [look, haA]))⟩
        · have hT2 := hgood ⟨hm0, m2, by rw [← hcc]; exact hfit⟩
          rw [← hcc] at hT2
          have s2 : IntKind.i64.wrap (((i + 1 : Nat) : Int) + (m : Int)) = ((i + (m + 1) : Nat) : Int) := by rw [wrap_i64 (by omega) (by omega)]; omega
          rcases hbs with ⟨rfl, rfl, rfl⟩ | ⟨rfl, rfl, rfl, rfl⟩
          all_goals (
              first | (have FRx := FR; clear FRx) | have FR := fr0S
              have FA := Sm.mk (And.intro TFTxE (And.intro hs (And.intro kk (And.intro s1 (And.intro s2 (And.intro p1 (And.intro p2 (And.intro p3 (And.intro p4 (And.intro haA (And.intro l1 l2)))))))))))
              repeat' first | (apply Sm.mk; refine Ys ?_) | refine WP.seq fun K hK => ?_ | (apply Ob.mk; exact Yo) | refine And.intro (Ob.out ?_) ?_ | refine Y1TxE ?_ | refine YzTxE ?_ | (refine WP.cond rfl (fun hc => ?_) (fun hc => ?_) <;> (try simp only [ZC, reduceCtorEq, ZD] at hc) <;> (try exact absurd hc (by decide)) <;> (try (exfalso; omega))) | refine Rt.mk (And.intro (fun hg => Sm.out ?_) fun hg => Sm.out ?_) | (refine Nu.mk ?_; first | (fail_if_success have := nb1); intro nb1 | (fail_if_success have := nb2); intro nb2 | (fail_if_success have := nb3); intro nb3 | (fail_if_success have := nb4); intro nb4 | (fail_if_success have := nb5); intro nb5 | (fail_if_success have := nb6); intro nb6 | (fail_if_success have := nb7); intro nb7 | (fail_if_success have := nb8); intro nb8 | (fail_if_success have := nb9); intro nb9 | (fail_if_success have := nb10); intro nb10 | (fail_if_success have := nb11); intro nb11 | (fail_if_success have := nb12); intro nb12 | intro nbz) | (apply Yfr; refine Yf FR fun hFRb FR => ?_) | refine Two.mk ?_ ?_ | (apply Yxc; exact Yx) | refine Cs.mk fun hcs => Sm.out ?_ | go_step | omega | (simp only [maxLen_eq]; omega) | exact trivial)
          all_goals exact ⟨⟨i + (m + 1), f, A ++ [c], nb3, nb4⟩, ⟨by simp only; omega, by simp only; omega, by simp only [List.length_append, List.length_cons, List.length_nil]; omega, by simp only [List.length_append, List.length_cons, List.length_nil]; omega, by simp only; omega, hT2⟩, by simp only; omega, (Sub.pick (by simp [pickB, hget, hdel, FR.out, haA]) (by simp [look, haA]))⟩
    clear hK2
    by_cases n1 : 192 ≤ z ∧ z < 224
    · have en : n = 1 := by rw [hn]; unfold nB; rw [if_pos n1]
      have ec : c0 = z - 192 := by rw [hc0, en]; rfl
      have el : ls = 128 := by rw [hls, en]; rfl
      have v1 : IntKind.i32.wrap (z - 192) = c0 := by rw [wrap_i32 (by omega) (by omega), ec]
      have a1 : decide (z ≥ 192) = true := decide_eq_true n1.1
      have a2 : decide (z < 224) = true := decide_eq_true n1.2
      first | (have FRx := FR; clear FRx) | have FR := fr0S
      have FA := Sm.mk (And.intro TFTxE (And.intro k0 (And.intro a1 (And.intro a2 v1))))
      repeat' first | (apply Sm.mk; refine Ys ?_) | refine WP.seq fun K hK => ?_ | (apply Ob.mk; exact Yo) | refine And.intro (Ob.out ?_) ?_ | refine Y1TxE ?_ | refine YzTxE ?_ | (refine WP.cond rfl (fun hc => ?_) (fun hc => ?_) <;> (try simp only [ZC, reduceCtorEq, ZD] at hc) <;> (try exact absurd hc (by decide)) <;> (try (exfalso; omega))) | refine Rt.mk (And.intro (fun hg => Sm.out ?_) fun hg => Sm.out ?_) | (refine Nu.mk ?_; first | (fail_if_success have := nb1); intro nb1 | (fail_if_success have := nb2); intro nb2 | (fail_if_success have := nb3); intro nb3 | (fail_if_success have := nb4); intro nb4 | (fail_if_success have := nb5); intro nb5 | (fail_if_success have := nb6); intro nb6 | (fail_if_success have := nb7); intro nb7 | (fail_if_success have := nb8); intro nb8 | (fail_if_success have := nb9); intro nb9 | (fail_if_success have := nb10); intro nb10 | (fail_if_success have := nb11); intro nb11 | (fail_if_success have := nb12); intro nb12 | intro nbz) | (apply Yfr; refine Yf FR fun hFRb FR => ?_) | refine Two.mk ?_ ?_ | (apply Yxc; exact Yx) | refine Cs.mk fun hcs => Sm.out ?_ | go_step | omega | (simp only [maxLen_eq]; omega) | exact trivial
      exact cont.out _ (Sub.pick (by simp [pickB, hget, hdel, FR.out, en, el, v1]) (by simp [look, en, el, v1]))
    by_cases n2 : 224 ≤ z ∧ z < 240
    · have en : n = 2 := by rw [hn]; unfold nB; rw [if_neg n1, if_pos n2]
      have ec : c0 = z - 224 := by rw [hc0, en]; rfl
      have el : ls = 2048 := by rw [hls, en]; rfl
      have v1 : IntKind.i32.wrap (z - 224) = c0 := by rw [wrap_i32 (by omega) (by omega), ec]
      have a1 : decide (z ≥ 192) = true := decide_eq_true (by omega)
      have a2 : decide (z < 224) = false := decide_eq_false (by omega)
      have a3 : decide (z ≥ 224) = true := decide_eq_true n2.1
      have a4 : decide (z < 240) = true := decide_eq_true n2.2
      first | (have FRx := FR; clear FRx) | have FR := fr0S
      have FA := Sm.mk (And.intro TFTxE (And.intro k0 (And.intro a1 (And.intro a2 (And.intro a3 (And.intro a4 v1))))))
      repeat' first | (apply Sm.mk; refine Ys ?_) | refine WP.seq fun K hK => ?_ | (apply Ob.mk; exact Yo) | refine And.intro (Ob.out ?_) ?_ | refine Y1TxE ?_ | refine YzTxE ?_ | (refine WP.cond rfl (fun hc => ?_) (fun hc => ?_) <;> (try simp only [ZC, reduceCtorEq, ZD] at hc) <;> (try exact absurd hc (by decide)) <;> (try (exfalso; omega))) | refine Rt.mk (And.intro (fun hg => Sm.out ?_) fun hg => Sm.out ?_) | (refine Nu.mk ?_; first | (fail_if_success have := nb1); intro nb1 | (fail_if_success have := nb2); intro nb2 | (fail_if_success have := nb3); intro nb3 | (fail_if_success have := nb4); intro nb4 | (fail_if_success have := nb5); intro nb5 | (fail_if_success have := nb6); intro nb6 | (fail_if_success have := nb7); intro nb7 | (fail_if_success have := nb8); intro nb8 | (fail_if_success have := nb9); intro nb9 | (fail_if_success have := nb10); intro nb10 | (fail_if_success have := nb11); intro nb11 | (fail_if_success have := nb12); intro nb12 | intro nbz) | (apply Yfr; refine Yf FR fun hFRb FR => ?_) | refine Two.mk ?_ ?_ | (apply Yxc; exact Yx) | refine Cs.mk fun hcs => Sm.out ?_ | go_step | omega | (simp only [maxLen_eq]; omega) | exact trivial
      exact cont.out _ (Sub.pick (by simp [pickB, hget, hdel, FR.out, en, el, v1]) (by simp [look, en, el, v1]))
    by_cases n3 : 240 ≤ z ∧ z < 248
    · have en : n = 3 := by rw [hn]; unfold nB; rw [if_neg n1, if_neg n2, if_pos n3]
      have ec : c0 = z - 240 := by rw [hc0, en]; rfl
      have el : ls = 65536 := by rw [hls, en]; rfl
      have v1 : IntKind.i32.wrap (z - 240) = c0 := by rw [wrap_i32 (by omega) (by omega), ec]
      have a1 : decide (z ≥ 192) = true := decide_eq_true (by omega)
      have a2 : decide (z < 224) = false := decide_eq_false (by omega)
      have a3 : decide (z ≥ 224) = true := decide_eq_true (by omega)
      have a4 : decide (z < 240) = false := decide_eq_false (by omega)
      have a5 : decide (z ≥ 240) = true := decide_eq_true n3.1
      have a6 : decide (z < 248) = true := decide_eq_true n3.2
      first | (have FRx := FR; clear FRx) | have FR := fr0S
      have FA := Sm.mk (And.intro TFTxE (And.intro k0 (And.intro a1 (And.intro a2 (And.intro a3 (And.intro a4 (And.intro a5 (And.intro a6 v1))))))))
      repeat' first | (apply Sm.mk; refine Ys ?_) | refine WP.seq fun K hK => ?_ | (apply Ob.mk; exact Yo) | refine And.intro (Ob.out ?_) ?_ | refine Y1TxE ?_ | refine YzTxE ?_ | (refine WP.cond rfl (fun hc => ?_) (fun hc => ?_) <;> (try simp only [ZC, reduceCtorEq, ZD] at hc) <;> (try exact absurd hc (by decide)) <;> (try (exfalso; omega))) | refine Rt.mk (And.intro (fun hg => Sm.out ?_) fun hg => Sm.out ?_) | (refine Nu.mk ?_; first | (fail_if_success have := nb1); intro nb1 | (fail_if_success have := nb2); intro nb2 | (fail_if_success have := nb3); intro nb3 | (fail_if_success have := nb4); intro nb4 | (fail_if_success have := nb5); intro nb5 | (fail_if_success have := nb6); intro nb6 | (fail_if_success have := nb7); intro nb7 | (fail_if_success have := nb8); intro nb8 | (fail_if_success have := nb9); intro nb9 | (fail_if_success have := nb10); intro nb10 | (fail_if_success have := nb11); intro nb11 | (fail_if_success have := nb12); intro nb12 | intro nbz) | (apply Yfr; refine Yf FR fun hFRb FR => ?_) | refine Two.mk ?_ ?_ | (apply Yxc; exact Yx) | refine Cs.mk fun hcs => Sm.out ?_ | go_step | omega | (simp only [maxLen_eq]; omega) | exact trivial
      exact cont.out _ (Sub.pick (by simp [pickB, hget, hdel, FR.out, en, el, v1]) (by simp [look, en, el, v1]))
    · have en : n = 0 := by rw [hn]; unfold nB; rw [if_neg n1, if_neg n2, if_neg n3]
      have ec : c0 = z := by rw [hc0, en]; show z - 0 = z; omega
      have el : ls = 0 := by rw [hls, en]; rfl
      obtain ⟨b1, b2, a1, a2, hbs⟩ : ∃ b1 b2 : Bool, decide (z ≥ 192) = b1 ∧ decide (z < 248) = b2 ∧ (b1 = false ∨ b1 = true ∧ b2 = false) := by
        refine ⟨_, _, rfl, rfl, ?_⟩
        by_cases h : 192 ≤ z
        · exact .inr ⟨decide_eq_true h, decide_eq_false (by omega)⟩
        · exact .inl (decide_eq_false h)
      rcases hbs with rfl | ⟨rfl, rfl⟩
      · have hlo : z < 192 := by simpa using a1
        have a3 : decide (z ≥ 224) = false := decide_eq_false (by omega)
        have a5 : decide (z ≥ 240) = false := decide_eq_false (by omega)
        first | (have FRx := FR; clear FRx) | have FR := fr0S
        have FA := Sm.mk (And.intro TFTxE (And.intro k0 (And.intro a1 (And.intro a2 (And.intro a3 a5)))))
        repeat' first | (apply Sm.mk; refine Ys ?_) | refine WP.seq fun K hK => ?_ | (apply Ob.mk; exact Yo) | refine And.intro (Ob.out ?_) ?_ | refine Y1TxE ?_ | refine YzTxE ?_ | (refine WP.cond rfl (fun hc => ?_) (fun hc => ?_) <;> (try simp only [ZC, reduceCtorEq, ZD] at hc) <;> (try exact absurd hc (by decide)) <;> (try (exfalso; omega))) | refine Rt.mk (And.intro (fun hg => Sm.out ?_) fun hg => Sm.out ?_) | (refine Nu.mk ?_; first | (fail_if_success have := nb1); intro nb1 | (fail_if_success have := nb2); intro nb2 | (fail_if_success have := nb3); intro nb3 | (fail_if_success have := nb4); intro nb4 | (fail_if_success have := nb5); intro nb5 | (fail_if_success have := nb6); intro nb6 | (fail_if_success have := nb7); intro nb7 | (fail_if_success have := nb8); intro nb8 | (fail_if_success have := nb9); intro nb9 | (fail_if_success have := nb10); intro nb10 | (fail_if_success have := nb11); intro nb11 | (fail_if_success have := nb12); intro nb12 | intro nbz) | (apply Yfr; refine Yf FR fun hFRb FR => ?_) | refine Two.mk ?_ ?_ | (apply Yxc; exact Yx) | refine Cs.mk fun hcs => Sm.out ?_ | go_step | omega | (simp only [maxLen_eq]; omega) | exact trivial
        exact cont.out _ (Sub.pick (by simp [pickB, hget, hdel, FR.out, en, el, ec]) (by simp [look, en, el, ec]))
      · have hhi : 248 ≤ z := by simpa using a2
        have b2 : decide (z < 224) = false := decide_eq_false (by omega)
        have a3 : decide (z ≥ 224) = true := decide_eq_true (by omega)
        have a4 : decide (z < 240) = false := decide_eq_false (by omega)
        have a5 : decide (z ≥ 240) = true := decide_eq_true (by omega)
        first | (have FRx := FR; clear FRx) | have FR := fr0S
        have FA := Sm.mk (And.intro TFTxE (And.intro k0 (And.intro a1 (And.intro a2 (And.intro b2 (And.intro a3 (And.intro a4 a5)))))))
        repeat' first | (apply Sm.mk; refine Ys ?_) | refine WP.seq fun K hK => ?_ | (apply Ob.mk; exact Yo) | refine And.intro (Ob.out ?_) ?_ | refine Y1TxE ?_ | refine YzTxE ?_ | (refine WP.cond rfl (fun hc => ?_) (fun hc => ?_) <;> (try simp only [ZC, reduceCtorEq, ZD] at hc) <;> (try exact absurd hc (by decide)) <;> (try (exfalso; omega))) | refine Rt.mk (And.intro (fun hg => Sm.out ?_) fun hg => Sm.out ?_) | (refine Nu.mk ?_; first | (fail_if_success have := nb1); intro nb1 | (fail_if_success have := nb2); intro nb2 | (fail_if_success have := nb3); intro nb3 | (fail_if_success have := nb4); intro nb4 | (fail_if_success have := nb5); intro nb5 | (fail_if_success have := nb6); intro nb6 | (fail_if_success have := nb7); intro nb7 | (fail_if_success have := nb8); intro nb8 | (fail_if_success have := nb9); intro nb9 | (fail_if_success have := nb10); intro nb10 | (fail_if_success have := nb11); intro nb11 | (fail_if_success have := nb12); intro nb12 | intro nbz) | (apply Yfr; refine Yf FR fun hFRb FR => ?_) | refine Two.mk ?_ ?_ | (apply Yxc; exact Yx) | refine Cs.mk fun hcs => Sm.out ?_ | go_step | omega | (simp only [maxLen_eq]; omega) | exact trivial
        exact cont.out _ (Sub.pick (by simp [pickB, hget, hdel, FR.out, en, el, ec]) (by simp [look, en, el, ec]))
  · obtain rfl : i = zs.length := by omega
    have ki : decide ((zs.length : Int) < (zs.length : Int)) = false := decide_eq_false (by omega)
    have eT : T = A := by
      rw [h6]
      cases f with
      | zero => exact List.append_nil _
      | succ f => rw [rnF_succ, if_neg (Nat.lt_irrefl _), List.append_nil]
    subst eT
    first | (have FRx := FR; clear FRx) | have FR := fr0S
    have FA := Sm.mk (And.intro TFTxE (And.intro hs ki))
    repeat' first | (apply Sm.mk; refine Ys ?_) | refine WP.seq fun K hK => ?_ | (apply Ob.mk; exact Yo) | refine And.intro (Ob.out ?_) ?_ | refine Y1TxE ?_ | refine YzTxE ?_ | (refine WP.cond rfl (fun hc => ?_) (fun hc => ?_) <;> (try simp only [ZC, reduceCtorEq, ZD] at hc) <;> (try exact absurd hc (by decide)) <;> (try (exfalso; omega))) | refine Rt.mk (And.intro (fun hg => Sm.out ?_) fun hg => Sm.out ?_) | (refine Nu.mk ?_; first | (fail_if_success have := nb1); intro nb1 | (fail_if_success have := nb2); intro nb2 | (fail_if_success have := nb3); intro nb3 | (fail_if_success have := nb4); intro nb4 | (fail_if_success have := nb5); intro nb5 | (fail_if_success have := nb6); intro nb6 | (fail_if_success have := nb7); intro nb7 | (fail_if_success have := nb8); intro nb8 | (fail_if_success have := nb9); intro nb9 | (fail_if_success have := nb10); intro nb10 | (fail_if_success have := nb11); intro nb11 | (fail_if_success have := nb12); intro nb12 | intro nbz) | (apply Yfr; refine Yf FR fun hFRb FR => ?_) | refine Two.mk ?_ ?_ | (apply Yxc; exact Yx) | refine Cs.mk fun hcs => Sm.out ?_ | go_step | omega | (simp only [maxLen_eq]; omega) | exact trivial
    (refine OutQ.row (by simp only [resv, ZK, look, loadv, loadn, loadnm, load1, load1m, hget, ↓reduceIte, Nat.reduceEqDiff, Nat.reduceAdd, Nat.reduceMul, Nat.reduceLeDiff, Nat.reduceLT, reduceCtorEq, TFTxE, FR.out, haA]) (by simp only [resv, resA, ZK, look, loadv, loadn, loadnm, load1, load1m, hget, ↓reduceIte, Nat.reduceEqDiff, Nat.reduceAdd, Nat.reduceMul, Nat.reduceLeDiff, Nat.reduceLT, reduceCtorEq, TFTxE, FR.out, haA]; first | done | rfl) (by simp only [hget, ↓reduceIte, if_true, if_false, FR.out, haA]; first | done | rfl) ?_ ?_ ?_ ?_ <;> first | omega | (simp only [maxLen_eq]; omega) | skip)
    all_goals rfl
end Go.Proofs.YtdkkfgcdnojmaaaDoor
