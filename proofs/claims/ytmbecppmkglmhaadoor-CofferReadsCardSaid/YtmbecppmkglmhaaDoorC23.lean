/-
  The walks and the laws that the statement leans on, part 23.
-/
import Derived.Test.YtmbecppmkglmhaaDoorC11
import Derived.Test.YtmbecppmkglmhaaDoorC17
import Derived.Test.YtmbecppmkglmhaaDoorC22
namespace Go.Proofs.YtmbecppmkglmhaaDoor
open Go
set_option linter.unusedVariables false
set_option linter.unusedSimpArgs false
theorem ub_map (x : Bs) : ub x = x.map (fun b => (b.toNat : Int)) := rfl
theorem ub_zrs (n : Nat) : ub (zrs n) = List.replicate n 0 := by simp [ub, zrs]
theorem ub_put (T x : Bs) (q : Nat) : put (ub T) q (ub x) = ub (put T q x) := by
  simp only [put, ub, List.map_append, List.map_take, List.map_drop, List.length_map]
theorem ub_mix (N T : Bs) (p : Nat) : mix (ub N) (ub T) p = ub (mix N T p) := by
  simp only [mix, ub, List.map_append, List.map_take, List.map_drop]
theorem put_mid {α : Type} (P R Q x : List α) {q : Nat} (h : q + x.length ≤ R.length) : put (P ++ (R ++ Q)) (P.length + q) x = P ++ (put R q x ++ Q) := by
  unfold put
  rw [List.take_length_add_append, Nat.add_assoc, List.drop_length_add_append, List.take_append_of_le_length (by omega), List.drop_append_of_le_length (by omega)]
  simp only [List.append_assoc]
theorem mix_mid {α : Type} {P N R Q : List α} {p : Nat} (hl : N.length = R.length) (hp : P.length ≤ p) : mix (P ++ (N ++ Q)) (P ++ (R ++ Q)) p = P ++ (mix N R (p - P.length) ++ Q) := by
  rw [mix_high hp]
  congr 1
  unfold mix
  rw [List.take_append, List.drop_append, hl, List.append_assoc, List.append_assoc]
  congr 1
  by_cases h : p - P.length ≤ R.length
  · rw [Nat.sub_eq_zero_of_le h, List.take_zero, List.drop_zero, List.nil_append]
  · rw [List.drop_of_length_le (by omega), List.nil_append, List.nil_append, List.take_append_drop]
structure Rg (s n f m : Nat) (P Q R : Bs) (a : DA) : Prop where
  st : Stl s n (ub (P ++ (R ++ Q))) a
  lP : P.length = f * s
  lR : R.length = m * s
structure Dg (s n f m : Nat) (P Q N R : Bs) (a : DA) : Prop where
  dk : a.dk = true
  cr : ∀ keep torn : Int, ∃ p, Rg s n f m P Q (mix N R p) (crA a keep torn)
theorem Rg.all {c s n f m : Nat} {P Q R : Bs} {a : DA} (hA : AOk c a) (h : Rg s n f m P Q R a) : P.length + R.length + Q.length = n * s := by
  have h1 := flat_len (size := s) a.S (by rw [← h.st.s]; exact hA.Sr)
  rw [h.st.T, hA.Sl, h.st.n, ub_len] at h1
  simp only [List.length_append] at h1
  omega
theorem lay_rg {c s n f m : Nat} {P Q R : Bs} {a : DA} (hA : AOk c a) (h : Rg s n f m P Q R a) (hfm : f + m ≤ n) (k : Nat) (z : Bs) (hz : k * s + z.length ≤ m * s) (hk : k ≤ m) (i : Nat) (hi : i = f + k) :
    ∃ j, k * s + z.length + j ≤ m * s ∧
    (((lyR a i (cks s (ub z))).2 = 0 ∧ Rg s n f m P Q (put R (k * s) (z ++ zrs j)) (lyR a i (cks s (ub z))).1 ∧ (a.f = -1 → (lyR a i (cks s (ub z))).1.f = -1)) ∨
     ((lyR a i (cks s (ub z))).2 = 12 ∧ a.f ≠ -1 ∧ Dg s n f m P Q (put R (k * s) (z ++ zrs j)) R (lyR a i (cks s (ub z))).1)) := by
  subst hi
  have hs1 : 1 ≤ s := by have := hA.s1; have := h.st.s; omega
  have hzl : (ub z).length ≤ (m - k) * s := by rw [ub_len, Nat.sub_mul]; omega
  have hK := cks_len_le hs1 hzl
  obtain ⟨-, p2, -⟩ := cks_pads hs1 _ (ub z) (Nat.le_refl _)
  have hsp := lyR_spec hA h.st (f + k) (ub z) (by omega)
  obtain ⟨K, hKe⟩ : ∃ K, K = (cks s (ub z)).length := ⟨_, rfl⟩
  rw [← hKe] at hsp hK p2
  rw [ub_len] at p2
  have hKm : k * s + K * s ≤ m * s := by rw [← Nat.add_mul]; exact Nat.mul_le_mul_right s (by omega)
  have hj : z.length + (K * s - z.length) = K * s := by omega
  refine ⟨K * s - z.length, by omega, ?_⟩
  have e1 : ub z ++ List.replicate (K * s - (ub z).length) 0 = ub (z ++ zrs (K * s - z.length)) := by rw [ub_append, ub_zrs, ub_len]
  have e2 : put (ub (P ++ (R ++ Q))) ((f + k) * s) (ub z ++ List.replicate (K * s - (ub z).length) 0) = ub (P ++ (put R (k * s) (z ++ zrs (K * s - z.length)) ++ Q)) := by
    rw [e1, ub_put, Nat.add_mul, ← h.lP, put_mid _ _ _ _ (by rw [h.lR]; simp only [List.length_append, zrs, List.length_replicate]; omega)]
  rw [e2] at hsp
  have lp : (put R (k * s) (z ++ zrs (K * s - z.length))).length = R.length := put_len (by rw [h.lR]; simp only [List.length_append, zrs, List.length_replicate]; omega)
  rcases hsp with ⟨s1, s2, s3⟩ | ⟨s1, s2, s3⟩
  · exact .inl ⟨s1, ⟨s2, h.lP, lp.trans h.lR⟩, s3⟩
  · refine .inr ⟨s1, s2, s3.dk, fun keep torn => ?_⟩
    obtain ⟨p, hp1, hp2⟩ := s3.cr keep torn
    rw [ub_mix, mix_mid lp (by rw [h.lP]; have := Nat.mul_le_mul_right s (Nat.le_add_right f k); omega)] at hp2
    exact ⟨p - P.length, hp2, h.lP, (mix_len lp _).trans h.lR⟩
theorem put_data (R F : Bs) (u s j : Nat) (hu : u + F.length + j ≤ R.length) : put R (u / s * s) (((R.take u).drop (u / s * s) ++ F) ++ zrs j) = R.take u ++ (F ++ zrs j ++ R.drop (u + F.length + j)) := by
  have hd := Nat.div_mul_le_self u s
  obtain ⟨q, hq⟩ : ∃ q, q = u / s * s := ⟨_, rfl⟩
  rw [← hq] at hd ⊢
  unfold put
  have l1 : ((R.take u).drop q).length = u - q := by simp only [List.length_drop, List.length_take]; omega
  have e1 : R.take q = (R.take u).take q := by rw [List.take_take, Nat.min_eq_left hd]
  have e2 : q + ((((R.take u).drop q ++ F) ++ zrs j)).length = u + F.length + j := by simp only [List.length_append, l1, zrs, List.length_replicate]; omega
  rw [e2, e1]
  simp only [List.append_assoc]
  rw [← List.append_assoc (List.take q (List.take u R)), List.take_append_drop]
theorem put_frame (L : List Bs) (b : Bs) (w s j : Nat) (hj : usd L + (b.length + 10) + j ≤ usd L + w) :
    put (frs L ++ zrs w) (usd L / s * s) ((((frs L ++ zrs w).take (usd L)).drop (usd L / s * s) ++ frameB b) ++ zrs j) = frs (L ++ [b]) ++ zrs (w - (b.length + 10)) := by
  have hl : (frs L ++ zrs w).length = usd L + w := by simp [usd, zrs]
  rw [put_data _ _ _ _ _ (by rw [hl, frame_len]; omega), frame_len]
  have e1 : (frs L ++ zrs w).take (usd L) = frs L := by unfold usd; rw [List.take_append_of_le_length (Nat.le_refl _), List.take_length]
  have e2 : (frs L ++ zrs w).drop (usd L + (b.length + 10) + j) = zrs (w - (b.length + 10) - j) := by
    rw [List.drop_append, List.drop_of_length_le (by unfold usd at *; omega), List.nil_append]
    simp only [zrs, List.drop_replicate]
    congr 1
    unfold usd; omega
  rw [e1, e2, frs_snoc]
  simp only [List.append_assoc]
  congr 2
  simp only [zrs, List.replicate_append_replicate]
  congr 1; omega
theorem put_clean (R : Bs) (u s : Nat) (hu : u ≤ R.length) : put R (u / s * s) (((R.take u).drop (u / s * s) ++ zrs (R.length - u)) ++ zrs 0) = R.take u ++ zrs (R.length - u) := by
  rw [put_data _ _ _ _ _ (by simp [zrs]; omega)]
  congr 1
  rw [List.drop_of_length_le (by simp [zrs]; omega)]
  simp [zrs]
set_option linter.defProp false
def TFWlE :=
  And.intro (And.intro (And.intro (And.intro tyc0 (And.intro tyc3 zmb3)) (And.intro (And.intro tyc4 zmb4) (And.intro tyc5 zmb5))) (And.intro (And.intro tyc9 (And.intro zmb9 tyc22)) (And.intro (And.intro elt22 mkz22) (And.intro apT22 elk22)))) (And.intro (And.intro (And.intro zmb22 (And.intro elt118 tyc119)) (And.intro (And.intro tyc122 zmb122) (And.intro arr1118 Tryd.underlying0))) (And.intro (And.intro (And.intro Tryd.underlying3 Tryd.underlying4) (And.intro Tryd.underlying5 Tryd.underlying9)) (And.intro (And.intro Tryd.underlying22 Tryd.underlying118) (And.intro Tryd.underlying119 Tryd.underlying122))))
theorem Y1WlE {G R : Prop} (r : R) (h : R → G := by intro r; first | (apply WP.region; exact rvc_sound _ _ (Sm.out r)) | exact WP.drawK rfl mixed (by decide +kernel) (Sm.out r) | (apply WP.block; exact r) | (apply WP.skip; exact Yq r) | (apply WP.exit; exact Yq r) | (apply WP.ret; exact Sm.out r) | exact WP.cond rfl (fun _ => r) (fun hg => absurd hg (by decide)) | exact WP.cond rfl (fun hg => absurd hg (by decide)) (fun _ => r) | exact Rt.mk (And.intro (fun _ => Sm.out r) fun hg => absurd hg (by decide)) | exact Rt.mk (And.intro (fun hg => absurd hg (by decide)) fun _ => Sm.out r)) : G := h r
theorem YzWlE {G R : Prop} (r : R) (h : R → G := by intro r; first | (apply ExG.no; exact Sm.out r) | (apply Or.inl; apply ExG.no; exact Sm.out r) | exact Or.inl (And.intro (fun hg => absurd hg (by decide)) (ExG.no (Sm.out r)))) : G := h r
theorem YsWlE0 {P Q : Prop} (q : Q) (h : P = Q := by (try (conv => lhs; simp -dsimp only [ZK, rvc, capA, appA, litL, mkfv, drawF, headN, pureH, stp, dvc, calleeOf, gcall, pev, eff, newB, okd, og, ogs, ogo, ogp, slv, bltv, opd, litv, strip, one, both, putE, St.put, look, gdOf, gdv, picka, pickv, pickw, binv, bini, bins, binb, binp, binq, isSlT, bina, shp, eqCells, unv, convv, nilv, faddv, addp, idxav, idxp, load1, load1m, loadn, loadnm, loadv, hget, hset, hrep, hdel, slicev, slice3v, bnd, shift1, lenv, capv, IntKind.bits, extractv, fieldv, indexv, min2v, max2v, mkiv, tasv, tasz, cellsA, fillA, buildv, stC, oneC, rowMB, intsA, plN, appE, appZ, appC, appS, srcB, appNZ, appNC, VwL, srcC, srcZ, srcM, isBoolT, isPtrT, isSliceT, uOk, Value.oneCell', Nat.reducePow, Int.reducePow, Nat.reduceAdd, Nat.reduceMul, Nat.reduceSub, Nat.reduceLT, Nat.reduceLeDiff, Nat.reduceEqDiff, Nat.reduceBEq, Nat.reduceDiv, Nat.reduceMod, ↓reduceIte, reduceCtorEq, Int.reduceToNat, Int.reduceLT, Int.reduceLE, TFWlE, SeqQ, BlkQ, LoopQ, BodyQ, List.length_nil, FA.out, FR.out])) <;> exact rfl) : P := h.mpr q
theorem getD_mdl {pre post : List AV} {a b : AV} {i : Nat} (h : i ≠ pre.length) : (pre ++ a :: post).getD i .any = (pre ++ b :: post).getD i .any := by
  simp only [List.getD_eq_getElem?_getD]
  by_cases hlt : i < pre.length
  · rw [List.getElem?_append_left hlt, List.getElem?_append_left hlt]
  · rw [List.getElem?_append_right (by omega), List.getElem?_append_right (by omega)]
    obtain ⟨q, hq⟩ : ∃ q, i - pre.length = q + 1 := ⟨i - pre.length - 1, by omega⟩
    rw [hq, List.getElem?_cons_succ, List.getElem?_cons_succ]
theorem getD_atm {pre post : List AV} {a : AV} : (pre ++ a :: post).getD pre.length .any = a := by
  simp only [List.getD_eq_getElem?_getD]
  rw [List.getElem?_append_right (Nat.le_refl _), Nat.sub_self]; rfl
theorem arg_slz {f : Nat} {pre post : List AV} {k : IntKind} {zs : List Int} {T : Hp} {φ : AV → Hp → Prop}
    (h1 : 1 ≤ zs.length → ACt Tryd.prog f (pre ++ .slz k zs :: post) T φ) (h2 : zs = [] → ∀ cap, cap ≤ maxLen → ACt Tryd.prog f (pre ++ .lit (.slice none 0 cap) :: post) T φ)
    (h3 : zs = [] → ∀ ad cap, cap ≤ maxLen → ACt Tryd.prog f (pre ++ .lit (.slice (some ad) 0 cap) :: post) T φ) :
    ACt Tryd.prog f (pre ++ .slz k zs :: post) T φ := by
  by_cases hn1 : 1 ≤ zs.length
  · exact h1 hn1
  obtain rfl : zs = [] := List.eq_nil_of_length_eq_zero (by omega)
  intro cx vs hK hKT hw hs hv
  have h0 := hv pre.length (by simp)
  rw [getD_atm] at h0
  obtain ⟨a, cap, e, hm⟩ : ∃ a cap, Rep cx.w0 cx.I (vs.getD pre.length undef) (.lit (.slice a 0 cap)) ∧ cap ≤ maxLen := by
    generalize vs.getD pre.length undef = u at h0
    cases h0 with
    | slz a k zs cap hn hm h => exact ⟨a, cap, .lit _, hm⟩
  have hv' : ∀ i, i < (pre ++ .lit (.slice a 0 cap) :: post).length → Rep cx.w0 cx.I (vs.getD i undef) ((pre ++ .lit (.slice a 0 cap) :: post).getD i .any) := fun i hi => by
    by_cases hip : i = pre.length
    · subst hip; rw [getD_atm]; exact e
    · rw [getD_mdl hip]; exact hv i (by simpa using hi)
  have hs' : vs.size = (pre ++ .lit (.slice a 0 cap) :: post).length := by rw [hs]; simp
  cases a with
  | none => exact h2 rfl cap hm cx vs hK hKT hw hs' hv'
  | some ad => exact h3 rfl ad cap hm cx vs hK hKT hw hs' hv'
theorem rep_slz0 {w : World} {I : Nat → Prop} {v : Value} {a : Option Addr} {cap : Nat} {k : IntKind} (hm : cap ≤ maxLen) (h : Rep w I v (.lit (.slice a 0 cap))) : Rep w I v (.slz k []) := by
  have := h.lit_inv
  subst this
  exact .slz a k [] cap (Nat.zero_le _) hm (.inl rfl)
set_option maxRecDepth 20000 in
theorem bcl_ct (zs : List Int) (h2 : zs.length ≤ 1000000) : ACt Tryd.prog 52 [.slz .u8 zs] [] (Fn (.slz .u8 zs)) := by
  refine arg_slz (pre := []) (post := []) (fun h1 => ?_) (fun h cap hm => ?_) (fun h ad cap hm => ?_)
  · simp only [List.nil_append]
    have ht : zs.take zs.length = zs := List.take_length
    refine ACt.intro Tryd.func52 rfl (by kernel_rfl) (by simp [Tryd.ntmps52]) (fun cx => ?_)
    simp only [argE, Tryd.ntmps52, Tryd.results52]
    first | (have FRx := FR; clear FRx) | have FR := fr0S
    have FA := Sm.mk (And.intro TFWlE h1)
    repeat' first | (apply Sm.mk; refine Ys ?_) | refine WP.seq fun K hK => ?_ | (apply Ob.mk; exact Yo) | refine And.intro (Ob.out ?_) ?_ | refine Y1WlE ?_ | refine YzWlE ?_ | (refine WP.cond rfl (fun hc => ?_) (fun hc => ?_) <;> (try simp only [ZC, reduceCtorEq, ZD] at hc) <;> (try exact absurd hc (by decide)) <;> (try (exfalso; omega))) | refine Rt.mk (And.intro (fun hg => Sm.out ?_) fun hg => Sm.out ?_) | (refine Nu.mk ?_; first | (fail_if_success have := nb1); intro nb1 | (fail_if_success have := nb2); intro nb2 | (fail_if_success have := nb3); intro nb3 | (fail_if_success have := nb4); intro nb4 | (fail_if_success have := nb5); intro nb5 | (fail_if_success have := nb6); intro nb6 | intro nbz) | (apply Yfr; refine Yf FR fun hFRb FR => ?_) | refine Two.mk ?_ ?_ | (apply Yxc; exact Yx) | refine Cs.mk fun hcs => Sm.out ?_ | go_step | omega | (simp only [maxLen_eq]; omega) | exact trivial
    (refine OutQ.wk (Wk.freeze (nb2) (by simp only [ZK, rvc, capA, appA, litL, mkfv, drawF, headN, pureH, stp, dvc, calleeOf, gcall, pev, eff, newB, okd, og, ogs, ogo, ogp, slv, bltv, opd, litv, strip, one, both, putE, St.put, look, gdOf, gdv, picka, pickv, pickw, binv, bini, bins, binb, binp, binq, isSlT, bina, shp, eqCells, unv, convv, nilv, faddv, addp, idxav, idxp, load1, load1m, loadn, loadnm, loadv, hget, hset, hrep, hdel, slicev, slice3v, bnd, shift1, lenv, capv, IntKind.bits, extractv, fieldv, indexv, min2v, max2v, mkiv, tasv, tasz, cellsA, fillA, buildv, stC, oneC, rowMB, intsA, plN, appE, appZ, appC, appS, srcB, appNZ, appNC, VwL, srcC, srcZ, srcM, isBoolT, isPtrT, isSliceT, uOk, Value.oneCell', Nat.reducePow, Int.reducePow, Nat.reduceAdd, Nat.reduceMul, Nat.reduceSub, Nat.reduceLT, Nat.reduceLeDiff, Nat.reduceEqDiff, Nat.reduceBEq, Nat.reduceDiv, Nat.reduceMod, ↓reduceIte, reduceCtorEq, Int.reduceToNat, Int.reduceLT, Int.reduceLE, TFWlE, SeqQ, BlkQ, LoopQ, BodyQ, ht, FR.out]; first | done | rfl)) ?_; simp only [frzE, frz, ZK, rvc, capA, appA, litL, mkfv, drawF, headN, pureH, stp, dvc, calleeOf, gcall, pev, eff, newB, okd, og, ogs, ogo, ogp, slv, bltv, opd, litv, strip, one, both, putE, St.put, look, gdOf, gdv, picka, pickv, pickw, binv, bini, bins, binb, binp, binq, isSlT, bina, shp, eqCells, unv, convv, nilv, faddv, addp, idxav, idxp, load1, load1m, loadn, loadnm, loadv, hget, hset, hrep, hdel, slicev, slice3v, bnd, shift1, lenv, capv, IntKind.bits, extractv, fieldv, indexv, min2v, max2v, mkiv, tasv, tasz, cellsA, fillA, buildv, stC, oneC, rowMB, intsA, plN, appE, appZ, appC, appS, srcB, appNZ, appNC, VwL, srcC, srcZ, srcM, isBoolT, isPtrT, isSliceT, uOk, Value.oneCell', Nat.reducePow, Int.reducePow, Nat.reduceAdd, Nat.reduceMul, Nat.reduceSub, Nat.reduceLT, Nat.reduceLeDiff, Nat.reduceEqDiff, Nat.reduceBEq, Nat.reduceDiv, Nat.reduceMod, ↓reduceIte, reduceCtorEq, Int.reduceToNat, Int.reduceLT, Int.reduceLE, TFWlE, SeqQ, BlkQ, LoopQ, BodyQ, ht, FR.out])
    (have FA := Sm.mk (And.intro ht FA.out); refine Yg ?_; try exact trivial)
  · subst h
    have k : (none : Option Addr).isNone = true := rfl
    simp only [List.nil_append]
    refine ACt.intro Tryd.func52 rfl (by kernel_rfl) (by simp [Tryd.ntmps52]) (fun cx => ?_)
    simp only [argE, Tryd.ntmps52, Tryd.results52]
    first | (have FRx := FR; clear FRx) | have FR := fr0S
    have FA := Sm.mk (And.intro TFWlE k)
    repeat' first | (apply Sm.mk; refine Ys ?_) | refine WP.seq fun K hK => ?_ | (apply Ob.mk; exact Yo) | refine And.intro (Ob.out ?_) ?_ | refine Y1WlE ?_ | refine YzWlE ?_ | (refine WP.cond rfl (fun hc => ?_) (fun hc => ?_) <;> (try simp only [ZC, reduceCtorEq, ZD] at hc) <;> (try exact absurd hc (by decide)) <;> (try (exfalso; omega))) | refine Rt.mk (And.intro (fun hg => Sm.out ?_) fun hg => Sm.out ?_) | (refine Nu.mk ?_; first | (fail_if_success have := nb1); intro nb1 | (fail_if_success have := nb2); intro nb2 | (fail_if_success have := nb3); intro nb3 | (fail_if_success have := nb4); intro nb4 | (fail_if_success have := nb5); intro nb5 | (fail_if_success have := nb6); intro nb6 | intro nbz) | (apply Yfr; refine Yf FR fun hFRb FR => ?_) | refine Two.mk ?_ ?_ | (apply Yxc; exact Yx) | refine Cs.mk fun hcs => Sm.out ?_ | go_step | omega | (simp only [maxLen_eq]; omega) | exact trivial
    (refine OutQ.wk (Wk.cons (i := 2) (by simp only [look, ↓reduceIte, Nat.reduceEqDiff]; first | done | rfl) (fun w I v h => Rep.nilz (k := .u8) h)) ?_)
    (refine Yg ?_; try exact trivial)
  · subst h
    have k : (some ad).isNone = false := rfl
    simp only [List.nil_append]
    refine ACt.intro Tryd.func52 rfl (by kernel_rfl) (by simp [Tryd.ntmps52]) (fun cx => ?_)
    simp only [argE, Tryd.ntmps52, Tryd.results52]
    first | (have FRx := FR; clear FRx) | have FR := fr0S
    have FA := Sm.mk (And.intro TFWlE k)
    repeat' first | (apply Sm.mk; refine Ys ?_) | refine WP.seq fun K hK => ?_ | (apply Ob.mk; exact Yo) | refine And.intro (Ob.out ?_) ?_ | ((fail_if_success (show WP _ _ _ (.region 3 _ _) _ _)); refine Y1WlE ?_) | refine YzWlE ?_ | (refine WP.cond rfl (fun hc => ?_) (fun hc => ?_) <;> (try simp only [ZC, reduceCtorEq, ZD] at hc) <;> (try exact absurd hc (by decide)) <;> (try (exfalso; omega))) | refine Rt.mk (And.intro (fun hg => Sm.out ?_) fun hg => Sm.out ?_) | (refine Nu.mk ?_; first | (fail_if_success have := nb1); intro nb1 | (fail_if_success have := nb2); intro nb2 | (fail_if_success have := nb3); intro nb3 | (fail_if_success have := nb4); intro nb4 | (fail_if_success have := nb5); intro nb5 | (fail_if_success have := nb6); intro nb6 | intro nbz) | (apply Yfr; refine Yf FR fun hFRb FR => ?_) | refine Two.mk ?_ ?_ | (apply Yxc; exact Yx) | refine Cs.mk fun hcs => Sm.out ?_ | go_step | omega | (simp only [maxLen_eq]; omega) | exact trivial
    refine WP.wk (Wk.cons (i := 0) (by simp only [look, ↓reduceIte, Nat.reduceEqDiff]; rfl) (fun w I v h => rep_slz0 (k := .u8) hm h)) ?_
    first | (have FRx := FR; clear FRx) | have FR := fr0S
    have FA := Sm.mk (TFWlE)
    repeat' first | (apply Sm.mk; refine YsWlE0 ?_) | refine WP.seq fun K hK => ?_ | (apply Ob.mk; exact Yo) | refine And.intro (Ob.out ?_) ?_ | refine Y1WlE ?_ | refine YzWlE ?_ | (refine WP.cond rfl (fun hc => ?_) (fun hc => ?_) <;> (try simp only [ZC, reduceCtorEq, ZD] at hc) <;> (try exact absurd hc (by decide)) <;> (try (exfalso; omega))) | refine Rt.mk (And.intro (fun hg => Sm.out ?_) fun hg => Sm.out ?_) | (refine Nu.mk ?_; first | (fail_if_success have := nb1); intro nb1 | (fail_if_success have := nb2); intro nb2 | (fail_if_success have := nb3); intro nb3 | (fail_if_success have := nb4); intro nb4 | (fail_if_success have := nb5); intro nb5 | (fail_if_success have := nb6); intro nb6 | intro nbz) | (apply Yfr; refine Yf FR fun hFRb FR => ?_) | refine Two.mk ?_ ?_ | (apply Yxc; exact Yx) | refine Cs.mk fun hcs => Sm.out ?_ | go_step | omega | (simp only [maxLen_eq]; omega) | exact trivial
    (refine OutQ.wk (Wk.freeze (nb2) (by simp only [ZK, rvc, capA, appA, litL, mkfv, drawF, headN, pureH, stp, dvc, calleeOf, gcall, pev, eff, newB, okd, og, ogs, ogo, ogp, slv, bltv, opd, litv, strip, one, both, putE, St.put, look, gdOf, gdv, picka, pickv, pickw, binv, bini, bins, binb, binp, binq, isSlT, bina, shp, eqCells, unv, convv, nilv, faddv, addp, idxav, idxp, load1, load1m, loadn, loadnm, loadv, hget, hset, hrep, hdel, slicev, slice3v, bnd, shift1, lenv, capv, IntKind.bits, extractv, fieldv, indexv, min2v, max2v, mkiv, tasv, tasz, cellsA, fillA, buildv, stC, oneC, rowMB, intsA, plN, appE, appZ, appC, appS, srcB, appNZ, appNC, VwL, srcC, srcZ, srcM, isBoolT, isPtrT, isSliceT, uOk, Value.oneCell', Nat.reducePow, Int.reducePow, Nat.reduceAdd, Nat.reduceMul, Nat.reduceSub, Nat.reduceLT, Nat.reduceLeDiff, Nat.reduceEqDiff, Nat.reduceBEq, Nat.reduceDiv, Nat.reduceMod, ↓reduceIte, reduceCtorEq, Int.reduceToNat, Int.reduceLT, Int.reduceLE, TFWlE, SeqQ, BlkQ, LoopQ, BodyQ, FR.out]; first | done | rfl)) ?_; simp only [frzE, frz, ZK, rvc, capA, appA, litL, mkfv, drawF, headN, pureH, stp, dvc, calleeOf, gcall, pev, eff, newB, okd, og, ogs, ogo, ogp, slv, bltv, opd, litv, strip, one, both, putE, St.put, look, gdOf, gdv, picka, pickv, pickw, binv, bini, bins, binb, binp, binq, isSlT, bina, shp, eqCells, unv, convv, nilv, faddv, addp, idxav, idxp, load1, load1m, loadn, loadnm, loadv, hget, hset, hrep, hdel, slicev, slice3v, bnd, shift1, lenv, capv, IntKind.bits, extractv, fieldv, indexv, min2v, max2v, mkiv, tasv, tasz, cellsA, fillA, buildv, stC, oneC, rowMB, intsA, plN, appE, appZ, appC, appS, srcB, appNZ, appNC, VwL, srcC, srcZ, srcM, isBoolT, isPtrT, isSliceT, uOk, Value.oneCell', Nat.reducePow, Int.reducePow, Nat.reduceAdd, Nat.reduceMul, Nat.reduceSub, Nat.reduceLT, Nat.reduceLeDiff, Nat.reduceEqDiff, Nat.reduceBEq, Nat.reduceDiv, Nat.reduceMod, ↓reduceIte, reduceCtorEq, Int.reduceToNat, Int.reduceLT, Int.reduceLE, TFWlE, SeqQ, BlkQ, LoopQ, BodyQ, FR.out])
    (refine Yg ?_; try exact trivial)
def trN (zs : List Int) : Nat → Nat
  | 0 => 0
  | j + 1 => if zs.getD j 0 = 0 then trN zs j else j + 1
set_option maxRecDepth 20000 in
theorem trR_ct (zs : List Int) (h : zs.length ≤ 1000000) : ACt Tryd.prog 75 [.slz .u8 zs, iv .u8 0] [] (Fn (.slz .u8 (zs.take (trN zs zs.length)))) := by
  obtain ⟨N, hN⟩ : ∃ N, N = trN zs zs.length := ⟨_, rfl⟩
  rw [← hN]
  refine ACt.intro Tryd.func75 rfl (by kernel_rfl) (by simp [Tryd.ntmps75]) (fun cx => ?_)
  simp only [argE, Tryd.ntmps75, Tryd.results75]
  first | (have FRx := FR; clear FRx) | have FR := fr0S
  have FA := Sm.mk (TFWlE)
  repeat' first | (apply Sm.mk; refine Ys ?_) | refine WP.seq fun K hK => ?_ | (apply Ob.mk; exact Yo) | refine And.intro (Ob.out ?_) ?_ | refine Y1WlE ?_ | refine YzWlE ?_ | (refine WP.cond rfl (fun hc => ?_) (fun hc => ?_) <;> (try simp only [ZC, reduceCtorEq, ZD] at hc) <;> (try exact absurd hc (by decide)) <;> (try (exfalso; omega))) | refine Rt.mk (And.intro (fun hg => Sm.out ?_) fun hg => Sm.out ?_) | (refine Nu.mk ?_; first | (fail_if_success have := nb1); intro nb1 | (fail_if_success have := nb2); intro nb2 | (fail_if_success have := nb3); intro nb3 | (fail_if_success have := nb4); intro nb4 | (fail_if_success have := nb5); intro nb5 | (fail_if_success have := nb6); intro nb6 | intro nbz) | (apply Yfr; refine Yf FR fun hFRb FR => ?_) | refine Two.mk ?_ ?_ | (apply Yxc; exact Yx) | refine Cs.mk fun hcs => Sm.out ?_ | go_step | omega | (simp only [maxLen_eq]; omega) | exact trivial
  refine WP.loop (Γ := Nat) (fun j => ⟨[(0, .slz .u8 (zs.take j)), (1, iv .u8 0)], []⟩) (fun j => j ≤ zs.length ∧ trN zs j = N) (fun j => j) zs.length ⟨Nat.le_refl _, hN.symm⟩ (Sub.pick (by simp [pickB, hget, hdel, FR.out, List.take_length]) (by simp [look, List.take_length])) ?_
  clear hN
  intro j ⟨hj, hN⟩
  have FR : Sm (¬ ((1 : Nat) = 0)) := Sm.mk Nat.one_ne_zero
  have hl : (zs.take j).length = j := by rw [List.length_take]; omega
  cases j with
  | zero =>
    obtain rfl : N = 0 := hN.symm
    have k0 : decide (((0 : Nat) : Int) > 0) = false := by decide
    first | (have FRx := FR; clear FRx) | have FR := fr0S
    have FA := Sm.mk (And.intro TFWlE (And.intro hl k0))
    repeat' first | (apply Sm.mk; refine Ys ?_) | refine WP.seq fun K hK => ?_ | (apply Ob.mk; exact Yo) | refine And.intro (Ob.out ?_) ?_ | refine Y1WlE ?_ | refine YzWlE ?_ | (refine WP.cond rfl (fun hc => ?_) (fun hc => ?_) <;> (try simp only [ZC, reduceCtorEq, ZD] at hc) <;> (try exact absurd hc (by decide)) <;> (try (exfalso; omega))) | refine Rt.mk (And.intro (fun hg => Sm.out ?_) fun hg => Sm.out ?_) | (refine Nu.mk ?_; first | (fail_if_success have := nb1); intro nb1 | (fail_if_success have := nb2); intro nb2 | (fail_if_success have := nb3); intro nb3 | (fail_if_success have := nb4); intro nb4 | (fail_if_success have := nb5); intro nb5 | (fail_if_success have := nb6); intro nb6 | intro nbz) | (apply Yfr; refine Yf FR fun hFRb FR => ?_) | refine Two.mk ?_ ?_ | (apply Yxc; exact Yx) | refine Cs.mk fun hcs => Sm.out ?_ | go_step | omega | (simp only [maxLen_eq]; omega) | exact trivial
    (refine Yg ?_; try exact trivial)
  | succ j =>
    have k0 : decide (((j + 1 : Nat) : Int) > 0) = true := decide_eq_true (by omega)
    have s1 : IntKind.i64.wrap (((j + 1 : Nat) : Int) - 1) = (j : Int) := by rw [wrap_i64 (by omega) (by omega)]; omega
    have hg : (zs.take (j + 1)).getD j 0 = zs.getD j 0 := by
      rw [List.getD_eq_getElem?_getD, List.getElem?_take_of_lt (by omega), ← List.getD_eq_getElem?_getD]
    have ht : (zs.take (j + 1)).take j = zs.take j := by rw [List.take_take, Nat.min_eq_left (by omega)]
    obtain ⟨Y, hY⟩ : ∃ Y, Y = zs.take (j + 1) := ⟨_, rfl⟩
    rw [← hY] at hl hg ht ⊢
    obtain ⟨x, hx⟩ : ∃ x, zs.getD j 0 = x := ⟨_, rfl⟩
    rw [hx] at hg
    unfold trN at hN
    rw [hx] at hN
    by_cases hx0 : x = 0
    · rw [if_pos hx0] at hN
      have kx : (x == 0) = true := beq_iff_eq.2 hx0
      have q1 : j < j + 1 := Nat.lt_succ_self j
      first | (have FRx := FR; clear FRx) | have FR := fr0S
      have FA := Sm.mk (And.intro TFWlE (And.intro hl (And.intro k0 (And.intro s1 (And.intro hg (And.intro kx (And.intro q1 ht)))))))
      repeat' first | (apply Sm.mk; refine Ys ?_) | refine WP.seq fun K hK => ?_ | (apply Ob.mk; exact Yo) | refine And.intro (Ob.out ?_) ?_ | refine Y1WlE ?_ | refine YzWlE ?_ | (refine WP.cond rfl (fun hc => ?_) (fun hc => ?_) <;> (try simp only [ZC, reduceCtorEq, ZD] at hc) <;> (try exact absurd hc (by decide)) <;> (try (exfalso; omega))) | refine Rt.mk (And.intro (fun hg => Sm.out ?_) fun hg => Sm.out ?_) | (refine Nu.mk ?_; first | (fail_if_success have := nb1); intro nb1 | (fail_if_success have := nb2); intro nb2 | (fail_if_success have := nb3); intro nb3 | (fail_if_success have := nb4); intro nb4 | (fail_if_success have := nb5); intro nb5 | (fail_if_success have := nb6); intro nb6 | intro nbz) | (apply Yfr; refine Yf FR fun hFRb FR => ?_) | refine Two.mk ?_ ?_ | (apply Yxc; exact Yx) | refine Cs.mk fun hcs => Sm.out ?_ | go_step | omega | (simp only [maxLen_eq]; omega) | exact trivial
      exact ⟨j, ⟨by omega, hN⟩, Nat.lt_succ_self j, (Sub.pick (by simp [pickB, hget, hdel, FR.out, ht]) (by simp [look, ht]))⟩
    · rw [if_neg hx0] at hN
      have kx : (x == 0) = false := beq_eq_false_iff_ne.2 hx0
      have q1 : j < j + 1 := Nat.lt_succ_self j
      first | (have FRx := FR; clear FRx) | have FR := fr0S
      have FA := Sm.mk (And.intro TFWlE (And.intro hl (And.intro k0 (And.intro s1 (And.intro hg (And.intro kx q1))))))
      repeat' first | (apply Sm.mk; refine Ys ?_) | refine WP.seq fun K hK => ?_ | (apply Ob.mk; exact Yo) | refine And.intro (Ob.out ?_) ?_ | refine Y1WlE ?_ | refine YzWlE ?_ | (refine WP.cond rfl (fun hc => ?_) (fun hc => ?_) <;> (try simp only [ZC, reduceCtorEq, ZD] at hc) <;> (try exact absurd hc (by decide)) <;> (try (exfalso; omega))) | refine Rt.mk (And.intro (fun hg => Sm.out ?_) fun hg => Sm.out ?_) | (refine Nu.mk ?_; first | (fail_if_success have := nb1); intro nb1 | (fail_if_success have := nb2); intro nb2 | (fail_if_success have := nb3); intro nb3 | (fail_if_success have := nb4); intro nb4 | (fail_if_success have := nb5); intro nb5 | (fail_if_success have := nb6); intro nb6 | intro nbz) | (apply Yfr; refine Yf FR fun hFRb FR => ?_) | refine Two.mk ?_ ?_ | (apply Yxc; exact Yx) | refine Cs.mk fun hcs => Sm.out ?_ | go_step | omega | (simp only [maxLen_eq]; omega) | exact trivial
      subst hN
      (have FA := Sm.mk (And.intro hY FA.out); refine Yg ?_; try exact trivial)
def trL : List Int → List Int
  | [] => []
  | x :: r => if x = 0 then trL r else x :: r
set_option maxRecDepth 20000 in
theorem trL_ct (zs : List Int) (h : zs.length ≤ 1000000) : ACt Tryd.prog 74 [.slz .u8 zs, iv .u8 0] [] (Fn (.slz .u8 (trL zs))) := by
  obtain ⟨R, hR⟩ : ∃ R, R = trL zs := ⟨_, rfl⟩
  rw [← hR]
  refine ACt.intro Tryd.func74 rfl (by kernel_rfl) (by simp [Tryd.ntmps74]) (fun cx => ?_)
  simp only [argE, Tryd.ntmps74, Tryd.results74]
  first | (have FRx := FR; clear FRx) | have FR := fr0S
  have FA := Sm.mk (TFWlE)
  repeat' first | (apply Sm.mk; refine Ys ?_) | refine WP.seq fun K hK => ?_ | (apply Ob.mk; exact Yo) | refine And.intro (Ob.out ?_) ?_ | refine Y1WlE ?_ | refine YzWlE ?_ | (refine WP.cond rfl (fun hc => ?_) (fun hc => ?_) <;> (try simp only [ZC, reduceCtorEq, ZD] at hc) <;> (try exact absurd hc (by decide)) <;> (try (exfalso; omega))) | refine Rt.mk (And.intro (fun hg => Sm.out ?_) fun hg => Sm.out ?_) | (refine Nu.mk ?_; first | (fail_if_success have := nb1); intro nb1 | (fail_if_success have := nb2); intro nb2 | (fail_if_success have := nb3); intro nb3 | (fail_if_success have := nb4); intro nb4 | (fail_if_success have := nb5); intro nb5 | (fail_if_success have := nb6); intro nb6 | intro nbz) | (apply Yfr; refine Yf FR fun hFRb FR => ?_) | refine Two.mk ?_ ?_ | (apply Yxc; exact Yx) | refine Cs.mk fun hcs => Sm.out ?_ | go_step | omega | (simp only [maxLen_eq]; omega) | exact trivial
  refine WP.loop (Γ := List Int) (fun z => ⟨[(0, .slz .u8 z), (1, iv .u8 0)], []⟩) (fun z => z.length ≤ 1000000 ∧ trL z = R) (fun z => z.length) zs ⟨h, hR.symm⟩ (Sub.pick (by simp [pickB, hget, hdel, FR.out]) (by simp [look])) ?_
  clear hR h
  intro z ⟨h, hR⟩
  have FR : Sm (¬ ((1 : Nat) = 0)) := Sm.mk Nat.one_ne_zero
  cases z with
  | nil =>
    obtain rfl : R = [] := hR.symm
    have k0 : decide (((0 : Nat) : Int) > 0) = false := by decide
    have k1 : (((0 : Nat) : Int) == 0) = true := by decide
    first | (have FRx := FR; clear FRx) | have FR := fr0S
    have FA := Sm.mk (And.intro TFWlE (And.intro k0 k1))
    repeat' first | (apply Sm.mk; refine YsWlE0 ?_) | refine WP.seq fun K hK => ?_ | (apply Ob.mk; exact Yo) | refine And.intro (Ob.out ?_) ?_ | refine Y1WlE ?_ | refine YzWlE ?_ | (refine WP.cond rfl (fun hc => ?_) (fun hc => ?_) <;> (try simp only [ZC, reduceCtorEq, ZD] at hc) <;> (try exact absurd hc (by decide)) <;> (try (exfalso; omega))) | refine Rt.mk (And.intro (fun hg => Sm.out ?_) fun hg => Sm.out ?_) | (refine Nu.mk ?_; first | (fail_if_success have := nb1); intro nb1 | (fail_if_success have := nb2); intro nb2 | (fail_if_success have := nb3); intro nb3 | (fail_if_success have := nb4); intro nb4 | (fail_if_success have := nb5); intro nb5 | (fail_if_success have := nb6); intro nb6 | intro nbz) | (apply Yfr; refine Yf FR fun hFRb FR => ?_) | refine Two.mk ?_ ?_ | (apply Yxc; exact Yx) | refine Cs.mk fun hcs => Sm.out ?_ | go_step | omega | (simp only [maxLen_eq]; omega) | exact trivial
    (refine OutQ.wk (Wk.cons (i := 4) (by simp only [look, ↓reduceIte, Nat.reduceEqDiff]; first | done | rfl) (fun w I v h => Rep.nilz (k := .u8) h)) ?_)
    (refine Yg ?_; try exact trivial)
  | cons x r =>
    have k0 : decide (((r.length + 1 : Nat) : Int) > 0) = true := decide_eq_true (by omega)
    have k1 : (((r.length + 1 : Nat) : Int) == 0) = false := beq_eq_false_iff_ne.2 (by omega)
    have hl : (x :: r).length = r.length + 1 := rfl
    have hg : (x :: r).getD 0 0 = x := rfl
    have hd : (x :: r).drop 1 = r := rfl
    have ht : (x :: r).take (r.length + 1) = x :: r := List.take_of_length_le (by simp)
    unfold trL at hR
    have q1 : 0 < r.length + 1 := Nat.succ_pos _
    have q2 : 1 ≤ r.length + 1 := Nat.succ_pos _
    rw [hl] at h
    obtain ⟨Y, hY⟩ : ∃ Y, Y = x :: r := ⟨_, rfl⟩
    rw [← hY] at hl hg hd ht ⊢
    by_cases hx0 : x = 0
    · rw [if_pos hx0] at hR
      have kx : (x == 0) = true := beq_iff_eq.2 hx0
      first | (have FRx := FR; clear FRx) | have FR := fr0S
      have FA := Sm.mk (And.intro TFWlE (And.intro hl (And.intro k0 (And.intro hg (And.intro kx (And.intro q1 (And.intro q2 (And.intro hd ht))))))))
      repeat' first | (apply Sm.mk; refine Ys ?_) | refine WP.seq fun K hK => ?_ | (apply Ob.mk; exact Yo) | refine And.intro (Ob.out ?_) ?_ | refine Y1WlE ?_ | refine YzWlE ?_ | (refine WP.cond rfl (fun hc => ?_) (fun hc => ?_) <;> (try simp only [ZC, reduceCtorEq, ZD] at hc) <;> (try exact absurd hc (by decide)) <;> (try (exfalso; omega))) | refine Rt.mk (And.intro (fun hg => Sm.out ?_) fun hg => Sm.out ?_) | (refine Nu.mk ?_; first | (fail_if_success have := nb1); intro nb1 | (fail_if_success have := nb2); intro nb2 | (fail_if_success have := nb3); intro nb3 | (fail_if_success have := nb4); intro nb4 | (fail_if_success have := nb5); intro nb5 | (fail_if_success have := nb6); intro nb6 | intro nbz) | (apply Yfr; refine Yf FR fun hFRb FR => ?_) | refine Two.mk ?_ ?_ | (apply Yxc; exact Yx) | refine Cs.mk fun hcs => Sm.out ?_ | go_step | omega | (simp only [maxLen_eq]; omega) | exact trivial
      exact ⟨r, ⟨by omega, hR⟩, by first | omega | simp, (Sub.pick (by simp [pickB, hget, hdel, FR.out, hd, ht]) (by simp [look, hd, ht]))⟩
    · rw [if_neg hx0] at hR
      have kx : (x == 0) = false := beq_eq_false_iff_ne.2 hx0
      first | (have FRx := FR; clear FRx) | have FR := fr0S
      have FA := Sm.mk (And.intro TFWlE (And.intro hl (And.intro k0 (And.intro k1 (And.intro hg (And.intro kx q1))))))
      repeat' first | (apply Sm.mk; refine Ys ?_) | refine WP.seq fun K hK => ?_ | (apply Ob.mk; exact Yo) | refine And.intro (Ob.out ?_) ?_ | refine Y1WlE ?_ | refine YzWlE ?_ | (refine WP.cond rfl (fun hc => ?_) (fun hc => ?_) <;> (try simp only [ZC, reduceCtorEq, ZD] at hc) <;> (try exact absurd hc (by decide)) <;> (try (exfalso; omega))) | refine Rt.mk (And.intro (fun hg => Sm.out ?_) fun hg => Sm.out ?_) | (refine Nu.mk ?_; first | (fail_if_success have := nb1); intro nb1 | (fail_if_success have := nb2); intro nb2 | (fail_if_success have := nb3); intro nb3 | (fail_if_success have := nb4); intro nb4 | (fail_if_success have := nb5); intro nb5 | (fail_if_success have := nb6); intro nb6 | intro nbz) | (apply Yfr; refine Yf FR fun hFRb FR => ?_) | refine Two.mk ?_ ?_ | (apply Yxc; exact Yx) | refine Cs.mk fun hcs => Sm.out ?_ | go_step | omega | (simp only [maxLen_eq]; omega) | exact trivial
      rw [← hR, ← hY]
      (refine Yg ?_; try exact trivial)
def trm (zs : List Int) : List Int := trL (zs.take (trN zs zs.length))
set_option maxRecDepth 20000 in
theorem trim_ct (zs : List Int) (h : zs.length ≤ 1000000) : ACt Tryd.prog 60 [.slz .u8 zs, .lit (.string ⟨#[0]⟩)] [] (Fn (.slz .u8 (trm zs))) := by
  have c1 := trR_ct zs h
  have c2 := trL_ct (zs.take (trN zs zs.length)) (by rw [List.length_take]; omega)
  by_cases h0 : zs.length = 0
  · obtain rfl : zs = [] := List.eq_nil_of_length_eq_zero h0
    have k1 : (((0 : Nat) : Int) == 0) = true := by decide
    have e : trm [] = [] := rfl
    refine ACt.intro Tryd.func60 rfl (by kernel_rfl) (by simp [Tryd.ntmps60]) (fun cx => ?_)
    simp only [argE, Tryd.ntmps60, Tryd.results60]
    first | (have FRx := FR; clear FRx) | have FR := fr0S
    have FA := Sm.mk (And.intro TFWlE k1)
    repeat' first | (apply Sm.mk; refine YsWlE0 ?_) | refine WP.seq fun K hK => ?_ | (apply Ob.mk; exact Yo) | refine And.intro (Ob.out ?_) ?_ | refine Y1WlE ?_ | refine YzWlE ?_ | (refine WP.cond rfl (fun hc => ?_) (fun hc => ?_) <;> (try simp only [ZC, reduceCtorEq, ZD] at hc) <;> (try exact absurd hc (by decide)) <;> (try (exfalso; omega))) | refine Rt.mk (And.intro (fun hg => Sm.out ?_) fun hg => Sm.out ?_) | (refine Nu.mk ?_; first | (fail_if_success have := nb1); intro nb1 | (fail_if_success have := nb2); intro nb2 | (fail_if_success have := nb3); intro nb3 | (fail_if_success have := nb4); intro nb4 | (fail_if_success have := nb5); intro nb5 | (fail_if_success have := nb6); intro nb6 | intro nbz) | (apply Yfr; refine Yf FR fun hFRb FR => ?_) | refine Two.mk ?_ ?_ | (apply Yxc; exact Yx) | refine Cs.mk fun hcs => Sm.out ?_ | go_step | omega | (simp only [maxLen_eq]; omega) | exact trivial
    (refine OutQ.wk (Wk.cons (i := 4) (by simp only [look, ↓reduceIte, Nat.reduceEqDiff]; first | done | rfl) (fun w I v h => Rep.nilz (k := .u8) h)) ?_)
    (have FA := Sm.mk (And.intro e FA.out); refine Yg ?_; try exact trivial)
  · have k1 : ((zs.length : Int) == 0) = false := beq_eq_false_iff_ne.2 (by omega)
    unfold trm
    obtain ⟨Y, hY⟩ : ∃ Y, Y = zs.take (trN zs zs.length) := ⟨_, rfl⟩
    rw [← hY] at c1 c2 ⊢
    have e1 : ((⟨#[0]⟩ : ByteArray).toList == (⟨#[]⟩ : ByteArray).toList) = false := by decide +kernel
    have e2 : (⟨#[0]⟩ : ByteArray).size = 1 := rfl
    have e3 : (⟨#[0]⟩ : ByteArray).data.getD 0 0 = 0 := rfl
    refine ACt.intro Tryd.func60 rfl (by kernel_rfl) (by simp [Tryd.ntmps60]) (fun cx => ?_)
    simp only [argE, Tryd.ntmps60, Tryd.results60]
    first | (have FRx := FR; clear FRx) | have FR := fr0S
    have FA := Sm.mk (And.intro TFWlE (And.intro k1 (And.intro e1 (And.intro e2 e3))))
    repeat' first | (apply Sm.mk; refine Ys ?_) | refine WP.seq fun K hK => ?_ | (apply Ob.mk; exact Yo) | refine And.intro (Ob.out ?_) ?_ | refine Y1WlE ?_ | refine Yc (c := c1) (r := ?_) | refine Yc (c := c2) (r := ?_) | refine YzWlE ?_ | (refine WP.cond rfl (fun hc => ?_) (fun hc => ?_) <;> (try simp only [ZC, reduceCtorEq, ZD] at hc) <;> (try exact absurd hc (by decide)) <;> (try (exfalso; omega))) | refine Rt.mk (And.intro (fun hg => Sm.out ?_) fun hg => Sm.out ?_) | (refine Nu.mk ?_; first | (fail_if_success have := nb1); intro nb1 | (fail_if_success have := nb2); intro nb2 | (fail_if_success have := nb3); intro nb3 | (fail_if_success have := nb4); intro nb4 | (fail_if_success have := nb5); intro nb5 | (fail_if_success have := nb6); intro nb6 | intro nbz) | (apply Yfr; refine Yf FR fun hFRb FR => ?_) | refine Two.mk ?_ ?_ | (apply Yxc; exact Yx) | refine Cs.mk fun hcs => Sm.out ?_ | go_step | omega | (simp only [maxLen_eq]; omega) | exact trivial
    (refine Yg ?_; try exact trivial)
theorem trL_nil : ∀ {zs : List Int}, trL zs = [] ↔ ∀ x ∈ zs, x = 0
  | [] => by simp [trL]
  | x :: r => by
    unfold trL
    by_cases h : x = 0
    · rw [if_pos h, trL_nil]; simp [h]
    · rw [if_neg h]; simp [h]
theorem trN_zero {zs : List Int} : ∀ j, j ≤ zs.length → ((∀ x ∈ zs.take (trN zs j), x = 0) ↔ ∀ x ∈ zs.take j, x = 0)
  | 0, _ => by simp [trN]
  | j + 1, h => by
    unfold trN
    by_cases h0 : zs.getD j 0 = 0
    · rw [if_pos h0, trN_zero j (by omega)]
      have e : zs.take (j + 1) = zs.take j ++ [zs[j]] := by rw [List.take_add_one, List.getElem?_eq_getElem (by omega)]; rfl
      have e2 : zs[j] = 0 := by rw [← h0, List.getD_eq_getElem?_getD, List.getElem?_eq_getElem (by omega)]; rfl
      rw [e]
      constructor
      · intro hx x hm
        rcases List.mem_append.1 hm with hm | hm
        · exact hx x hm
        · rw [List.mem_singleton.1 hm, e2]
      · intro hx x hm
        exact hx x (List.mem_append_left _ hm)
    · rw [if_neg h0]
theorem trm_nil {zs : List Int} : trm zs = [] ↔ ∀ x ∈ zs, x = 0 := by
  unfold trm
  rw [trL_nil, trN_zero _ (Nat.le_refl _), List.take_length]
end Go.Proofs.YtmbecppmkglmhaaDoor
