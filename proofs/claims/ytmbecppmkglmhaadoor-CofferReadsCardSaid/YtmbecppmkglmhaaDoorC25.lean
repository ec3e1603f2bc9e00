/-
  The walks and the laws that the statement leans on, part 25.
-/
import Derived.Test.YtmbecppmkglmhaaDoorC11
import Derived.Test.YtmbecppmkglmhaaDoorC21
import Derived.Test.YtmbecppmkglmhaaDoorC24
namespace Go.Proofs.YtmbecppmkglmhaaDoor
open Go
set_option linter.unusedVariables false
set_option linter.unusedSimpArgs false
set_option linter.defProp false
def TFWlG :=
  And.intro (And.intro (And.intro (And.intro (And.intro tyc3 (And.intro zmb3 tyc4)) (And.intro (And.intro zmb4 tyc5) (And.intro zmb5 tyc9))) (And.intro (And.intro (And.intro zmb9 tyc22) (And.intro elt22 mkz22)) (And.intro (And.intro apT22 elk22) (And.intro zmb22 tyc26)))) (And.intro (And.intro (And.intro mth26_27 (And.intro mth26_26 mth26_28)) (And.intro (And.intro con26 zmb26) (And.intro tyc29 zmb29))) (And.intro (And.intro (And.intro tyc37 elt37) (And.intro mkz37 mkc37)) (And.intro (And.intro apT37 elk37) (And.intro zmb37 tyc61))))) (And.intro (And.intro (And.intro (And.intro tyc71 (And.intro tyc82 zmb82)) (And.intro (And.intro tyc106 foff106_0) (And.intro fpart106_0 foff106_1))) (And.intro (And.intro (And.intro fpart106_1 foff106_2) (And.intro fpart106_2 foff106_3)) (And.intro (And.intro fpart106_3 foff106_4) (And.intro fpart106_4 foff106_5)))) (And.intro (And.intro (And.intro fpart106_5 (And.intro zmb106 bldT106)) (And.intro (And.intro Tryd.underlying3 Tryd.underlying4) (And.intro Tryd.underlying5 Tryd.underlying9))) (And.intro (And.intro (And.intro Tryd.underlying22 Tryd.underlying26) (And.intro Tryd.underlying29 Tryd.underlying37)) (And.intro (And.intro Tryd.underlying61 Tryd.underlying71) (And.intro Tryd.underlying82 Tryd.underlying106)))))
theorem Y1WlG {G R : Prop} (r : R) (h : R → G := by intro r; first | (apply WP.region; exact rvc_sound _ _ (Sm.out r)) | exact WP.drawK rfl mixed (by decide +kernel) (Sm.out r) | (apply WP.block; exact r) | (apply WP.skip; exact Yq r) | (apply WP.exit; exact Yq r) | (apply WP.ret; exact Sm.out r) | exact WP.cond rfl (fun _ => r) (fun hg => absurd hg (by decide)) | exact WP.cond rfl (fun hg => absurd hg (by decide)) (fun _ => r) | exact Rt.mk (And.intro (fun _ => Sm.out r) fun hg => absurd hg (by decide)) | exact Rt.mk (And.intro (fun hg => absurd hg (by decide)) fun _ => Sm.out r)) : G := h r
theorem YzWlG {G R : Prop} (r : R) (h : R → G := by intro r; first | (apply ExG.no; exact Sm.out r) | (apply Or.inl; apply ExG.no; exact Sm.out r) | exact Or.inl (And.intro (fun hg => absurd hg (by decide)) (ExG.no (Sm.out r)))) : G := h r
theorem YsWlG0 {P Q : Prop} (q : Q) (h : P = Q := by (try (conv => lhs; simp -dsimp only [ZK, rvc, capA, appA, litL, mkfv, drawF, headN, pureH, stp, dvc, calleeOf, gcall, pev, eff, newB, okd, og, ogs, ogo, ogp, slv, bltv, opd, litv, strip, one, both, putE, St.put, look, gdOf, gdv, picka, pickv, pickw, binv, bini, bins, binb, binp, binq, isSlT, bina, shp, eqCells, unv, convv, nilv, faddv, addp, idxav, idxp, load1, load1m, loadn, loadnm, loadv, hget, hset, hrep, hdel, slicev, slice3v, bnd, shift1, lenv, capv, IntKind.bits, extractv, fieldv, indexv, min2v, max2v, mkiv, tasv, tasz, cellsA, fillA, buildv, stC, oneC, rowMB, intsA, plN, appE, appZ, appC, appS, srcB, appNZ, appNC, VwL, srcC, srcZ, srcM, isBoolT, isPtrT, isSliceT, uOk, Value.oneCell', Nat.reducePow, Int.reducePow, Nat.reduceAdd, Nat.reduceMul, Nat.reduceSub, Nat.reduceLT, Nat.reduceLeDiff, Nat.reduceEqDiff, Nat.reduceBEq, Nat.reduceDiv, Nat.reduceMod, ↓reduceIte, reduceCtorEq, Int.reduceToNat, Int.reduceLT, Int.reduceLE, TFWlG, SeqQ, BlkQ, LoopQ, BodyQ, List.length_replicate, FA.out, FR.out])) <;> exact rfl) : P := h.mpr q
set_option maxRecDepth 20000 in
theorem wmay_ok {s n : Nat} {T : List Int} (b : Nat) (a : DA) (l : DL) (hn2 : a.n ≤ 400) (hS : Stl s n T a) {f m : Nat} (hfm : f + m ≤ n) (hm : 1 ≤ m) : ACt Tryd.prog 57 [pt b 0, iv .i64 (f : Int), iv .i64 (m : Int)] (dH b a l) (fun r F' => r = iv .i64 0 ∧ F' = dH b a l) := by
  have hn := hS.n
  have cB := blocks_d b a l
  have cD := dark_d b a l
  rw [hS.dk] at cD
  have k1 : decide ((f : Int) < 0) = false := decide_eq_false (by omega)
  have k2 : decide ((m : Int) < 1) = false := decide_eq_false (by omega)
  have k3 : decide ((f : Int) > (a.n : Int)) = false := decide_eq_false (by omega)
  have w1 : IntKind.i64.wrap ((a.n : Int) - (f : Int)) = ((a.n - f : Nat) : Int) := by rw [wrap_i64 (by omega) (by omega)]; omega
  have k4 : decide ((m : Int) > ((a.n - f : Nat) : Int)) = false := decide_eq_false (by omega)
  refine ACt.intro Tryd.func57 rfl (by kernel_rfl) (by simp [Tryd.ntmps57]) (fun cx => ?_)
  simp only [argE, Tryd.ntmps57, Tryd.results57]
  first | (have FRx := FR; clear FRx) | have FR := fr0S
  have FA := Sm.mk (And.intro TFWlG (And.intro k1 (And.intro k2 (And.intro k3 (And.intro k4 w1)))))
  repeat' first | (apply Sm.mk; refine Ys ?_) | refine WP.seq fun K hK => ?_ | (apply Ob.mk; exact Yo) | refine And.intro (Ob.out ?_) ?_ | refine Y1WlG ?_ | refine CallV.updM (cB) (pmz _) (Sm.out ?_) | ((first | refine ExF.up ?_ (cB) (Sm.out ?_) | refine ExG.up ?_ (fun _ => cB) (Sm.out ?_) | refine ExG.upJ ?_ (fun _ => cB) (Sm.out ?_) | refine ExG.upI ?_ (fun _ => cB) (Ob.out ?_) (Sm.out ?_)); focus (exact ⟨_, (pmz _)⟩)) | refine CallV.updM (cD) (pmz _) (Sm.out ?_) | ((first | refine ExF.up ?_ (cD) (Sm.out ?_) | refine ExG.up ?_ (fun _ => cD) (Sm.out ?_) | refine ExG.upJ ?_ (fun _ => cD) (Sm.out ?_) | refine ExG.upI ?_ (fun _ => cD) (Ob.out ?_) (Sm.out ?_)); focus (exact ⟨_, (pmz _)⟩)) | refine YzWlG ?_ | (refine WP.cond rfl (fun hc => ?_) (fun hc => ?_) <;> (try simp only [ZC, reduceCtorEq, ZD] at hc) <;> (try exact absurd hc (by decide)) <;> (try (exfalso; omega))) | refine Rt.mk (And.intro (fun hg => Sm.out ?_) fun hg => Sm.out ?_) | (refine Nu.mk ?_; first | (fail_if_success have := nb1); intro nb1 | (fail_if_success have := nb2); intro nb2 | (fail_if_success have := nb3); intro nb3 | (fail_if_success have := nb4); intro nb4 | (fail_if_success have := nb5); intro nb5 | (fail_if_success have := nb6); intro nb6 | (fail_if_success have := nb7); intro nb7 | (fail_if_success have := nb8); intro nb8 | intro nbz) | (apply Yfr; refine Yf FR fun hFRb FR => ?_) | refine Two.mk ?_ ?_ | (apply Yxc; exact Yx) | refine Cs.mk fun hcs => Sm.out ?_ | go_step | omega | (simp only [maxLen_eq]; omega) | exact trivial
  (refine OutQ.drop _ _ (pmz _) (by simp only [resv, ZK, look, loadv, loadn, loadnm, load1, load1m, hget, ↓reduceIte, Nat.reduceEqDiff, Nat.reduceAdd, Nat.reduceMul, Nat.reduceLeDiff, Nat.reduceLT, reduceCtorEq, TFWlG, FR.out]) ⟨(by simp only [resv, resA, ZK, look, loadv, loadn, loadnm, load1, load1m, hget, ↓reduceIte, Nat.reduceEqDiff, Nat.reduceAdd, Nat.reduceMul, Nat.reduceLeDiff, Nat.reduceLT, reduceCtorEq, TFWlG, FR.out]; first | done | rfl), rfl⟩)
set_option maxRecDepth 20000 in
theorem format_ct {c s n : Nat} {T : List Int} (b : Nat) (a : DA) (l : DL) (hA : AOk c a) (hS : Stl s n T a) (hl : LOk b a l) (f m : Nat) (hfm : f + m ≤ n) (hm : 1 ≤ m) (hc : c + m ≤ 980) :
    ACt Tryd.prog 46 [pt b 0, iv .i64 (f : Int), iv .i64 (m : Int)] (dH b a l) (fun r F' => ∃ q : LS b (lyR a f (cks s (List.replicate (m * s) 0))).1, r = iv .i64 (lyR a f (cks s (List.replicate (m * s) 0))).2 ∧ F' = dH b (lyR a f (cks s (List.replicate (m * s) 0))).1 q.1) := by
  have hs : a.size = s := hS.s
  have hn : a.n = n := hS.n
  have hn2 := hA.n2
  have hs1 := hA.s1
  have hs2 := hA.s2
  have hms : m * s ≤ 400 * 512 := Nat.mul_le_mul (by omega) (by omega)
  have cM := wmay_ok b a l hn2 hS hfm hm
  have cZ := size_d b a l
  rw [hs] at cZ
  have hcl : (cks s (List.replicate (m * s) (0 : Int))).length ≤ m := cks_len_le (by omega) (by simp)
  have cL := lay_ct b a l hA hl f (List.replicate (m * s) 0) (by omega) (by simp; omega) (by rw [hs]; omega)
  rw [hs] at cL
  have w1 : IntKind.i64.wrap ((m : Int) * (s : Int)) = ((m * s : Nat) : Int) := by rw [← Int.natCast_mul, wrap_i64 (by omega) (by omega)]
  obtain ⟨Z, hZ⟩ : ∃ Z, Z = m * s := ⟨_, rfl⟩
  rw [← hZ] at cL hms w1 ⊢
  obtain ⟨R, hR⟩ : ∃ R, R = lyR a f (cks s (List.replicate Z 0)) := ⟨_, rfl⟩
  rw [← hR] at cL ⊢
  have k00 : ((0 : Int) != 0) = false := rfl
  have tz : (List.replicate Z (0 : Int)).take Z = List.replicate Z 0 := by simp
  have q1 : Z ≤ 9223372036854775807 := by omega
  have cF := fun x => cL.frzG (b := x) (k := .u8) (zs := List.replicate Z 0) (s0 := Z) (ty := 5) (args := [pt b 0, iv .i64 (f : Int), ms x 0 Z Z]) (by simp [frz, maxLen_eq]; omega)
  refine ACt.intro Tryd.func46 rfl (by kernel_rfl) (by simp [Tryd.ntmps46]) (fun cx => ?_)
  simp only [argE, Tryd.ntmps46, Tryd.results46]
  first | (have FRx := FR; clear FRx) | have FR := fr0S
  have FA := Sm.mk (And.intro TFWlG (And.intro k00 (And.intro w1 (And.intro q1 tz))))
  repeat' first | (apply Sm.mk; refine YsWlG0 ?_) | refine WP.seq fun K hK => ?_ | (apply Ob.mk; exact Yo) | refine And.intro (Ob.out ?_) ?_ | refine Y1WlG ?_ | refine CallV.updM (cM) (pmz _) (Sm.out ?_) | ((first | refine ExF.up ?_ (cM) (Sm.out ?_) | refine ExG.up ?_ (fun _ => cM) (Sm.out ?_) | refine ExG.upJ ?_ (fun _ => cM) (Sm.out ?_) | refine ExG.upI ?_ (fun _ => cM) (Ob.out ?_) (Sm.out ?_)); focus (exact ⟨_, (pmz _)⟩)) | refine CallV.updM (cZ) (pmz _) (Sm.out ?_) | ((first | refine ExF.up ?_ (cZ) (Sm.out ?_) | refine ExG.up ?_ (fun _ => cZ) (Sm.out ?_) | refine ExG.upJ ?_ (fun _ => cZ) (Sm.out ?_) | refine ExG.upI ?_ (fun _ => cZ) (Ob.out ?_) (Sm.out ?_)); focus (exact ⟨_, (pmz _)⟩)) | (refine CallV.exM (cF _) (pmz _) (fun g => Sm.out ?_)) | refine YzWlG ?_ | (refine WP.cond rfl (fun hc => ?_) (fun hc => ?_) <;> (try simp only [ZC, reduceCtorEq, ZD] at hc) <;> (try exact absurd hc (by decide)) <;> (try (exfalso; omega))) | refine Rt.mk (And.intro (fun hg => Sm.out ?_) fun hg => Sm.out ?_) | (refine Nu.mk ?_; first | (fail_if_success have := nb1); intro nb1 | (fail_if_success have := nb2); intro nb2 | (fail_if_success have := nb3); intro nb3 | (fail_if_success have := nb4); intro nb4 | (fail_if_success have := nb5); intro nb5 | (fail_if_success have := nb6); intro nb6 | (fail_if_success have := nb7); intro nb7 | (fail_if_success have := nb8); intro nb8 | intro nbz) | (apply Yfr; refine Yf FR fun hFRb FR => ?_) | refine Two.mk ?_ ?_ | (apply Yxc; exact Yx) | refine Cs.mk fun hcs => Sm.out ?_ | go_step | omega | (simp only [maxLen_eq]; omega) | exact trivial
  (refine OutQ.drop _ _ (pmz _) (by simp only [resv, ZK, look, loadv, loadn, loadnm, load1, load1m, hget, ↓reduceIte, Nat.reduceEqDiff, Nat.reduceAdd, Nat.reduceMul, Nat.reduceLeDiff, Nat.reduceLT, reduceCtorEq, TFWlG, FR.out]) ⟨g, (by simp only [resv, resA, ZK, look, loadv, loadn, loadnm, load1, load1m, hget, ↓reduceIte, Nat.reduceEqDiff, Nat.reduceAdd, Nat.reduceMul, Nat.reduceLeDiff, Nat.reduceLT, reduceCtorEq, TFWlG, FR.out]; first | done | rfl), rfl⟩)
def opZ (R : Bs) (s : Nat) : Bs := (R.take (all R).2).drop ((all R).2 / s * s) ++ zrs (R.length - (all R).2)
def opD (R : Bs) : Bool := (R.drop (all R).2).any fun x => x != 0
def opR (a : DA) (f s : Nat) (R : Bs) : DA × Int := if opD R = true then lyR a (f + (all R).2 / s) (cks s (ub (opZ R s))) else (a, 0)
def lgM (b f m : Nat) (t : List Int) (u : Nat) (ov : Bool) : MB := .cells [pt b 0, iv .i64 (f : Int), iv .i64 (m : Int), .slz .u8 t, iv .i64 (u : Int), bv ov] 6 106
abbrev tlB (R : Bs) (u s : Nat) : Bs := (R.take u).drop (u / s * s)
theorem trm_dirty (R : Bs) (u : Nat) : decide (((trm (ub (R.drop u))).length : Int) > 0) = (R.drop u).any fun x => x != 0 := by
  have h := @trm_nil (ub (R.drop u))
  have e : (trm (ub (R.drop u)) = []) ↔ ∀ x ∈ R.drop u, x = 0 := by
    rw [h]
    simp only [ub, List.mem_map, forall_exists_index, and_imp, forall_apply_eq_imp_iff₂]
    constructor
    · intro g x hx
      have := g x hx
      exact UInt8.toNat_inj.1 (by rw [show (0 : UInt8).toNat = 0 from rfl]; omega)
    · intro g x hx; rw [g x hx]; rfl
  rw [Bool.eq_iff_iff, decide_eq_true_eq, List.any_eq_true]
  constructor
  · intro g
    apply Classical.byContradiction
    intro hn
    have : trm (ub (R.drop u)) = [] := e.2 fun x hx => by
      apply Classical.byContradiction
      intro h0
      exact hn ⟨x, hx, by simpa using h0⟩
    rw [this] at g; simp at g
  · rintro ⟨x, hx, h0⟩
    have : (trm (ub (R.drop u))).length ≠ 0 := fun hz => by
      have := e.1 (List.eq_nil_of_length_eq_zero hz) x hx
      rw [this] at h0; simp at h0
    omega
structure OpG (b : Nat) (a : DA) where
  x : Nat
  q : LS b a
set_option maxRecDepth 20000 in
set_option maxHeartbeats 4000000 in
theorem open_clean {c s n f m : Nat} {P Q R : Bs} (b : Nat) (a : DA) (l : DL) (hA : AOk c a) (hR : Rg s n f m P Q R a) (hl : LOk b a l) (hfm : f + m ≤ n) (hm : 1 ≤ m) (hD : opD R = false) :
    ACt Tryd.prog 38 [pt b 0, iv .i64 (f : Int), iv .i64 (m : Int)] (dH b a l) (fun r F' => ∃ x : Nat, r = .tup [pt x 0, .sl (all R).1.length (rowsA (all R).1), iv .i64 0] ∧ F' = (x, lgM b f m (ub (tlB R (all R).2 s)) (all R).2 false) :: dH b a l) := by
  have hs : a.size = s := hR.st.s
  have hn : a.n = n := hR.st.n
  have hn2 := hA.n2
  have hs1 := hA.s1
  have hs2 := hA.s2
  have hms : m * s ≤ 400 * 512 := Nat.mul_le_mul (by omega) (by omega)
  have hRl := hR.lR
  have cM := wmay_ok b a l hn2 hR.st hfm hm
  have cZ := size_d b a l
  rw [hs] at cZ
  have cR := region_ct b a l hA hR.st hl f m hfm hm
  have eR : ((ub (P ++ (R ++ Q))).drop (f * s)).take (m * s) = ub R := by
    rw [← hR.lP, ← hR.lR, ub_drop, ub_take, List.drop_left, List.take_left]
  rw [eR] at cR
  have cA := crcAll_ct R (by omega)
  have hul := all_le R
  have hD2 := hD
  unfold opD at hD2
  have hdt := trm_dirty R (all R).2
  rw [hD2] at hdt
  have cT := trim_ct (ub (R.drop (all R).2)) (by rw [ub_len, List.length_drop]; omega)
  have cC := bcl_ct (ub (tlB R (all R).2 s)) (by rw [ub_len]; simp only [tlB, List.length_drop, List.length_take]; omega)
  have hdv := Nat.div_mul_le_self (all R).2 s
  change ACt Tryd.prog 59 [.slz .u8 (ub R)] [] (Fn (.tup [.sl (all R).1.length (rowsA (all R).1), iv .i64 (all R).2])) at cA
  obtain ⟨u, hu⟩ : ∃ u, (all R).2 = u := ⟨_, rfl⟩
  obtain ⟨L, hL⟩ : ∃ L, (all R).1 = L := ⟨_, rfl⟩
  rw [hu] at cA hul hdt cT cC hdv ⊢
  rw [hL] at cA ⊢
  obtain ⟨k, hk⟩ : ∃ k, k = u / s := ⟨_, rfl⟩
  obtain ⟨ks, hks⟩ : ∃ ks, ks = k * s := ⟨_, rfl⟩
  have d1 : (u : Int).tdiv (s : Int) = (k : Int) := by rw [hk, Int.tdiv_eq_ediv_of_nonneg (by omega)]; simp
  have w1 : IntKind.i64.wrap (k : Int) = (k : Int) := by have := Nat.div_le_self u s; rw [wrap_i64 (by omega) (by omega)]
  have w2 : IntKind.i64.wrap ((k : Int) * (s : Int)) = (ks : Int) := by rw [← Int.natCast_mul, ← hks]; rw [← hk, ← hks] at hdv; exact wrap_i64 (by omega) (by omega)
  unfold tlB at cC ⊢
  rw [← hk, ← hks] at cC hdv ⊢
  have e1 : ((ub R).take u).drop ks = ub ((R.take u).drop ks) := by rw [ub_take, ub_drop]
  have e2 : (ub R).drop u = ub (R.drop u) := ub_drop _ _
  have e3 : (ub R).take R.length = ub R := List.take_of_length_le (by rw [ub_len]; omega)
  obtain ⟨H, hH⟩ : ∃ H, H = ub ((R.take u).drop ks) := ⟨_, rfl⟩
  rw [← hH] at cC e1 ⊢
  obtain ⟨E, hE⟩ : ∃ E, E = ub (R.drop u) := ⟨_, rfl⟩
  rw [← hE] at cT e2 hdt
  have rl := ub_len R
  obtain ⟨B, hB⟩ : ∃ B, B = ub R := ⟨_, rfl⟩
  rw [← hB] at cR cA e1 e2 e3 rl
  have k00 : ((0 : Int) != 0) = false := rfl
  have s0 : (s : Int) ≠ 0 := by omega
  unfold lgM
  refine ACt.intro Tryd.func38 rfl (by kernel_rfl) (by simp [Tryd.ntmps38]) (fun cx => ?_)
  simp only [argE, Tryd.ntmps38, Tryd.results38]
  first | (have FRx := FR; clear FRx) | have FR := fr0S
  have FA := Sm.mk (And.intro TFWlG (And.intro k00 (And.intro rl (And.intro hul (And.intro hdv (And.intro d1 (And.intro w1 (And.intro w2 (And.intro s0 (And.intro e1 (And.intro e2 (And.intro e3 hdt))))))))))))
  repeat' first | (apply Sm.mk; refine Ys ?_) | refine WP.seq fun K hK => ?_ | (apply Ob.mk; exact Yo) | refine And.intro (Ob.out ?_) ?_ | refine Y1WlG ?_ | refine CallV.updM (cM) (pmz _) (Sm.out ?_) | ((first | refine ExF.up ?_ (cM) (Sm.out ?_) | refine ExG.up ?_ (fun _ => cM) (Sm.out ?_) | refine ExG.upJ ?_ (fun _ => cM) (Sm.out ?_) | refine ExG.upI ?_ (fun _ => cM) (Ob.out ?_) (Sm.out ?_)); focus (exact ⟨_, (pmz _)⟩)) | refine CallV.updM (cR) (pmz _) (Sm.out ?_) | ((first | refine ExF.up ?_ (cR) (Sm.out ?_) | refine ExG.up ?_ (fun _ => cR) (Sm.out ?_) | refine ExG.upJ ?_ (fun _ => cR) (Sm.out ?_) | refine ExG.upI ?_ (fun _ => cR) (Ob.out ?_) (Sm.out ?_)); focus (exact ⟨_, (pmz _)⟩)) | (first | refine CallV.fn (cA) (Sm.out ?_) | refine ExF.mk (cA) (Sm.out ?_) | refine ExG.mk (fun _ => cA) (Sm.out ?_) | refine ExG.mkJ (fun _ => cA) (Sm.out ?_) | refine ExG.mkI (Ob.out ?_) (fun _ => cA) (Sm.out ?_)) | refine CallV.updM (cZ) (pmz _) (Sm.out ?_) | ((first | refine ExF.up ?_ (cZ) (Sm.out ?_) | refine ExG.up ?_ (fun _ => cZ) (Sm.out ?_) | refine ExG.upJ ?_ (fun _ => cZ) (Sm.out ?_) | refine ExG.upI ?_ (fun _ => cZ) (Ob.out ?_) (Sm.out ?_)); focus (exact ⟨_, (pmz _)⟩)) | (first | refine CallV.fn (cT) (Sm.out ?_) | refine ExF.mk (cT) (Sm.out ?_) | refine ExG.mk (fun _ => cT) (Sm.out ?_) | refine ExG.mkJ (fun _ => cT) (Sm.out ?_) | refine ExG.mkI (Ob.out ?_) (fun _ => cT) (Sm.out ?_)) | (first | refine CallV.fn (cC) (Sm.out ?_) | refine ExF.mk (cC) (Sm.out ?_) | refine ExG.mk (fun _ => cC) (Sm.out ?_) | refine ExG.mkJ (fun _ => cC) (Sm.out ?_) | refine ExG.mkI (Ob.out ?_) (fun _ => cC) (Sm.out ?_)) | refine YzWlG ?_ | (refine WP.cond rfl (fun hc => ?_) (fun hc => ?_) <;> (try simp only [ZC, reduceCtorEq, ZD] at hc) <;> (try exact absurd hc (by decide)) <;> (try (exfalso; omega))) | refine Rt.mk (And.intro (fun hg => Sm.out ?_) fun hg => Sm.out ?_) | (refine Nu.mk ?_; first | (fail_if_success have := nb1); intro nb1 | (fail_if_success have := nb2); intro nb2 | (fail_if_success have := nb3); intro nb3 | (fail_if_success have := nb4); intro nb4 | (fail_if_success have := nb5); intro nb5 | (fail_if_success have := nb6); intro nb6 | (fail_if_success have := nb7); intro nb7 | (fail_if_success have := nb8); intro nb8 | intro nbz) | (apply Yfr; refine Yf FR fun hFRb FR => ?_) | refine Two.mk ?_ ?_ | (apply Yxc; exact Yx) | refine Cs.mk fun hcs => Sm.out ?_ | go_step | omega | (simp only [maxLen_eq]; omega) | exact trivial
  (refine OutQ.drop _ _ (pmz _) (by simp only [resv, ZK, look, loadv, loadn, loadnm, load1, load1m, hget, ↓reduceIte, Nat.reduceEqDiff, Nat.reduceAdd, Nat.reduceMul, Nat.reduceLeDiff, Nat.reduceLT, reduceCtorEq, TFWlG, FR.out]) ⟨nb1, (by simp only [resv, resA, ZK, look, loadv, loadn, loadnm, load1, load1m, hget, ↓reduceIte, Nat.reduceEqDiff, Nat.reduceAdd, Nat.reduceMul, Nat.reduceLeDiff, Nat.reduceLT, reduceCtorEq, TFWlG, FR.out]; first | done | rfl), rfl⟩)
end Go.Proofs.YtmbecppmkglmhaaDoor
