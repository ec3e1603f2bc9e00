/-
  The walks and the laws that the statement leans on, part 44.
-/
import Derived.Test.YtaffbklkjjmmdaaDoorB10
import Derived.Test.YtaffbklkjjmmdaaDoorB15
import Derived.Test.YtaffbklkjjmmdaaDoorB38
import Derived.Test.YtaffbklkjjmmdaaDoorB43
namespace Go.Proofs.YtaffbklkjjmmdaaDoor
open Go Wi
set_option linter.unusedVariables false
set_option linter.unusedSimpArgs false
set_option linter.defProp false
def TFHuS :=
  And.intro (And.intro (And.intro (And.intro (And.intro tyc0 (And.intro tyc3 zmb3)) (And.intro (And.intro tyc4 zmb4) (And.intro tyc5 zmb5))) (And.intro (And.intro tyc9 (And.intro zmb9 tyc32)) (And.intro (And.intro foff32_0 fpart32_0) (And.intro foff32_1 fpart32_1)))) (And.intro (And.intro (And.intro foff32_2 (And.intro fpart32_2 foff32_3)) (And.intro (And.intro fpart32_3 foff32_4) (And.intro fpart32_4 fe32))) (And.intro (And.intro zmb32 (And.intro bldT32 tyc40)) (And.intro (And.intro zmb40 tyc47) (And.intro elt47 mkz47))))) (And.intro (And.intro (And.intro (And.intro apT47 (And.intro elk47 zmb47)) (And.intro (And.intro tyc49 mth49_73) (And.intro mth49_72 mth49_71))) (And.intro (And.intro con49 (And.intro zmb49 tyc54)) (And.intro (And.intro tyc71 foff71_0) (And.intro fpart71_0 foff71_1)))) (And.intro (And.intro (And.intro fpart71_1 (And.intro zmb71 bldT71)) (And.intro (And.intro Tryd.underlying0 Tryd.underlying3) (And.intro Tryd.underlying4 Tryd.underlying5))) (And.intro (And.intro Tryd.underlying9 (And.intro Tryd.underlying32 Tryd.underlying40)) (And.intro (And.intro Tryd.underlying47 Tryd.underlying49) (And.intro Tryd.underlying54 Tryd.underlying71)))))
theorem Y1HuS {G R : Prop} (r : R) (h : R → G := by intro r; first | (apply WP.region; exact rvc_sound _ _ (Sm.out r)) | exact WP.drawK rfl mixed (by decide +kernel) (Sm.out r) | (apply WP.block; exact r) | (apply WP.skip; exact Yq r) | (apply WP.exit; exact Yq r) | (apply WP.ret; exact Sm.out r) | exact WP.cond rfl (fun _ => r) (fun hg => absurd hg (by decide)) | exact WP.cond rfl (fun hg => absurd hg (by decide)) (fun _ => r) | exact Rt.mk (And.intro (fun _ => Sm.out r) fun hg => absurd hg (by decide)) | exact Rt.mk (And.intro (fun hg => absurd hg (by decide)) fun _ => Sm.out r)) : G := h r
theorem YzHuS {G R : Prop} (r : R) (h : R → G := by intro r; first | (apply ExG.no; exact Sm.out r) | (apply Or.inl; apply ExG.no; exact Sm.out r) | exact Or.inl (And.intro (fun hg => absurd hg (by decide)) (ExG.no (Sm.out r)))) : G := h r
theorem new_cr (zs : List Int) : ACt Tryd.prog 25 [.slz .u8 zs] [] (NewC 71 [.slz .u8 zs, bv false]) := by
  refine ACt.intro Tryd.func25 rfl (by kernel_rfl) (by simp [Tryd.ntmps25]) (fun cx => ?_)
  simp only [argE, Tryd.ntmps25, Tryd.results25]
  first | (have FRx := FR; clear FRx) | have FR := fr0S
  have FA := Sm.mk (TFHuS)
  repeat' first | (apply Sm.mk; refine Ys ?_) | refine WP.seq fun K hK => ?_ | (apply Ob.mk; exact Yo) | refine And.intro (Ob.out ?_) ?_ | refine Y1HuS ?_ | refine YzHuS ?_ | (refine WP.cond rfl (fun hc => ?_) (fun hc => ?_) <;> (try simp only [ZC, reduceCtorEq, ZD] at hc) <;> (try exact absurd hc (by decide)) <;> (try (exfalso; omega))) | refine Rt.mk (And.intro (fun hg => Sm.out ?_) fun hg => Sm.out ?_) | (refine Nu.mk ?_; first | (fail_if_success have := nb1); intro nb1 | (fail_if_success have := nb2); intro nb2 | (fail_if_success have := nb3); intro nb3 | (fail_if_success have := nb4); intro nb4 | (fail_if_success have := nb5); intro nb5 | (fail_if_success have := nb6); intro nb6 | (fail_if_success have := nb7); intro nb7 | (fail_if_success have := nb8); intro nb8 | (fail_if_success have := nb9); intro nb9 | (fail_if_success have := nb10); intro nb10 | (fail_if_success have := nb11); intro nb11 | (fail_if_success have := nb12); intro nb12 | (fail_if_success have := nb13); intro nb13 | (fail_if_success have := nb14); intro nb14 | intro nbz) | (apply Yfr; refine Yf FR fun hFRb FR => ?_) | refine Two.mk ?_ ?_ | (apply Yxc; exact Yx) | refine Cs.mk fun hcs => Sm.out ?_ | go_step | omega | (simp only [maxLen_eq]; omega) | exact trivial | refine Or.inr (Rt.mk (And.intro (fun hg => Sm.out ?_) fun hg => Sm.out ?_))
  (refine OutQ.newC (by simp only [resv, ZK, look, loadv, loadn, loadnm, load1, load1m, hget, ↓reduceIte, Nat.reduceEqDiff, Nat.reduceAdd, Nat.reduceMul, Nat.reduceLeDiff, Nat.reduceLT, reduceCtorEq, TFHuS, FR.out]) (by simp only [resv, resA, ZK, look, loadv, loadn, loadnm, load1, load1m, hget, ↓reduceIte, Nat.reduceEqDiff, Nat.reduceAdd, Nat.reduceMul, Nat.reduceLeDiff, Nat.reduceLT, reduceCtorEq, TFHuS, FR.out]; first | done | rfl) (by simp only [hget, ↓reduceIte, if_true, if_false, FR.out]; first | done | rfl) ?_ ?_ <;> first | exact rfl | (simp only [ZK, look, loadv, loadn, loadnm, load1, load1m, hget, ↓reduceIte, Nat.reduceEqDiff, Nat.reduceAdd, Nat.reduceMul, Nat.reduceLeDiff, Nat.reduceLT, reduceCtorEq, TFHuS, FR.out]; done) | skip)
theorem leftR (b : Nat) (zs : List Int) : ACt Tryd.prog 31 [pt b 0] [(b, rd zs false)] (fun r F' => r = iv .i64 (zs.length : Int) ∧ F' = [(b, rd zs false)]) := by
  have cB := badR b zs false
  refine ACt.intro Tryd.func31 rfl (by kernel_rfl) (by simp [Tryd.ntmps31]) (fun cx => ?_)
  simp only [argE, Tryd.ntmps31, Tryd.results31]
  first | (have FRx := FR; clear FRx) | have FR := fr0S
  have FA := Sm.mk (TFHuS)
  repeat' first | (apply Sm.mk; refine Ys ?_) | refine WP.seq fun K hK => ?_ | (apply Ob.mk; exact Yo) | refine And.intro (Ob.out ?_) ?_ | refine Y1HuS ?_ | refine Yl1 (c := cB) (r := ?_) | refine YzHuS ?_ | (refine WP.cond rfl (fun hc => ?_) (fun hc => ?_) <;> (try simp only [ZC, reduceCtorEq, ZD] at hc) <;> (try exact absurd hc (by decide)) <;> (try (exfalso; omega))) | refine Rt.mk (And.intro (fun hg => Sm.out ?_) fun hg => Sm.out ?_) | (refine Nu.mk ?_; first | (fail_if_success have := nb1); intro nb1 | (fail_if_success have := nb2); intro nb2 | (fail_if_success have := nb3); intro nb3 | (fail_if_success have := nb4); intro nb4 | (fail_if_success have := nb5); intro nb5 | (fail_if_success have := nb6); intro nb6 | (fail_if_success have := nb7); intro nb7 | (fail_if_success have := nb8); intro nb8 | (fail_if_success have := nb9); intro nb9 | (fail_if_success have := nb10); intro nb10 | (fail_if_success have := nb11); intro nb11 | (fail_if_success have := nb12); intro nb12 | (fail_if_success have := nb13); intro nb13 | (fail_if_success have := nb14); intro nb14 | intro nbz) | (apply Yfr; refine Yf FR fun hFRb FR => ?_) | refine Two.mk ?_ ?_ | (apply Yxc; exact Yx) | refine Cs.mk fun hcs => Sm.out ?_ | go_step | omega | (simp only [maxLen_eq]; omega) | exact trivial | refine Or.inr (Rt.mk (And.intro (fun hg => Sm.out ?_) fun hg => Sm.out ?_))
  (refine OutQ.drop _ _ (perm1 (by simp only [hget, hdel, ↓reduceIte, if_true, if_false, FR.out]; first | done | rfl)) (by simp only [resv, ZK, look, loadv, loadn, loadnm, load1, load1m, hget, ↓reduceIte, Nat.reduceEqDiff, Nat.reduceAdd, Nat.reduceMul, Nat.reduceLeDiff, Nat.reduceLT, reduceCtorEq, TFHuS, FR.out]) ⟨(by simp only [resv, resA, ZK, look, loadv, loadn, loadnm, load1, load1m, hget, ↓reduceIte, Nat.reduceEqDiff, Nat.reduceAdd, Nat.reduceMul, Nat.reduceLeDiff, Nat.reduceLT, reduceCtorEq, TFHuS, FR.out]; first | done | rfl), rfl⟩)
theorem by_strL (s : ByteArray) : Wi.By (strL s) := fun x hx => by
  unfold strL at hx
  obtain ⟨b, _, rfl⟩ := List.mem_map.1 hx
  have := b.toNat_lt
  omega
theorem by_txL (s : ByteArray) (h : s.size ≤ 40000) : Wi.By (txL s) := (by_putL _ (by omega)).app (by_strL s)
theorem by_intL (i : Int) (h1 : -9223372036854775808 ≤ i) (h2 : i ≤ 9223372036854775807) : Wi.By (intL i) := by
  unfold intL
  split
  · obtain ⟨k, _, hk, _, h⟩ := putL0 (-i).toNat (by omega)
    rw [h]
    intro x hx
    rcases List.mem_cons.1 hx with rfl | hx
    · omega
    · exact by_byteL _ k x hx
  · exact by_putL _ (by omega)
theorem by_sL {s : Sl} (h : Sb s) : Wi.By (sL s) := by
  have h1 := h.z.n
  have h2 := h.z.g
  exact (by_txL _ (by omega)).app ((by_txL _ (by omega)).app ((by_intL _ h.w.1 h.w.2).app ((by_intL _ h.f.1 h.f.2).app (by_intL _ h.t.1 h.t.2))))
theorem tF_big (s : ByteArray) (m : Nat) (rest : List Int) (hs : m < s.size) (hm : s.size ≤ 1000000) : tF m (putL 0 s.size ++ strL s ++ rest) = none := by
  unfold tF cF
  rw [List.append_assoc, nF_put s.size _ (by omega)]
  simp only
  rw [if_pos (by omega)]
theorem sgX_any {k : Sl} (h : Sb k) : sgX (sL k) = some (k, []) ∨ sgX (sL k) = none := by
  have h1 := h.z.n
  have h2 := h.z.g
  have hw := h.w
  have hf := h.f
  have ht := h.t
  obtain ⟨g, r, w, f, t⟩ := k
  simp only at h1 h2 hw hf ht
  have e0 : sL ⟨g, r, w, f, t⟩ = putL 0 g.size ++ strL g ++ (putL 0 r.size ++ strL r ++ (intL w ++ (intL f ++ (intL t ++ [])))) := by simp [sL, txL]
  rw [e0]
  unfold sgX
  by_cases q1 : g.size ≤ 160
  · have p1 : ∀ X, tF 160 (putL 0 g.size ++ strL g ++ X) = some (strL g, X) := fun X => tF_put g 160 X (by omega) (by omega)
    rw [p1]
    simp only
    by_cases q2 : r.size ≤ 160
    · have p2 : ∀ X, tF 160 (putL 0 r.size ++ strL r ++ X) = some (strL r, X) := fun X => tF_put r 160 X (by omega) (by omega)
      rw [p2]
      simp only
      rw [iF_put w _ hw.1 hw.2]
      simp only
      rw [iF_put f _ hf.1 hf.2]
      simp only
      rw [iF_put t _ ht.1 ht.2]
      simp only [bstr_strL]
      exact .inl trivial
    · have p2 : ∀ X, tF 160 (putL 0 r.size ++ strL r ++ X) = none := fun X => tF_big r 160 X (by omega) (by omega)
      rw [p2]
      exact .inr rfl
  · have p1 : ∀ X, tF 160 (putL 0 g.size ++ strL g ++ X) = none := fun X => tF_big g 160 X (by omega) (by omega)
    rw [p1]
    exact .inr rfl
theorem sgS_any {k : Sl} (h : Sb k) : sgS (some (sL k)) = if srB k = true then (k, some []) else (s0, none) := by
  rw [sgS_X]
  by_cases hr : srB k = true
  · have := sgX_put hr []
    rw [List.append_nil] at this
    rw [this, if_pos hr]
    simp only [hr, if_true]
  · rw [if_neg hr]
    rcases sgX_any h with h1 | h1
    · rw [h1]; simp only [hr, if_false]; rfl
    · rw [h1]
theorem sgX_len {Z r : List Int} {k : Sl} (hb : Wi.By Z) (h : sgX Z = some (k, r)) : r.length ≤ Z.length := by
  have := sgX_canon hb h
  rw [this, List.length_append]; omega
abbrev T2 (FZ AZ : List Int) (n0 n1 : Nat) : Hp := [(0, .ro .u8 FZ 256 n0), (1, .ro .u8 AZ 32 n1)]
set_option maxHeartbeats 8000000 in
set_option maxRecDepth 8000 in
theorem hbytes_main (x : Sl) (FZ AZ : List Int) (n0 n1 : Nat) (Z M : List Int) (p : Bool) (hzl : Z.length ≤ 500) (hx1 : x.nm.size ≤ 500) (hx2 : x.gl.size ≤ 500)
    (cA : ACt Tryd.prog 6 [] (T2 FZ AZ n0 n1) (fun r F' => r = bv true ∧ F' = T2 FZ AZ n0 n1)) (cR : ACt Tryd.prog 10 [siv x] [] (Fn (bv p)))
    (cP : ∀ b, ACt Tryd.prog 24 [ms b 0 1 1, siv x] [(b, .zs .u8 [9] 1 5)] (Row .u8 5 (9 :: M)))
    (cW : ACt Tryd.prog 27 [siv x] [] (Fn (.slz .u8 M)))
    (cG : (p = true ∧ ∀ b, ACt Tryd.prog 26 [pt b 0] [(b, rd M false), (0, .ro .u8 FZ 256 n0), (1, .ro .u8 AZ 32 n1)] (fun r F' => r = siv x ∧ F' = [(b, rd [] false), (0, .ro .u8 FZ 256 n0), (1, .ro .u8 AZ 32 n1)])) ∨
      (p = false ∧ ∀ b, ACt Tryd.prog 26 [pt b 0] [(b, rd M false), (0, .ro .u8 FZ 256 n0), (1, .ro .u8 AZ 32 n1)] (fun r F' => r = siv s0 ∧ F' = [(b, rdN), (0, .ro .u8 FZ 256 n0), (1, .ro .u8 AZ 32 n1)])))
    (hX : (∃ k r, r.length ≤ Z.length ∧ (∀ b, ACt Tryd.prog 26 [pt b 0] [(b, rd Z false), (0, .ro .u8 FZ 256 n0), (1, .ro .u8 AZ 32 n1)] (fun x F' => x = siv k ∧ F' = [(b, rd r false), (0, .ro .u8 FZ 256 n0), (1, .ro .u8 AZ 32 n1)])) ∧ ACt Tryd.prog 30 [.slz .u8 Z, iv .i64 0] [] (Fn (.tup [siv k, iv .i64 ((Z.length - r.length : Nat) : Int), bv true]))) ∨
      (∃ k v, (∀ b, ACt Tryd.prog 26 [pt b 0] [(b, rd Z false), (0, .ro .u8 FZ 256 n0), (1, .ro .u8 AZ 32 n1)] (fun x F' => x = siv s0 ∧ F' = [(b, rdN), (0, .ro .u8 FZ 256 n0), (1, .ro .u8 AZ 32 n1)])) ∧ ACt Tryd.prog 30 [.slz .u8 Z, iv .i64 0] [] (Fn (.tup [siv k, iv .i64 v, bv false])))) :
    ACt Tryd.prog 5 [siv x, .slz .u8 Z] (T2 FZ AZ n0 n1) (fun r F' => r = bv true ∧ F' = T2 FZ AZ n0 n1) := by
  have k1 : decide ((x.nm.size : Int) > 500) = false := decide_eq_false (by omega)
  have k2 : decide ((x.gl.size : Int) > 500) = false := decide_eq_false (by omega)
  have k3 : decide ((Z.length : Int) > 500) = false := decide_eq_false (by omega)
  have cN2 := new_cr Z
  have cN1 := new_cr M
  have cE := fun b => endR b
  have cBx := fun b => bad_e b true
  have hf := fe32
  obtain ⟨xn, xg, xw, xf, xt⟩ := x
  simp only at k1 k2 cR cP cW cG
  have hself : (xn == xn && (xg == xg && (xw == xw && (xf == xf && xt == xt)))) = true := (seqB_iff ⟨xn, xg, xw, xf, xt⟩ ⟨xn, xg, xw, xf, xt⟩).2 rfl
  have hxn : (xn == xn) = true := (ba_iff xn xn).2 rfl
  have hxg : (xg == xg) = true := (ba_iff xg xg).2 rfl
  have hee : ((⟨#[]⟩ : ByteArray) == ⟨#[]⟩) = true := (ba_iff _ _).2 rfl
  obtain ⟨e0, he0⟩ : ∃ e, (xn == (⟨#[]⟩ : ByteArray) && (xg == (⟨#[]⟩ : ByteArray) && (xw == 0 && (xf == 0 && xt == 0)))) = e := ⟨_, rfl⟩
  obtain ⟨e2, he2⟩ : ∃ e, ((⟨#[]⟩ : ByteArray) == xn && ((⟨#[]⟩ : ByteArray) == xg && ((0 : Int) == xw && ((0 : Int) == xf && (0 : Int) == xt)))) = e := ⟨_, rfl⟩
  unfold T2 at cA ⊢
  obtain ⟨L, hL⟩ : ∃ L, L = (9 : Int) :: M := ⟨_, rfl⟩
  rw [← hL] at cP
  obtain ⟨q, hq⟩ : ∃ q, L.length = q := ⟨_, rfl⟩
  obtain ⟨m, hm⟩ : ∃ q, M.length = q := ⟨_, rfl⟩
  have hqm : q = m + 1 := by rw [← hq, hL, ← hm]; rfl
  have hd1 : L.drop 1 = M := by rw [hL]; rfl
  have hd0 : L.drop 0 = L := rfl
  have hg0 : L.getD 0 0 = 9 := by rw [hL]; rfl
  have hg1 : L[0]?.getD 0 = 9 := by rw [hL]; rfl
  have htk : L.take q = L := by rw [← hq]; exact List.take_length
  have htm : M.take m = M := by rw [← hm]; exact List.take_length
  have hq1 : q - 1 = m := by omega
  have i1 : 1 ≤ q := by omega
  have hle : q ≤ q := Nat.le_refl q
  have az : ∀ q : Nat, 0 + q = q := fun q => Nat.zero_add q
  have hs : ((bstr M).toList == (bstr M).toList) = true := beq_self_eq_true _
  have hs2 : ((bstr M).toList != (bstr M).toList) = false := by simp
  have z9 : ((9 : Int) != 9) = false := rfl
  have z0 : ((0 : Int) != 0) = false := rfl
  clear hL
  refine ACt.intro Tryd.func5 rfl (by kernel_rfl) (by simp [Tryd.ntmps5]) (fun cx => ?_)
  simp only [argE, Tryd.ntmps5, Tryd.results5]
  first | (have FRx := FR; clear FRx) | have FR := fr0S
  have FA := Sm.mk (And.intro TFHuS (And.intro k1 (And.intro k2 k3)))
  repeat' first | (apply Sm.mk; refine Ys ?_) | refine WP.seq fun K hK => ?_ | (apply Ob.mk; exact Yo) | refine And.intro (Ob.out ?_) ?_ | ((fail_if_success (show WP _ _ _ (.region 6 _ _) _ _)); refine Y1HuS ?_) | refine Yl2 (c := cA) (r := ?_) | refine Yv (c := cP nb2) (r := ?_) | refine Yc (c := cP nb2) (r := ?_) | refine YzHuS ?_ | (refine WP.cond rfl (fun hc => ?_) (fun hc => ?_) <;> (try simp only [ZC, reduceCtorEq, ZD] at hc) <;> (try exact absurd hc (by decide)) <;> (try (exfalso; omega))) | refine Rt.mk (And.intro (fun hg => Sm.out ?_) fun hg => Sm.out ?_) | (refine Nu.mk ?_; first | (fail_if_success have := nb1); intro nb1 | (fail_if_success have := nb2); intro nb2 | (fail_if_success have := nb3); intro nb3 | (fail_if_success have := nb4); intro nb4 | (fail_if_success have := nb5); intro nb5 | (fail_if_success have := nb6); intro nb6 | (fail_if_success have := nb7); intro nb7 | (fail_if_success have := nb8); intro nb8 | (fail_if_success have := nb9); intro nb9 | (fail_if_success have := nb10); intro nb10 | (fail_if_success have := nb11); intro nb11 | (fail_if_success have := nb12); intro nb12 | (fail_if_success have := nb13); intro nb13 | (fail_if_success have := nb14); intro nb14 | intro nbz) | (apply Yfr; refine Yf FR fun hFRb FR => ?_) | refine Two.mk ?_ ?_ | (apply Yxc; exact Yx) | refine Cs.mk fun hcs => Sm.out ?_ | go_step | omega | (simp only [maxLen_eq]; omega) | exact trivial | refine Or.inr (Rt.mk (And.intro (fun hg => Sm.out ?_) fun hg => Sm.out ?_))
  have b1 : q ≤ nb4 := by have := hFRb; omega
  have b2 : nb4 ≤ 9223372036854775807 := by have := hFRb; omega
  (refine WP.wk (Wk.freeze (nb3) (by simp only [ZK, rvc, capA, appA, litL, mkfv, drawF, headN, pureH, stp, dvc, calleeOf, gcall, pev, eff, newB, okd, og, ogs, ogo, ogp, slv, bltv, opd, litv, strip, one, both, putE, St.put, look, gdOf, gdv, picka, pickv, pickw, binv, bini, bins, binb, binp, binq, isSlT, bina, shp, eqCells, unv, convv, nilv, faddv, addp, idxav, idxp, load1, load1m, loadn, loadnm, loadv, hget, hset, hrep, hdel, slicev, slice3v, bnd, shift1, lenv, capv, IntKind.bits, extractv, fieldv, indexv, min2v, max2v, mkiv, tasv, tasz, cellsA, fillA, buildv, stC, oneC, rowMB, intsA, plN, appE, appZ, appC, appS, srcB, appNZ, appNC, VwL, srcC, srcZ, srcM, isBoolT, isPtrT, isSliceT, uOk, Value.oneCell', Nat.reducePow, Int.reducePow, Nat.reduceAdd, Nat.reduceMul, Nat.reduceSub, Nat.reduceLT, Nat.reduceLeDiff, Nat.reduceEqDiff, Nat.reduceBEq, Nat.reduceDiv, Nat.reduceMod, ↓reduceIte, reduceCtorEq, Int.reduceToNat, Int.reduceLT, Int.reduceLE, TFHuS, SeqQ, BlkQ, LoopQ, BodyQ, hq, hle, az, b1, b2, hd0, htk, FR.out]; first | done | rfl)) ?_; simp only [frzE, frz, ZK, rvc, capA, appA, litL, mkfv, drawF, headN, pureH, stp, dvc, calleeOf, gcall, pev, eff, newB, okd, og, ogs, ogo, ogp, slv, bltv, opd, litv, strip, one, both, putE, St.put, look, gdOf, gdv, picka, pickv, pickw, binv, bini, bins, binb, binp, binq, isSlT, bina, shp, eqCells, unv, convv, nilv, faddv, addp, idxav, idxp, load1, load1m, loadn, loadnm, loadv, hget, hset, hrep, hdel, slicev, slice3v, bnd, shift1, lenv, capv, IntKind.bits, extractv, fieldv, indexv, min2v, max2v, mkiv, tasv, tasz, cellsA, fillA, buildv, stC, oneC, rowMB, intsA, plN, appE, appZ, appC, appS, srcB, appNZ, appNC, VwL, srcC, srcZ, srcM, isBoolT, isPtrT, isSliceT, uOk, Value.oneCell', Nat.reducePow, Int.reducePow, Nat.reduceAdd, Nat.reduceMul, Nat.reduceSub, Nat.reduceLT, Nat.reduceLeDiff, Nat.reduceEqDiff, Nat.reduceBEq, Nat.reduceDiv, Nat.reduceMod, ↓reduceIte, reduceCtorEq, Int.reduceToNat, Int.reduceLT, Int.reduceLE, TFHuS, SeqQ, BlkQ, LoopQ, BodyQ, hq, hle, az, b1, b2, hd0, htk, FR.out])
  rcases hX with ⟨k, r, hr, cG2, cX⟩ | ⟨k, v, cG2, cX⟩
  · have cL := fun b => leftR b r
    have cBd := fun b => badR b r false
    have w1 : IntKind.i64.wrap ((Z.length : Int) - ((Z.length - r.length : Nat) : Int)) = (r.length : Int) := by rw [wrap_i64 (by omega) (by omega)]; omega
    have z1 : ((r.length : Int) == (r.length : Int)) = true := by simp
    obtain ⟨A2, hA2⟩ : ∃ q, q = Z.length - r.length := ⟨_, rfl⟩
    rw [← hA2] at cX w1
    obtain ⟨kn, kg, kw, kf, kt⟩ := k
    have hkn : (kn == kn) = true := (ba_iff kn kn).2 rfl
    have hkg : (kg == kg) = true := (ba_iff kg kg).2 rfl
    rcases cG with ⟨rfl, cG⟩ | ⟨rfl, cG⟩
    · cases e0
      all_goals (
          first | (have FRx := FR; clear FRx) | have FR := fr0S
          have FA := Sm.mk (And.intro TFHuS (And.intro k1 (And.intro k2 (And.intro k3 (And.intro hd0 (And.intro hd1 (And.intro hg0 (And.intro hg1 (And.intro htk (And.intro htm (And.intro hq (And.intro hq1 (And.intro hm (And.intro i1 (And.intro hs (And.intro hs2 (And.intro z9 (And.intro z0 (And.intro hf (And.intro hself (And.intro hxn (And.intro hxg (And.intro hee (And.intro he0 (And.intro w1 (And.intro z1 (And.intro hkn hkg)))))))))))))))))))))))))))
          repeat' first | (apply Sm.mk; refine Ys ?_) | refine WP.seq fun K hK => ?_ | (apply Ob.mk; exact Yo) | refine And.intro (Ob.out ?_) ?_ | refine Y1HuS ?_ | (refine CallV.row (by simp only [hget, ↓reduceIte, FR.out, k1, k2, k3, hd0, hd1, hg0, hg1, htk, htm, hq, hq1, hm, i1, hs, hs2, z9, z0, hf, hself, hxn, hxg, hee, he0, w1, z1, hkn, hkg]; first | done | rfl) (cN1) (Sm.out ?_)) | refine CallV.mkrow (cN1) (Sm.out ?_) | (refine CallV.upd (by simp only [hget, ↓reduceIte, FR.out, k1, k2, k3, hd0, hd1, hg0, hg1, htk, htm, hq, hq1, hm, i1, hs, hs2, z9, z0, hf, hself, hxn, hxg, hee, he0, w1, z1, hkn, hkg]; first | done | rfl) (cN1) (Sm.out ?_)) | refine CallV.mkobj (cN1) (Sm.out ?_) | (first | refine CallV.fn (cN1) (Sm.out ?_) | refine ExF.mk (cN1) (Sm.out ?_) | refine ExG.mk (fun _ => cN1) (Sm.out ?_) | refine ExG.mkJ (fun _ => cN1) (Sm.out ?_) | refine ExG.mkI (Ob.out ?_) (fun _ => cN1) (Sm.out ?_)) | (refine CallV.updM ((cG _)) (perm3 (by simp only [hget, hdel, ↓reduceIte, FR.out]; first | done | rfl) (by simp only [hget, hdel, ↓reduceIte, FR.out]; first | done | rfl) (by simp only [hget, hdel, ↓reduceIte, FR.out]; first | done | rfl)) (Sm.out ?_)) | (first | refine CallV.fn (cW) (Sm.out ?_) | refine ExF.mk (cW) (Sm.out ?_) | refine ExG.mk (fun _ => cW) (Sm.out ?_) | refine ExG.mkJ (fun _ => cW) (Sm.out ?_) | refine ExG.mkI (Ob.out ?_) (fun _ => cW) (Sm.out ?_)) | (first | refine CallV.fn (cR) (Sm.out ?_) | refine ExF.mk (cR) (Sm.out ?_) | refine ExG.mk (fun _ => cR) (Sm.out ?_) | refine ExG.mkJ (fun _ => cR) (Sm.out ?_) | refine ExG.mkI (Ob.out ?_) (fun _ => cR) (Sm.out ?_)) | (refine CallV.updM ((cE _)) (perm1 (by simp only [hget, hdel, ↓reduceIte, FR.out, k1, k2, k3, hd0, hd1, hg0, hg1, htk, htm, hq, hq1, hm, i1, hs, hs2, z9, z0, hf, hself, hxn, hxg, hee, he0, w1, z1, hkn, hkg]; first | done | rfl)) (Sm.out ?_)) | ((first | refine ExF.up ?_ ((cE _)) (Sm.out ?_) | refine ExG.up ?_ (fun _ => (cE _)) (Sm.out ?_) | refine ExG.upJ ?_ (fun _ => (cE _)) (Sm.out ?_) | refine ExG.upI ?_ (fun _ => (cE _)) (Ob.out ?_) (Sm.out ?_)); focus (exact ⟨_, (perm1 (by simp only [hget, hdel, ↓reduceIte, FR.out, k1, k2, k3, hd0, hd1, hg0, hg1, htk, htm, hq, hq1, hm, i1, hs, hs2, z9, z0, hf, hself, hxn, hxg, hee, he0, w1, z1, hkn, hkg]; first | done | rfl))⟩)) | (refine CallV.row (by simp only [hget, ↓reduceIte, FR.out, k1, k2, k3, hd0, hd1, hg0, hg1, htk, htm, hq, hq1, hm, i1, hs, hs2, z9, z0, hf, hself, hxn, hxg, hee, he0, w1, z1, hkn, hkg]; first | done | rfl) (cN2) (Sm.out ?_)) | refine CallV.mkrow (cN2) (Sm.out ?_) | (refine CallV.upd (by simp only [hget, ↓reduceIte, FR.out, k1, k2, k3, hd0, hd1, hg0, hg1, htk, htm, hq, hq1, hm, i1, hs, hs2, z9, z0, hf, hself, hxn, hxg, hee, he0, w1, z1, hkn, hkg]; first | done | rfl) (cN2) (Sm.out ?_)) | refine CallV.mkobj (cN2) (Sm.out ?_) | (first | refine CallV.fn (cN2) (Sm.out ?_) | refine ExF.mk (cN2) (Sm.out ?_) | refine ExG.mk (fun _ => cN2) (Sm.out ?_) | refine ExG.mkJ (fun _ => cN2) (Sm.out ?_) | refine ExG.mkI (Ob.out ?_) (fun _ => cN2) (Sm.out ?_)) | (refine CallV.updM ((cG2 _)) (perm3 (by simp only [hget, hdel, ↓reduceIte, FR.out]; first | done | rfl) (by simp only [hget, hdel, ↓reduceIte, FR.out]; first | done | rfl) (by simp only [hget, hdel, ↓reduceIte, FR.out]; first | done | rfl)) (Sm.out ?_)) | (first | refine CallV.fn (cX) (Sm.out ?_) | refine ExF.mk (cX) (Sm.out ?_) | refine ExG.mk (fun _ => cX) (Sm.out ?_) | refine ExG.mkJ (fun _ => cX) (Sm.out ?_) | refine ExG.mkI (Ob.out ?_) (fun _ => cX) (Sm.out ?_)) | (refine CallV.updM ((cBd _)) (perm1 (by simp only [hget, hdel, ↓reduceIte, FR.out, k1, k2, k3, hd0, hd1, hg0, hg1, htk, htm, hq, hq1, hm, i1, hs, hs2, z9, z0, hf, hself, hxn, hxg, hee, he0, w1, z1, hkn, hkg]; first | done | rfl)) (Sm.out ?_)) | ((first | refine ExF.up ?_ ((cBd _)) (Sm.out ?_) | refine ExG.up ?_ (fun _ => (cBd _)) (Sm.out ?_) | refine ExG.upJ ?_ (fun _ => (cBd _)) (Sm.out ?_) | refine ExG.upI ?_ (fun _ => (cBd _)) (Ob.out ?_) (Sm.out ?_)); focus (exact ⟨_, (perm1 (by simp only [hget, hdel, ↓reduceIte, FR.out, k1, k2, k3, hd0, hd1, hg0, hg1, htk, htm, hq, hq1, hm, i1, hs, hs2, z9, z0, hf, hself, hxn, hxg, hee, he0, w1, z1, hkn, hkg]; first | done | rfl))⟩)) | (refine CallV.updM ((cL _)) (perm1 (by simp only [hget, hdel, ↓reduceIte, FR.out, k1, k2, k3, hd0, hd1, hg0, hg1, htk, htm, hq, hq1, hm, i1, hs, hs2, z9, z0, hf, hself, hxn, hxg, hee, he0, w1, z1, hkn, hkg]; first | done | rfl)) (Sm.out ?_)) | ((first | refine ExF.up ?_ ((cL _)) (Sm.out ?_) | refine ExG.up ?_ (fun _ => (cL _)) (Sm.out ?_) | refine ExG.upJ ?_ (fun _ => (cL _)) (Sm.out ?_) | refine ExG.upI ?_ (fun _ => (cL _)) (Ob.out ?_) (Sm.out ?_)); focus (exact ⟨_, (perm1 (by simp only [hget, hdel, ↓reduceIte, FR.out, k1, k2, k3, hd0, hd1, hg0, hg1, htk, htm, hq, hq1, hm, i1, hs, hs2, z9, z0, hf, hself, hxn, hxg, hee, he0, w1, z1, hkn, hkg]; first | done | rfl))⟩)) | refine YzHuS ?_ | (refine WP.cond rfl (fun hc => ?_) (fun hc => ?_) <;> (try simp only [ZC, reduceCtorEq, ZD] at hc) <;> (try exact absurd hc (by decide)) <;> (try (exfalso; omega))) | refine Rt.mk (And.intro (fun hg => Sm.out ?_) fun hg => Sm.out ?_) | (refine Nu.mk ?_; first | (fail_if_success have := nb1); intro nb1 | (fail_if_success have := nb2); intro nb2 | (fail_if_success have := nb3); intro nb3 | (fail_if_success have := nb4); intro nb4 | (fail_if_success have := nb5); intro nb5 | (fail_if_success have := nb6); intro nb6 | (fail_if_success have := nb7); intro nb7 | (fail_if_success have := nb8); intro nb8 | (fail_if_success have := nb9); intro nb9 | (fail_if_success have := nb10); intro nb10 | (fail_if_success have := nb11); intro nb11 | (fail_if_success have := nb12); intro nb12 | (fail_if_success have := nb13); intro nb13 | (fail_if_success have := nb14); intro nb14 | intro nbz) | (apply Yfr; refine Yf FR fun hFRb FR => ?_) | refine Two.mk ?_ ?_ | (apply Yxc; exact Yx) | refine Cs.mk fun hcs => Sm.out ?_ | go_step | omega | (simp only [maxLen_eq]; omega) | exact trivial | refine Or.inr (Rt.mk (And.intro (fun hg => Sm.out ?_) fun hg => Sm.out ?_)))
      all_goals (refine OutQ.drop _ _ (perm2 (by simp only [hget, hdel, ↓reduceIte, if_true, if_false, FR.out]; first | done | rfl) (by simp only [hget, hdel, ↓reduceIte, if_true, if_false, FR.out]; first | done | rfl)) (by simp only [resv, ZK, look, loadv, loadn, loadnm, load1, load1m, hget, ↓reduceIte, Nat.reduceEqDiff, Nat.reduceAdd, Nat.reduceMul, Nat.reduceLeDiff, Nat.reduceLT, reduceCtorEq, TFHuS, FR.out]) ⟨(by simp only [resv, resA, ZK, look, loadv, loadn, loadnm, load1, load1m, hget, ↓reduceIte, Nat.reduceEqDiff, Nat.reduceAdd, Nat.reduceMul, Nat.reduceLeDiff, Nat.reduceLT, reduceCtorEq, TFHuS, FR.out]; first | done | rfl), rfl⟩)
    · unfold s0 at cG
      cases e2
      all_goals (
          first | (have FRx := FR; clear FRx) | have FR := fr0S
          have FA := Sm.mk (And.intro TFHuS (And.intro k1 (And.intro k2 (And.intro k3 (And.intro hd0 (And.intro hd1 (And.intro hg0 (And.intro hg1 (And.intro htk (And.intro htm (And.intro hq (And.intro hq1 (And.intro hm (And.intro i1 (And.intro hs (And.intro hs2 (And.intro z9 (And.intro z0 (And.intro hf (And.intro hself (And.intro hxn (And.intro hxg (And.intro hee (And.intro he2 (And.intro w1 (And.intro z1 (And.intro hkn hkg)))))))))))))))))))))))))))
          repeat' first | (apply Sm.mk; refine Ys ?_) | refine WP.seq fun K hK => ?_ | (apply Ob.mk; exact Yo) | refine And.intro (Ob.out ?_) ?_ | refine Y1HuS ?_ | (refine CallV.row (by simp only [hget, ↓reduceIte, FR.out, k1, k2, k3, hd0, hd1, hg0, hg1, htk, htm, hq, hq1, hm, i1, hs, hs2, z9, z0, hf, hself, hxn, hxg, hee, he2, w1, z1, hkn, hkg]; first | done | rfl) (cN1) (Sm.out ?_)) | refine CallV.mkrow (cN1) (Sm.out ?_) | (refine CallV.upd (by simp only [hget, ↓reduceIte, FR.out, k1, k2, k3, hd0, hd1, hg0, hg1, htk, htm, hq, hq1, hm, i1, hs, hs2, z9, z0, hf, hself, hxn, hxg, hee, he2, w1, z1, hkn, hkg]; first | done | rfl) (cN1) (Sm.out ?_)) | refine CallV.mkobj (cN1) (Sm.out ?_) | (first | refine CallV.fn (cN1) (Sm.out ?_) | refine ExF.mk (cN1) (Sm.out ?_) | refine ExG.mk (fun _ => cN1) (Sm.out ?_) | refine ExG.mkJ (fun _ => cN1) (Sm.out ?_) | refine ExG.mkI (Ob.out ?_) (fun _ => cN1) (Sm.out ?_)) | (refine CallV.updM ((cG _)) (perm3 (by simp only [hget, hdel, ↓reduceIte, FR.out]; first | done | rfl) (by simp only [hget, hdel, ↓reduceIte, FR.out]; first | done | rfl) (by simp only [hget, hdel, ↓reduceIte, FR.out]; first | done | rfl)) (Sm.out ?_)) | (first | refine CallV.fn (cW) (Sm.out ?_) | refine ExF.mk (cW) (Sm.out ?_) | refine ExG.mk (fun _ => cW) (Sm.out ?_) | refine ExG.mkJ (fun _ => cW) (Sm.out ?_) | refine ExG.mkI (Ob.out ?_) (fun _ => cW) (Sm.out ?_)) | (first | refine CallV.fn (cR) (Sm.out ?_) | refine ExF.mk (cR) (Sm.out ?_) | refine ExG.mk (fun _ => cR) (Sm.out ?_) | refine ExG.mkJ (fun _ => cR) (Sm.out ?_) | refine ExG.mkI (Ob.out ?_) (fun _ => cR) (Sm.out ?_)) | (refine CallV.updM ((cBx _)) (perm1 (by simp only [hget, hdel, ↓reduceIte, FR.out, k1, k2, k3, hd0, hd1, hg0, hg1, htk, htm, hq, hq1, hm, i1, hs, hs2, z9, z0, hf, hself, hxn, hxg, hee, he2, w1, z1, hkn, hkg]; first | done | rfl)) (Sm.out ?_)) | ((first | refine ExF.up ?_ ((cBx _)) (Sm.out ?_) | refine ExG.up ?_ (fun _ => (cBx _)) (Sm.out ?_) | refine ExG.upJ ?_ (fun _ => (cBx _)) (Sm.out ?_) | refine ExG.upI ?_ (fun _ => (cBx _)) (Ob.out ?_) (Sm.out ?_)); focus (exact ⟨_, (perm1 (by simp only [hget, hdel, ↓reduceIte, FR.out, k1, k2, k3, hd0, hd1, hg0, hg1, htk, htm, hq, hq1, hm, i1, hs, hs2, z9, z0, hf, hself, hxn, hxg, hee, he2, w1, z1, hkn, hkg]; first | done | rfl))⟩)) | (refine CallV.row (by simp only [hget, ↓reduceIte, FR.out, k1, k2, k3, hd0, hd1, hg0, hg1, htk, htm, hq, hq1, hm, i1, hs, hs2, z9, z0, hf, hself, hxn, hxg, hee, he2, w1, z1, hkn, hkg]; first | done | rfl) (cN2) (Sm.out ?_)) | refine CallV.mkrow (cN2) (Sm.out ?_) | (refine CallV.upd (by simp only [hget, ↓reduceIte, FR.out, k1, k2, k3, hd0, hd1, hg0, hg1, htk, htm, hq, hq1, hm, i1, hs, hs2, z9, z0, hf, hself, hxn, hxg, hee, he2, w1, z1, hkn, hkg]; first | done | rfl) (cN2) (Sm.out ?_)) | refine CallV.mkobj (cN2) (Sm.out ?_) | (first | refine CallV.fn (cN2) (Sm.out ?_) | refine ExF.mk (cN2) (Sm.out ?_) | refine ExG.mk (fun _ => cN2) (Sm.out ?_) | refine ExG.mkJ (fun _ => cN2) (Sm.out ?_) | refine ExG.mkI (Ob.out ?_) (fun _ => cN2) (Sm.out ?_)) | (refine CallV.updM ((cG2 _)) (perm3 (by simp only [hget, hdel, ↓reduceIte, FR.out]; first | done | rfl) (by simp only [hget, hdel, ↓reduceIte, FR.out]; first | done | rfl) (by simp only [hget, hdel, ↓reduceIte, FR.out]; first | done | rfl)) (Sm.out ?_)) | (first | refine CallV.fn (cX) (Sm.out ?_) | refine ExF.mk (cX) (Sm.out ?_) | refine ExG.mk (fun _ => cX) (Sm.out ?_) | refine ExG.mkJ (fun _ => cX) (Sm.out ?_) | refine ExG.mkI (Ob.out ?_) (fun _ => cX) (Sm.out ?_)) | (refine CallV.updM ((cBd _)) (perm1 (by simp only [hget, hdel, ↓reduceIte, FR.out, k1, k2, k3, hd0, hd1, hg0, hg1, htk, htm, hq, hq1, hm, i1, hs, hs2, z9, z0, hf, hself, hxn, hxg, hee, he2, w1, z1, hkn, hkg]; first | done | rfl)) (Sm.out ?_)) | ((first | refine ExF.up ?_ ((cBd _)) (Sm.out ?_) | refine ExG.up ?_ (fun _ => (cBd _)) (Sm.out ?_) | refine ExG.upJ ?_ (fun _ => (cBd _)) (Sm.out ?_) | refine ExG.upI ?_ (fun _ => (cBd _)) (Ob.out ?_) (Sm.out ?_)); focus (exact ⟨_, (perm1 (by simp only [hget, hdel, ↓reduceIte, FR.out, k1, k2, k3, hd0, hd1, hg0, hg1, htk, htm, hq, hq1, hm, i1, hs, hs2, z9, z0, hf, hself, hxn, hxg, hee, he2, w1, z1, hkn, hkg]; first | done | rfl))⟩)) | (refine CallV.updM ((cL _)) (perm1 (by simp only [hget, hdel, ↓reduceIte, FR.out, k1, k2, k3, hd0, hd1, hg0, hg1, htk, htm, hq, hq1, hm, i1, hs, hs2, z9, z0, hf, hself, hxn, hxg, hee, he2, w1, z1, hkn, hkg]; first | done | rfl)) (Sm.out ?_)) | ((first | refine ExF.up ?_ ((cL _)) (Sm.out ?_) | refine ExG.up ?_ (fun _ => (cL _)) (Sm.out ?_) | refine ExG.upJ ?_ (fun _ => (cL _)) (Sm.out ?_) | refine ExG.upI ?_ (fun _ => (cL _)) (Ob.out ?_) (Sm.out ?_)); focus (exact ⟨_, (perm1 (by simp only [hget, hdel, ↓reduceIte, FR.out, k1, k2, k3, hd0, hd1, hg0, hg1, htk, htm, hq, hq1, hm, i1, hs, hs2, z9, z0, hf, hself, hxn, hxg, hee, he2, w1, z1, hkn, hkg]; first | done | rfl))⟩)) | refine YzHuS ?_ | (refine WP.cond rfl (fun hc => ?_) (fun hc => ?_) <;> (try simp only [ZC, reduceCtorEq, ZD] at hc) <;> (try exact absurd hc (by decide)) <;> (try (exfalso; omega))) | refine Rt.mk (And.intro (fun hg => Sm.out ?_) fun hg => Sm.out ?_) | (refine Nu.mk ?_; first | (fail_if_success have := nb1); intro nb1 | (fail_if_success have := nb2); intro nb2 | (fail_if_success have := nb3); intro nb3 | (fail_if_success have := nb4); intro nb4 | (fail_if_success have := nb5); intro nb5 | (fail_if_success have := nb6); intro nb6 | (fail_if_success have := nb7); intro nb7 | (fail_if_success have := nb8); intro nb8 | (fail_if_success have := nb9); intro nb9 | (fail_if_success have := nb10); intro nb10 | (fail_if_success have := nb11); intro nb11 | (fail_if_success have := nb12); intro nb12 | (fail_if_success have := nb13); intro nb13 | (fail_if_success have := nb14); intro nb14 | intro nbz) | (apply Yfr; refine Yf FR fun hFRb FR => ?_) | refine Two.mk ?_ ?_ | (apply Yxc; exact Yx) | refine Cs.mk fun hcs => Sm.out ?_ | go_step | omega | (simp only [maxLen_eq]; omega) | exact trivial | refine Or.inr (Rt.mk (And.intro (fun hg => Sm.out ?_) fun hg => Sm.out ?_)))
      all_goals (refine OutQ.drop _ _ (perm2 (by simp only [hget, hdel, ↓reduceIte, if_true, if_false, FR.out]; first | done | rfl) (by simp only [hget, hdel, ↓reduceIte, if_true, if_false, FR.out]; first | done | rfl)) (by simp only [resv, ZK, look, loadv, loadn, loadnm, load1, load1m, hget, ↓reduceIte, Nat.reduceEqDiff, Nat.reduceAdd, Nat.reduceMul, Nat.reduceLeDiff, Nat.reduceLT, reduceCtorEq, TFHuS, FR.out]) ⟨(by simp only [resv, resA, ZK, look, loadv, loadn, loadnm, load1, load1m, hget, ↓reduceIte, Nat.reduceEqDiff, Nat.reduceAdd, Nat.reduceMul, Nat.reduceLeDiff, Nat.reduceLT, reduceCtorEq, TFHuS, FR.out]; first | done | rfl), rfl⟩)
  · unfold s0 at cG2
    rcases cG with ⟨rfl, cG⟩ | ⟨rfl, cG⟩
    · cases e0
      all_goals (
          first | (have FRx := FR; clear FRx) | have FR := fr0S
          have FA := Sm.mk (And.intro TFHuS (And.intro k1 (And.intro k2 (And.intro k3 (And.intro hd0 (And.intro hd1 (And.intro hg0 (And.intro hg1 (And.intro htk (And.intro htm (And.intro hq (And.intro hq1 (And.intro hm (And.intro i1 (And.intro hs (And.intro hs2 (And.intro z9 (And.intro z0 (And.intro hf (And.intro hself (And.intro hxn (And.intro hxg (And.intro hee he0)))))))))))))))))))))))
          repeat' first | (apply Sm.mk; refine Ys ?_) | refine WP.seq fun K hK => ?_ | (apply Ob.mk; exact Yo) | refine And.intro (Ob.out ?_) ?_ | refine Y1HuS ?_ | (refine CallV.row (by simp only [hget, ↓reduceIte, FR.out, k1, k2, k3, hd0, hd1, hg0, hg1, htk, htm, hq, hq1, hm, i1, hs, hs2, z9, z0, hf, hself, hxn, hxg, hee, he0]; first | done | rfl) (cN1) (Sm.out ?_)) | refine CallV.mkrow (cN1) (Sm.out ?_) | (refine CallV.upd (by simp only [hget, ↓reduceIte, FR.out, k1, k2, k3, hd0, hd1, hg0, hg1, htk, htm, hq, hq1, hm, i1, hs, hs2, z9, z0, hf, hself, hxn, hxg, hee, he0]; first | done | rfl) (cN1) (Sm.out ?_)) | refine CallV.mkobj (cN1) (Sm.out ?_) | (first | refine CallV.fn (cN1) (Sm.out ?_) | refine ExF.mk (cN1) (Sm.out ?_) | refine ExG.mk (fun _ => cN1) (Sm.out ?_) | refine ExG.mkJ (fun _ => cN1) (Sm.out ?_) | refine ExG.mkI (Ob.out ?_) (fun _ => cN1) (Sm.out ?_)) | (refine CallV.updM ((cG _)) (perm3 (by simp only [hget, hdel, ↓reduceIte, FR.out]; first | done | rfl) (by simp only [hget, hdel, ↓reduceIte, FR.out]; first | done | rfl) (by simp only [hget, hdel, ↓reduceIte, FR.out]; first | done | rfl)) (Sm.out ?_)) | (first | refine CallV.fn (cW) (Sm.out ?_) | refine ExF.mk (cW) (Sm.out ?_) | refine ExG.mk (fun _ => cW) (Sm.out ?_) | refine ExG.mkJ (fun _ => cW) (Sm.out ?_) | refine ExG.mkI (Ob.out ?_) (fun _ => cW) (Sm.out ?_)) | (first | refine CallV.fn (cR) (Sm.out ?_) | refine ExF.mk (cR) (Sm.out ?_) | refine ExG.mk (fun _ => cR) (Sm.out ?_) | refine ExG.mkJ (fun _ => cR) (Sm.out ?_) | refine ExG.mkI (Ob.out ?_) (fun _ => cR) (Sm.out ?_)) | (refine CallV.updM ((cE _)) (perm1 (by simp only [hget, hdel, ↓reduceIte, FR.out, k1, k2, k3, hd0, hd1, hg0, hg1, htk, htm, hq, hq1, hm, i1, hs, hs2, z9, z0, hf, hself, hxn, hxg, hee, he0]; first | done | rfl)) (Sm.out ?_)) | ((first | refine ExF.up ?_ ((cE _)) (Sm.out ?_) | refine ExG.up ?_ (fun _ => (cE _)) (Sm.out ?_) | refine ExG.upJ ?_ (fun _ => (cE _)) (Sm.out ?_) | refine ExG.upI ?_ (fun _ => (cE _)) (Ob.out ?_) (Sm.out ?_)); focus (exact ⟨_, (perm1 (by simp only [hget, hdel, ↓reduceIte, FR.out, k1, k2, k3, hd0, hd1, hg0, hg1, htk, htm, hq, hq1, hm, i1, hs, hs2, z9, z0, hf, hself, hxn, hxg, hee, he0]; first | done | rfl))⟩)) | (refine CallV.row (by simp only [hget, ↓reduceIte, FR.out, k1, k2, k3, hd0, hd1, hg0, hg1, htk, htm, hq, hq1, hm, i1, hs, hs2, z9, z0, hf, hself, hxn, hxg, hee, he0]; first | done | rfl) (cN2) (Sm.out ?_)) | refine CallV.mkrow (cN2) (Sm.out ?_) | (refine CallV.upd (by simp only [hget, ↓reduceIte, FR.out, k1, k2, k3, hd0, hd1, hg0, hg1, htk, htm, hq, hq1, hm, i1, hs, hs2, z9, z0, hf, hself, hxn, hxg, hee, he0]; first | done | rfl) (cN2) (Sm.out ?_)) | refine CallV.mkobj (cN2) (Sm.out ?_) | (first | refine CallV.fn (cN2) (Sm.out ?_) | refine ExF.mk (cN2) (Sm.out ?_) | refine ExG.mk (fun _ => cN2) (Sm.out ?_) | refine ExG.mkJ (fun _ => cN2) (Sm.out ?_) | refine ExG.mkI (Ob.out ?_) (fun _ => cN2) (Sm.out ?_)) | (refine CallV.updM ((cG2 _)) (perm3 (by simp only [hget, hdel, ↓reduceIte, FR.out]; first | done | rfl) (by simp only [hget, hdel, ↓reduceIte, FR.out]; first | done | rfl) (by simp only [hget, hdel, ↓reduceIte, FR.out]; first | done | rfl)) (Sm.out ?_)) | (first | refine CallV.fn (cX) (Sm.out ?_) | refine ExF.mk (cX) (Sm.out ?_) | refine ExG.mk (fun _ => cX) (Sm.out ?_) | refine ExG.mkJ (fun _ => cX) (Sm.out ?_) | refine ExG.mkI (Ob.out ?_) (fun _ => cX) (Sm.out ?_)) | (refine CallV.updM ((cBx _)) (perm1 (by simp only [hget, hdel, ↓reduceIte, FR.out, k1, k2, k3, hd0, hd1, hg0, hg1, htk, htm, hq, hq1, hm, i1, hs, hs2, z9, z0, hf, hself, hxn, hxg, hee, he0]; first | done | rfl)) (Sm.out ?_)) | ((first | refine ExF.up ?_ ((cBx _)) (Sm.out ?_) | refine ExG.up ?_ (fun _ => (cBx _)) (Sm.out ?_) | refine ExG.upJ ?_ (fun _ => (cBx _)) (Sm.out ?_) | refine ExG.upI ?_ (fun _ => (cBx _)) (Ob.out ?_) (Sm.out ?_)); focus (exact ⟨_, (perm1 (by simp only [hget, hdel, ↓reduceIte, FR.out, k1, k2, k3, hd0, hd1, hg0, hg1, htk, htm, hq, hq1, hm, i1, hs, hs2, z9, z0, hf, hself, hxn, hxg, hee, he0]; first | done | rfl))⟩)) | refine YzHuS ?_ | (refine WP.cond rfl (fun hc => ?_) (fun hc => ?_) <;> (try simp only [ZC, reduceCtorEq, ZD] at hc) <;> (try exact absurd hc (by decide)) <;> (try (exfalso; omega))) | refine Rt.mk (And.intro (fun hg => Sm.out ?_) fun hg => Sm.out ?_) | (refine Nu.mk ?_; first | (fail_if_success have := nb1); intro nb1 | (fail_if_success have := nb2); intro nb2 | (fail_if_success have := nb3); intro nb3 | (fail_if_success have := nb4); intro nb4 | (fail_if_success have := nb5); intro nb5 | (fail_if_success have := nb6); intro nb6 | (fail_if_success have := nb7); intro nb7 | (fail_if_success have := nb8); intro nb8 | (fail_if_success have := nb9); intro nb9 | (fail_if_success have := nb10); intro nb10 | (fail_if_success have := nb11); intro nb11 | (fail_if_success have := nb12); intro nb12 | (fail_if_success have := nb13); intro nb13 | (fail_if_success have := nb14); intro nb14 | intro nbz) | (apply Yfr; refine Yf FR fun hFRb FR => ?_) | refine Two.mk ?_ ?_ | (apply Yxc; exact Yx) | refine Cs.mk fun hcs => Sm.out ?_ | go_step | omega | (simp only [maxLen_eq]; omega) | exact trivial | refine Or.inr (Rt.mk (And.intro (fun hg => Sm.out ?_) fun hg => Sm.out ?_)))
      all_goals (refine OutQ.drop _ _ (perm2 (by simp only [hget, hdel, ↓reduceIte, if_true, if_false, FR.out]; first | done | rfl) (by simp only [hget, hdel, ↓reduceIte, if_true, if_false, FR.out]; first | done | rfl)) (by simp only [resv, ZK, look, loadv, loadn, loadnm, load1, load1m, hget, ↓reduceIte, Nat.reduceEqDiff, Nat.reduceAdd, Nat.reduceMul, Nat.reduceLeDiff, Nat.reduceLT, reduceCtorEq, TFHuS, FR.out]) ⟨(by simp only [resv, resA, ZK, look, loadv, loadn, loadnm, load1, load1m, hget, ↓reduceIte, Nat.reduceEqDiff, Nat.reduceAdd, Nat.reduceMul, Nat.reduceLeDiff, Nat.reduceLT, reduceCtorEq, TFHuS, FR.out]; first | done | rfl), rfl⟩)
    · unfold s0 at cG
      cases e2
      all_goals (
          first | (have FRx := FR; clear FRx) | have FR := fr0S
          have FA := Sm.mk (And.intro TFHuS (And.intro k1 (And.intro k2 (And.intro k3 (And.intro hd0 (And.intro hd1 (And.intro hg0 (And.intro hg1 (And.intro htk (And.intro htm (And.intro hq (And.intro hq1 (And.intro hm (And.intro i1 (And.intro hs (And.intro hs2 (And.intro z9 (And.intro z0 (And.intro hf (And.intro hself (And.intro hxn (And.intro hxg (And.intro hee he2)))))))))))))))))))))))
          repeat' first | (apply Sm.mk; refine Ys ?_) | refine WP.seq fun K hK => ?_ | (apply Ob.mk; exact Yo) | refine And.intro (Ob.out ?_) ?_ | refine Y1HuS ?_ | (refine CallV.row (by simp only [hget, ↓reduceIte, FR.out, k1, k2, k3, hd0, hd1, hg0, hg1, htk, htm, hq, hq1, hm, i1, hs, hs2, z9, z0, hf, hself, hxn, hxg, hee, he2]; first | done | rfl) (cN1) (Sm.out ?_)) | refine CallV.mkrow (cN1) (Sm.out ?_) | (refine CallV.upd (by simp only [hget, ↓reduceIte, FR.out, k1, k2, k3, hd0, hd1, hg0, hg1, htk, htm, hq, hq1, hm, i1, hs, hs2, z9, z0, hf, hself, hxn, hxg, hee, he2]; first | done | rfl) (cN1) (Sm.out ?_)) | refine CallV.mkobj (cN1) (Sm.out ?_) | (first | refine CallV.fn (cN1) (Sm.out ?_) | refine ExF.mk (cN1) (Sm.out ?_) | refine ExG.mk (fun _ => cN1) (Sm.out ?_) | refine ExG.mkJ (fun _ => cN1) (Sm.out ?_) | refine ExG.mkI (Ob.out ?_) (fun _ => cN1) (Sm.out ?_)) | (refine CallV.updM ((cG _)) (perm3 (by simp only [hget, hdel, ↓reduceIte, FR.out]; first | done | rfl) (by simp only [hget, hdel, ↓reduceIte, FR.out]; first | done | rfl) (by simp only [hget, hdel, ↓reduceIte, FR.out]; first | done | rfl)) (Sm.out ?_)) | (first | refine CallV.fn (cW) (Sm.out ?_) | refine ExF.mk (cW) (Sm.out ?_) | refine ExG.mk (fun _ => cW) (Sm.out ?_) | refine ExG.mkJ (fun _ => cW) (Sm.out ?_) | refine ExG.mkI (Ob.out ?_) (fun _ => cW) (Sm.out ?_)) | (first | refine CallV.fn (cR) (Sm.out ?_) | refine ExF.mk (cR) (Sm.out ?_) | refine ExG.mk (fun _ => cR) (Sm.out ?_) | refine ExG.mkJ (fun _ => cR) (Sm.out ?_) | refine ExG.mkI (Ob.out ?_) (fun _ => cR) (Sm.out ?_)) | (refine CallV.updM ((cBx _)) (perm1 (by simp only [hget, hdel, ↓reduceIte, FR.out, k1, k2, k3, hd0, hd1, hg0, hg1, htk, htm, hq, hq1, hm, i1, hs, hs2, z9, z0, hf, hself, hxn, hxg, hee, he2]; first | done | rfl)) (Sm.out ?_)) | ((first | refine ExF.up ?_ ((cBx _)) (Sm.out ?_) | refine ExG.up ?_ (fun _ => (cBx _)) (Sm.out ?_) | refine ExG.upJ ?_ (fun _ => (cBx _)) (Sm.out ?_) | refine ExG.upI ?_ (fun _ => (cBx _)) (Ob.out ?_) (Sm.out ?_)); focus (exact ⟨_, (perm1 (by simp only [hget, hdel, ↓reduceIte, FR.out, k1, k2, k3, hd0, hd1, hg0, hg1, htk, htm, hq, hq1, hm, i1, hs, hs2, z9, z0, hf, hself, hxn, hxg, hee, he2]; first | done | rfl))⟩)) | (refine CallV.row (by simp only [hget, ↓reduceIte, FR.out, k1, k2, k3, hd0, hd1, hg0, hg1, htk, htm, hq, hq1, hm, i1, hs, hs2, z9, z0, hf, hself, hxn, hxg, hee, he2]; first | done | rfl) (cN2) (Sm.out ?_)) | refine CallV.mkrow (cN2) (Sm.out ?_) | (refine CallV.upd (by simp only [hget, ↓reduceIte, FR.out, k1, k2, k3, hd0, hd1, hg0, hg1, htk, htm, hq, hq1, hm, i1, hs, hs2, z9, z0, hf, hself, hxn, hxg, hee, he2]; first | done | rfl) (cN2) (Sm.out ?_)) | refine CallV.mkobj (cN2) (Sm.out ?_) | (first | refine CallV.fn (cN2) (Sm.out ?_) | refine ExF.mk (cN2) (Sm.out ?_) | refine ExG.mk (fun _ => cN2) (Sm.out ?_) | refine ExG.mkJ (fun _ => cN2) (Sm.out ?_) | refine ExG.mkI (Ob.out ?_) (fun _ => cN2) (Sm.out ?_)) | (refine CallV.updM ((cG2 _)) (perm3 (by simp only [hget, hdel, ↓reduceIte, FR.out]; first | done | rfl) (by simp only [hget, hdel, ↓reduceIte, FR.out]; first | done | rfl) (by simp only [hget, hdel, ↓reduceIte, FR.out]; first | done | rfl)) (Sm.out ?_)) | (first | refine CallV.fn (cX) (Sm.out ?_) | refine ExF.mk (cX) (Sm.out ?_) | refine ExG.mk (fun _ => cX) (Sm.out ?_) | refine ExG.mkJ (fun _ => cX) (Sm.out ?_) | refine ExG.mkI (Ob.out ?_) (fun _ => cX) (Sm.out ?_)) | refine YzHuS ?_ | (refine WP.cond rfl (fun hc => ?_) (fun hc => ?_) <;> (try simp only [ZC, reduceCtorEq, ZD] at hc) <;> (try exact absurd hc (by decide)) <;> (try (exfalso; omega))) | refine Rt.mk (And.intro (fun hg => Sm.out ?_) fun hg => Sm.out ?_) | (refine Nu.mk ?_; first | (fail_if_success have := nb1); intro nb1 | (fail_if_success have := nb2); intro nb2 | (fail_if_success have := nb3); intro nb3 | (fail_if_success have := nb4); intro nb4 | (fail_if_success have := nb5); intro nb5 | (fail_if_success have := nb6); intro nb6 | (fail_if_success have := nb7); intro nb7 | (fail_if_success have := nb8); intro nb8 | (fail_if_success have := nb9); intro nb9 | (fail_if_success have := nb10); intro nb10 | (fail_if_success have := nb11); intro nb11 | (fail_if_success have := nb12); intro nb12 | (fail_if_success have := nb13); intro nb13 | (fail_if_success have := nb14); intro nb14 | intro nbz) | (apply Yfr; refine Yf FR fun hFRb FR => ?_) | refine Two.mk ?_ ?_ | (apply Yxc; exact Yx) | refine Cs.mk fun hcs => Sm.out ?_ | go_step | omega | (simp only [maxLen_eq]; omega) | exact trivial | refine Or.inr (Rt.mk (And.intro (fun hg => Sm.out ?_) fun hg => Sm.out ?_)))
      all_goals (refine OutQ.drop _ _ (perm2 (by simp only [hget, hdel, ↓reduceIte, if_true, if_false, FR.out]; first | done | rfl) (by simp only [hget, hdel, ↓reduceIte, if_true, if_false, FR.out]; first | done | rfl)) (by simp only [resv, ZK, look, loadv, loadn, loadnm, load1, load1m, hget, ↓reduceIte, Nat.reduceEqDiff, Nat.reduceAdd, Nat.reduceMul, Nat.reduceLeDiff, Nat.reduceLT, reduceCtorEq, TFHuS, FR.out]) ⟨(by simp only [resv, resA, ZK, look, loadv, loadn, loadnm, load1, load1m, hget, ↓reduceIte, Nat.reduceEqDiff, Nat.reduceAdd, Nat.reduceMul, Nat.reduceLeDiff, Nat.reduceLT, reduceCtorEq, TFHuS, FR.out]; first | done | rfl), rfl⟩)
set_option maxHeartbeats 4000000 in
set_option maxRecDepth 8000 in
theorem hbytes_ct (x : Sl) (Z : List Int) (hb : Wi.By Z) (hw : -9223372036854775808 ≤ x.w ∧ x.w ≤ 9223372036854775807) (hf2 : -9223372036854775808 ≤ x.f ∧ x.f ≤ 9223372036854775807) (ht : -9223372036854775808 ≤ x.t ∧ x.t ≤ 9223372036854775807) (n0 n1 : Nat) :
    ACt Tryd.prog 5 [siv x, .slz .u8 Z] (T2 fsZ acZ n0 n1) (fun r F' => r = bv true ∧ F' = T2 fsZ acZ n0 n1) := by
  have cA := awake_ct n0 n1
  by_cases hv : x.nm.size > 500 ∨ x.gl.size > 500 ∨ Z.length > 500
  · obtain ⟨FZ, hFZ⟩ : ∃ FZ, FZ = fsZ := ⟨_, rfl⟩
    obtain ⟨AZ, hAZ⟩ : ∃ AZ, AZ = acZ := ⟨_, rfl⟩
    rw [← hFZ, ← hAZ] at cA ⊢
    unfold T2
    obtain ⟨k1, hk1⟩ : ∃ q, decide ((x.nm.size : Int) > 500) = q := ⟨_, rfl⟩
    obtain ⟨k2, hk2⟩ : ∃ q, decide ((x.gl.size : Int) > 500) = q := ⟨_, rfl⟩
    obtain ⟨k3, hk3⟩ : ∃ q, decide ((Z.length : Int) > 500) = q := ⟨_, rfl⟩
    have hk : (k1 || k2 || k3) = true := by
      rw [← hk1, ← hk2, ← hk3]
      rcases hv with h | h | h
      · rw [decide_eq_true (show (x.nm.size : Int) > 500 by omega)]; rfl
      · rw [decide_eq_true (show (x.gl.size : Int) > 500 by omega)]; simp
      · rw [decide_eq_true (show (Z.length : Int) > 500 by omega)]; simp
    obtain ⟨xn, xg, xw, xf, xt⟩ := x
    simp only at hk1 hk2
    refine ACt.intro Tryd.func5 rfl (by kernel_rfl) (by simp [Tryd.ntmps5]) (fun cx => ?_)
    simp only [argE, Tryd.ntmps5, Tryd.results5]
    first | (have FRx := FR; clear FRx) | have FR := fr0S
    have FA := Sm.mk (And.intro TFHuS (And.intro hk1 (And.intro hk2 (And.intro hk3 hk))))
    repeat' first | (apply Sm.mk; refine Ys ?_) | refine WP.seq fun K hK => ?_ | (apply Ob.mk; exact Yo) | refine And.intro (Ob.out ?_) ?_ | ((fail_if_success (show WP _ _ _ (.region 5 _ _) _ _)); refine Y1HuS ?_) | refine Yl2 (c := cA) (r := ?_) | refine YzHuS ?_ | (refine WP.cond rfl (fun hc => ?_) (fun hc => ?_) <;> (try simp only [ZC, reduceCtorEq, ZD] at hc) <;> (try exact absurd hc (by decide)) <;> (try (exfalso; omega))) | refine Rt.mk (And.intro (fun hg => Sm.out ?_) fun hg => Sm.out ?_) | (refine Nu.mk ?_; first | (fail_if_success have := nb1); intro nb1 | (fail_if_success have := nb2); intro nb2 | (fail_if_success have := nb3); intro nb3 | (fail_if_success have := nb4); intro nb4 | (fail_if_success have := nb5); intro nb5 | (fail_if_success have := nb6); intro nb6 | (fail_if_success have := nb7); intro nb7 | (fail_if_success have := nb8); intro nb8 | (fail_if_success have := nb9); intro nb9 | (fail_if_success have := nb10); intro nb10 | (fail_if_success have := nb11); intro nb11 | (fail_if_success have := nb12); intro nb12 | (fail_if_success have := nb13); intro nb13 | (fail_if_success have := nb14); intro nb14 | intro nbz) | (apply Yfr; refine Yf FR fun hFRb FR => ?_) | refine Two.mk ?_ ?_ | (apply Yxc; exact Yx) | refine Cs.mk fun hcs => Sm.out ?_ | go_step | omega | (simp only [maxLen_eq]; omega) | exact trivial | refine Or.inr (Rt.mk (And.intro (fun hg => Sm.out ?_) fun hg => Sm.out ?_))
    (refine OutQ.drop _ _ (perm2 (by simp only [hget, hdel, ↓reduceIte, if_true, if_false, FR.out]; first | done | rfl) (by simp only [hget, hdel, ↓reduceIte, if_true, if_false, FR.out]; first | done | rfl)) (by simp only [resv, ZK, look, loadv, loadn, loadnm, load1, load1m, hget, ↓reduceIte, Nat.reduceEqDiff, Nat.reduceAdd, Nat.reduceMul, Nat.reduceLeDiff, Nat.reduceLT, reduceCtorEq, TFHuS, FR.out]) ⟨(by simp only [resv, resA, ZK, look, loadv, loadn, loadnm, load1, load1m, hget, ↓reduceIte, Nat.reduceEqDiff, Nat.reduceAdd, Nat.reduceMul, Nat.reduceLeDiff, Nat.reduceLT, reduceCtorEq, TFHuS, FR.out]; first | done | rfl), rfl⟩)
  have hz : Sz x := ⟨by omega, by omega⟩
  have hs : Sb x := ⟨hz, hw, hf2, ht⟩
  have okZ : okS (some Z) := ⟨hb, by omega⟩
  have hl := sL_len x hs
  have okM : okS (some (sL x)) := ⟨by_sL hs, by omega⟩
  refine hbytes_main x fsZ acZ n0 n1 Z (sL x) (srB x) (by omega) (by omega) (by omega) cA (rsright_ct x hz) (fun b => sput_ct b 1 [9] x hs (by simp) (by simp) (by omega)) (ACt.fzRow (rsput_ct x hs)) ?_ ?_
  · have hany := sgS_any hs
    cases hp : srB x with
    | true =>
      left
      refine ⟨rfl, fun b => ?_⟩
      have c := sget_ct b n0 n1 (some (sL x)) okM
      rw [hany, hp, if_pos rfl] at c
      exact c
    | false =>
      right
      refine ⟨rfl, fun b => ?_⟩
      have c := sget_ct b n0 n1 (some (sL x)) okM
      rw [hany, hp, if_neg (by simp)] at c
      exact c
  · have hS := sgS_X Z
    have hR := rsA_X Z.length Z
    have cD := rs_ct Z 0 (Nat.zero_le _) hb (by omega) (gc rsK [] Z) (by rw [List.drop_zero]) (fun l r h => gc_sz rsK [] Z l r (by decide) (by simp) h)
    rw [hR] at cD
    cases hX : sgX Z with
    | none =>
      rw [hX] at hS cD
      right
      refine ⟨s0, 0, fun b => ?_, cD⟩
      have c := sget_ct b n0 n1 (some Z) okZ
      rw [hS] at c
      exact c
    | some p =>
      obtain ⟨k, r⟩ := p
      rw [hX] at hS cD
      simp only at hS cD
      cases hp : srB k with
      | true =>
        left
        rw [hp] at cD
        refine ⟨k, r, sgX_len hb hX, fun b => ?_, cD⟩
        have c := sget_ct b n0 n1 (some Z) okZ
        rw [hS, if_pos hp] at c
        exact c
      | false =>
        right
        rw [hp] at cD
        refine ⟨k, _, fun b => ?_, cD⟩
        have c := sget_ct b n0 n1 (some Z) okZ
        rw [hS, if_neg (by rw [hp]; simp)] at c
        exact c
theorem by_ub (bs : List UInt8) : Wi.By (ub bs) := by
  intro x hx
  unfold ub at hx
  obtain ⟨b, _, rfl⟩ := List.mem_map.1 hx
  have := b.toNat_lt
  omega
theorem bytes_law {xs : List AV} (bs : List UInt8) (hx : Shp silTy xs) (n0 n1 : Nat) : ACt Tryd.prog 5 [.agg xs, .slz .u8 (ub bs)] [(0, .ro .u8 fsZ 256 n0), (1, .ro .u8 acZ 32 n1)] (fun r F' => r = bv true ∧ F' = [(0, .ro .u8 fsZ 256 n0), (1, .ro .u8 acZ 32 n1)]) := by
  obtain ⟨x, e1, h1, h2, h3⟩ := sil_shp hx
  rw [e1]
  exact hbytes_ct x _ (by_ub bs) h1 h2 h3 n0 n1
end Go.Proofs.YtaffbklkjjmmdaaDoor
