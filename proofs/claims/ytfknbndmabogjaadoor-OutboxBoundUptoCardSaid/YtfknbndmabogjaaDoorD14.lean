/-
  The walks and the laws that the statement leans on, part 14.
-/
import Derived.Test.YtfknbndmabogjaaDoorD9
import Derived.Test.YtfknbndmabogjaaDoorD13
namespace Go.Proofs.YtfknbndmabogjaaDoor
open Go
set_option linter.unusedVariables false
set_option linter.unusedSimpArgs false
set_option linter.defProp false
def TFOuA :=
  And.intro (And.intro (And.intro (And.intro (And.intro tyc0 tyc3) (And.intro zmb3 (And.intro tyc4 zmb4))) (And.intro (And.intro tyc9 (And.intro zmb9 tyc21)) (And.intro zmb21 (And.intro tyc25 zmb25)))) (And.intro (And.intro (And.intro tyc29 (And.intro foff29_0 fpart29_0)) (And.intro foff29_1 (And.intro fpart29_1 foff29_2))) (And.intro (And.intro fpart29_2 (And.intro foff29_3 fpart29_3)) (And.intro foff29_4 (And.intro fpart29_4 fe29))))) (And.intro (And.intro (And.intro (And.intro zmb29 (And.intro bldT29 tyc43)) (And.intro elt43 (And.intro mkz43 mkc43))) (And.intro (And.intro apT43 (And.intro elk43 zmb43)) (And.intro tyc132 (And.intro elt132 mkz132)))) (And.intro (And.intro (And.intro apT132 (And.intro elk132 zmb132)) (And.intro Tryd.underlying0 (And.intro Tryd.underlying3 Tryd.underlying4))) (And.intro (And.intro Tryd.underlying9 (And.intro Tryd.underlying21 Tryd.underlying25)) (And.intro Tryd.underlying29 (And.intro Tryd.underlying43 Tryd.underlying132)))))
theorem Y1OuA {G R : Prop} (r : R) (h : R → G := by intro r; first | (apply WP.region; exact rvc_sound _ _ (Sm.out r)) | exact WP.drawK rfl mixed (by decide +kernel) (Sm.out r) | (apply WP.block; exact r) | (apply WP.skip; exact Yq r) | (apply WP.exit; exact Yq r) | (apply WP.ret; exact Sm.out r) | exact WP.cond rfl (fun _ => r) (fun hg => absurd hg (by decide)) | exact WP.cond rfl (fun hg => absurd hg (by decide)) (fun _ => r) | exact Rt.mk (And.intro (fun _ => Sm.out r) fun hg => absurd hg (by decide)) | exact Rt.mk (And.intro (fun hg => absurd hg (by decide)) fun _ => Sm.out r)) : G := h r
theorem YzOuA {G R : Prop} (r : R) (h : R → G := by intro r; first | (apply ExG.no; exact Sm.out r) | (apply Or.inl; apply ExG.no; exact Sm.out r) | exact Or.inl (And.intro (fun hg => absurd hg (by decide)) (ExG.no (Sm.out r)))) : G := h r
theorem YsOuA0 {P Q : Prop} (q : Q) (h : P = Q := by (try (conv => lhs; simp -dsimp only [ZK, rvc, capA, appA, litL, mkfv, drawF, headN, pureH, stp, dvc, calleeOf, gcall, pev, eff, newB, okd, og, ogs, ogo, ogp, slv, bltv, opd, litv, strip, one, both, putE, St.put, look, gdOf, gdv, picka, pickv, pickw, binv, bini, bins, binb, binp, binq, isSlT, bina, shp, eqCells, unv, convv, nilv, faddv, addp, idxav, idxp, load1, load1m, loadn, loadnm, loadv, hget, hset, hrep, hdel, slicev, slice3v, bnd, shift1, lenv, capv, IntKind.bits, extractv, fieldv, indexv, min2v, max2v, mkiv, tasv, tasz, cellsA, fillA, buildv, stC, oneC, rowMB, intsA, plN, appE, appZ, appC, appS, srcB, appNZ, appNC, VwL, srcC, srcZ, srcM, isBoolT, isPtrT, isSliceT, uOk, Value.oneCell', Nat.reducePow, Int.reducePow, Nat.reduceAdd, Nat.reduceMul, Nat.reduceSub, Nat.reduceLT, Nat.reduceLeDiff, Nat.reduceEqDiff, Nat.reduceBEq, Nat.reduceDiv, Nat.reduceMod, ↓reduceIte, reduceCtorEq, Int.reduceToNat, Int.reduceLT, Int.reduceLE, TFOuA, SeqQ, BlkQ, LoopQ, BodyQ, hin, FA.out, FR.out])) <;> exact rfl) : P := h.mpr q
structure Ky where
  g : ByteArray
  r : ByteArray
  p : Bool
  e : Int
  s : Bool
abbrev kv (k : Ky) : AV := .agg [.lit (.string k.g), .lit (.string k.r), bv k.p, iv .u64 k.e, bv k.s]
abbrev kb (k : Ky) : MB := .cells [.lit (.string k.g), .lit (.string k.r), bv k.p, iv .u64 k.e, bv k.s] 5 29
def kcs : List Ky → List AV
  | [] => []
  | k :: l => .lit (.string k.g) :: .lit (.string k.r) :: bv k.p :: iv .u64 k.e :: bv k.s :: kcs l
theorem kcs_len : ∀ l, (kcs l).length = l.length * 5
  | [] => rfl
  | k :: r => by simp only [kcs, List.length_cons, kcs_len r]; omega
theorem kcs_drop : ∀ (l : List Ky) (i : Nat) (h : i < l.length), (kcs l).drop (i * 5) = .lit (.string l[i].g) :: .lit (.string l[i].r) :: bv l[i].p :: iv .u64 l[i].e :: bv l[i].s :: kcs (l.drop (i + 1))
  | k :: r, 0, _ => rfl
  | k :: r, i + 1, h => by
    have := kcs_drop r i (by simpa using h)
    rw [show (i + 1) * 5 = i * 5 + 5 by omega]
    simpa [kcs] using this
theorem kcs_app (l m : List Ky) : kcs (l ++ m) = kcs l ++ kcs m := by
  induction l with
  | nil => rfl
  | cons k r ih => simp [kcs, ih]
theorem kcs_one (l : List Ky) : (kcs l).all oneC = true := by
  induction l with
  | nil => rfl
  | cons k r ih => simp only [kcs, List.all_cons, ih, oneC, Value.oneCell', Bool.and_self, Bool.true_and]
theorem ba_iff (s t : ByteArray) : (s == t) = true ↔ s = t := by
  obtain ⟨a⟩ := s
  obtain ⟨b⟩ := t
  show (a == b) = true ↔ _
  simp
def keqB (a b : Ky) : Bool := a.g == b.g && (a.r == b.r && (a.p == b.p && (a.e == b.e && a.s == b.s)))
theorem keqB_iff (a b : Ky) : keqB a b = true ↔ a = b := by
  obtain ⟨ag, ar, ap, ae, aS⟩ := a
  obtain ⟨bg, br, bp, be, bs⟩ := b
  simp [keqB, ba_iff]
theorem keq_t {a b : Ky} (h : a = b) : (a.g == b.g && (a.r == b.r && (a.p == b.p && (a.e == b.e && a.s == b.s)))) = true := (keqB_iff a b).2 h
theorem keq_f {a b : Ky} (h : a ≠ b) : (a.g == b.g && (a.r == b.r && (a.p == b.p && (a.e == b.e && a.s == b.s)))) = false := by
  cases hh : keqB a b with
  | false => exact hh
  | true => exact absurd ((keqB_iff a b).1 hh) h
theorem s_bstr (s : ByteArray) : s = bstr (ub s.data.toList) ∧ By (ub s.data.toList) := by
  constructor
  · apply ByteArray.ext
    apply Array.ext'
    simp only [bstr, ub, List.map_map]
    have e2 : s.data.toList.map ((fun n : Int => UInt8.ofNat n.toNat) ∘ fun b : UInt8 => (b.toNat : Int)) = s.data.toList.map id := List.map_congr_left fun b _ => by simp
    rw [e2, List.map_id]
  · intro i hi
    rw [ub_getD]
    have := ((s.data.toList).getD i 0).toNat_lt
    omega
noncomputable def nmS (s : ByteArray) : Bool := nmB (rn (ub s.data.toList))
theorem rname_s (s : ByteArray) (h : s.size ≤ 2000000) : ACt Tryd.prog 70 [.lit (.string s)] [] (Fn (bv (nmS s))) := by
  obtain ⟨e, hb⟩ := s_bstr s
  have hl : (ub s.data.toList).length ≤ 2000000 := by rw [e, bstr_size] at h; exact h
  have := rname_ct _ hb hl
  unfold stz at this
  rw [← e] at this
  exact this
theorem name_s (s : ByteArray) (h : s.size ≤ 1000) : ACt Tryd.prog 78 [.lit (.string s)] [] (Fn (bv (nmS s))) := by
  obtain ⟨e, hb⟩ := s_bstr s
  have hl : (ub s.data.toList).length ≤ 1000 := by rw [e, bstr_size] at h; exact h
  have := name_ct _ hb hl
  unfold stz at this
  rw [← e] at this
  exact this
structure Kz (k : Ky) : Prop where
  g : k.g.size ≤ 1000
  r : k.r.size ≤ 1000
noncomputable def krB (k : Ky) : Bool := nmS k.g && (nmS k.r && (decide (0 < k.e) && decide (k.e ≤ 4611686018427387904)))
theorem kright_ct (k : Ky) (hz : Kz k) : ACt Tryd.prog 43 [kv k] [] (Fn (bv (krB k))) := by
  have c1 := name_s k.g hz.g
  have c2 := name_s k.r hz.r
  unfold krB
  obtain ⟨a, ha⟩ : ∃ a, a = nmS k.g := ⟨_, rfl⟩
  obtain ⟨b, hb⟩ : ∃ b, b = nmS k.r := ⟨_, rfl⟩
  rw [← ha] at c1 ⊢
  rw [← hb] at c2 ⊢
  obtain ⟨x, hx⟩ : ∃ x, x = decide (0 < k.e) := ⟨_, rfl⟩
  have hx' : decide (k.e ≥ 1) = x := by rw [hx]; exact decide_eq_decide.2 (by omega)
  rw [← hx]
  obtain ⟨y, hy⟩ : ∃ y, decide (k.e ≤ 4611686018427387904) = y := ⟨_, rfl⟩
  rw [hy]
  clear ha hb hx
  obtain ⟨kg, kr, kp, ke, ks⟩ := k
  simp only at c1 c2 hx' hy
  cases a
  · refine ACt.intro Tryd.func43 rfl (by kernel_rfl) (by simp [Tryd.ntmps43]) (fun cx => ?_)
    simp only [argE, Tryd.ntmps43, Tryd.results43]
    first | (have FRx := FR; clear FRx) | have FR := fr0S
    have FA := Sm.mk (TFOuA)
    repeat' first | (apply Sm.mk; refine Ys ?_) | refine WP.seq fun K hK => ?_ | (apply Ob.mk; exact Yo) | refine And.intro (Ob.out ?_) ?_ | refine Y1OuA ?_ | refine Yc (c := c1) (r := ?_) | refine Yc (c := c2) (r := ?_) | refine YzOuA ?_ | (refine WP.cond rfl (fun hc => ?_) (fun hc => ?_) <;> (try simp only [ZC, reduceCtorEq, ZD] at hc) <;> (try exact absurd hc (by decide)) <;> (try (exfalso; omega))) | refine Rt.mk (And.intro (fun hg => Sm.out ?_) fun hg => Sm.out ?_) | (refine Nu.mk ?_; first | (fail_if_success have := nb1); intro nb1 | (fail_if_success have := nb2); intro nb2 | (fail_if_success have := nb3); intro nb3 | (fail_if_success have := nb4); intro nb4 | intro nbz) | (apply Yfr; refine Yf FR fun hFRb FR => ?_) | refine Two.mk ?_ ?_ | (apply Yxc; exact Yx) | refine Cs.mk fun hcs => Sm.out ?_ | go_step | omega | (simp only [maxLen_eq]; omega) | exact trivial
    (refine Yg ?_; try exact trivial)
  · cases b
    · refine ACt.intro Tryd.func43 rfl (by kernel_rfl) (by simp [Tryd.ntmps43]) (fun cx => ?_)
      simp only [argE, Tryd.ntmps43, Tryd.results43]
      first | (have FRx := FR; clear FRx) | have FR := fr0S
      have FA := Sm.mk (TFOuA)
      repeat' first | (apply Sm.mk; refine Ys ?_) | refine WP.seq fun K hK => ?_ | (apply Ob.mk; exact Yo) | refine And.intro (Ob.out ?_) ?_ | refine Y1OuA ?_ | refine Yc (c := c1) (r := ?_) | refine Yc (c := c2) (r := ?_) | refine YzOuA ?_ | (refine WP.cond rfl (fun hc => ?_) (fun hc => ?_) <;> (try simp only [ZC, reduceCtorEq, ZD] at hc) <;> (try exact absurd hc (by decide)) <;> (try (exfalso; omega))) | refine Rt.mk (And.intro (fun hg => Sm.out ?_) fun hg => Sm.out ?_) | (refine Nu.mk ?_; first | (fail_if_success have := nb1); intro nb1 | (fail_if_success have := nb2); intro nb2 | (fail_if_success have := nb3); intro nb3 | (fail_if_success have := nb4); intro nb4 | intro nbz) | (apply Yfr; refine Yf FR fun hFRb FR => ?_) | refine Two.mk ?_ ?_ | (apply Yxc; exact Yx) | refine Cs.mk fun hcs => Sm.out ?_ | go_step | omega | (simp only [maxLen_eq]; omega) | exact trivial
      (refine Yg ?_; try exact trivial)
    · cases x
      · refine ACt.intro Tryd.func43 rfl (by kernel_rfl) (by simp [Tryd.ntmps43]) (fun cx => ?_)
        simp only [argE, Tryd.ntmps43, Tryd.results43]
        first | (have FRx := FR; clear FRx) | have FR := fr0S
        have FA := Sm.mk (And.intro TFOuA hx')
        repeat' first | (apply Sm.mk; refine Ys ?_) | refine WP.seq fun K hK => ?_ | (apply Ob.mk; exact Yo) | refine And.intro (Ob.out ?_) ?_ | refine Y1OuA ?_ | refine Yc (c := c1) (r := ?_) | refine Yc (c := c2) (r := ?_) | refine YzOuA ?_ | (refine WP.cond rfl (fun hc => ?_) (fun hc => ?_) <;> (try simp only [ZC, reduceCtorEq, ZD] at hc) <;> (try exact absurd hc (by decide)) <;> (try (exfalso; omega))) | refine Rt.mk (And.intro (fun hg => Sm.out ?_) fun hg => Sm.out ?_) | (refine Nu.mk ?_; first | (fail_if_success have := nb1); intro nb1 | (fail_if_success have := nb2); intro nb2 | (fail_if_success have := nb3); intro nb3 | (fail_if_success have := nb4); intro nb4 | intro nbz) | (apply Yfr; refine Yf FR fun hFRb FR => ?_) | refine Two.mk ?_ ?_ | (apply Yxc; exact Yx) | refine Cs.mk fun hcs => Sm.out ?_ | go_step | omega | (simp only [maxLen_eq]; omega) | exact trivial
        (refine Yg ?_; try exact trivial)
      · refine ACt.intro Tryd.func43 rfl (by kernel_rfl) (by simp [Tryd.ntmps43]) (fun cx => ?_)
        simp only [argE, Tryd.ntmps43, Tryd.results43]
        first | (have FRx := FR; clear FRx) | have FR := fr0S
        have FA := Sm.mk (And.intro TFOuA (And.intro hx' hy))
        repeat' first | (apply Sm.mk; refine Ys ?_) | refine WP.seq fun K hK => ?_ | (apply Ob.mk; exact Yo) | refine And.intro (Ob.out ?_) ?_ | refine Y1OuA ?_ | refine Yc (c := c1) (r := ?_) | refine Yc (c := c2) (r := ?_) | refine YzOuA ?_ | (refine WP.cond rfl (fun hc => ?_) (fun hc => ?_) <;> (try simp only [ZC, reduceCtorEq, ZD] at hc) <;> (try exact absurd hc (by decide)) <;> (try (exfalso; omega))) | refine Rt.mk (And.intro (fun hg => Sm.out ?_) fun hg => Sm.out ?_) | (refine Nu.mk ?_; first | (fail_if_success have := nb1); intro nb1 | (fail_if_success have := nb2); intro nb2 | (fail_if_success have := nb3); intro nb3 | (fail_if_success have := nb4); intro nb4 | intro nbz) | (apply Yfr; refine Yf FR fun hFRb FR => ?_) | refine Two.mk ?_ ?_ | (apply Yxc; exact Yx) | refine Cs.mk fun hcs => Sm.out ?_ | go_step | omega | (simp only [maxLen_eq]; omega) | exact trivial
        (have FA := Sm.mk (And.intro hy FA.out); refine Yg ?_; try exact trivial)
theorem rkright_w (k : Ky) (z1 : k.g.size ≤ 2000000) (z2 : k.r.size ≤ 2000000) : ACt Tryd.prog 37 [kv k] [] (Fn (bv (krB k))) := by
  have c1 := rname_s k.g z1
  have c2 := rname_s k.r z2
  unfold krB
  obtain ⟨a, ha⟩ : ∃ a, a = nmS k.g := ⟨_, rfl⟩
  obtain ⟨b, hb⟩ : ∃ b, b = nmS k.r := ⟨_, rfl⟩
  rw [← ha] at c1 ⊢
  rw [← hb] at c2 ⊢
  obtain ⟨x, hx⟩ : ∃ x, x = decide (0 < k.e) := ⟨_, rfl⟩
  have hx' : decide (k.e > 0) = x := by rw [hx]
  rw [← hx]
  obtain ⟨y, hy⟩ : ∃ y, decide (k.e ≤ 4611686018427387904) = y := ⟨_, rfl⟩
  rw [hy]
  clear ha hb hx
  obtain ⟨kg, kr, kp, ke, ks⟩ := k
  simp only at c1 c2 hx' hy
  cases a
  · refine ACt.intro Tryd.func37 rfl (by kernel_rfl) (by simp [Tryd.ntmps37]) (fun cx => ?_)
    simp only [argE, Tryd.ntmps37, Tryd.results37]
    first | (have FRx := FR; clear FRx) | have FR := fr0S
    have FA := Sm.mk (TFOuA)
    repeat' first | (apply Sm.mk; refine Ys ?_) | refine WP.seq fun K hK => ?_ | (apply Ob.mk; exact Yo) | refine And.intro (Ob.out ?_) ?_ | refine Y1OuA ?_ | refine Yc (c := c1) (r := ?_) | refine Yc (c := c2) (r := ?_) | refine YzOuA ?_ | (refine WP.cond rfl (fun hc => ?_) (fun hc => ?_) <;> (try simp only [ZC, reduceCtorEq, ZD] at hc) <;> (try exact absurd hc (by decide)) <;> (try (exfalso; omega))) | refine Rt.mk (And.intro (fun hg => Sm.out ?_) fun hg => Sm.out ?_) | (refine Nu.mk ?_; first | (fail_if_success have := nb1); intro nb1 | (fail_if_success have := nb2); intro nb2 | (fail_if_success have := nb3); intro nb3 | (fail_if_success have := nb4); intro nb4 | intro nbz) | (apply Yfr; refine Yf FR fun hFRb FR => ?_) | refine Two.mk ?_ ?_ | (apply Yxc; exact Yx) | refine Cs.mk fun hcs => Sm.out ?_ | go_step | omega | (simp only [maxLen_eq]; omega) | exact trivial
    (refine Yg ?_; try exact trivial)
  · cases b
    · refine ACt.intro Tryd.func37 rfl (by kernel_rfl) (by simp [Tryd.ntmps37]) (fun cx => ?_)
      simp only [argE, Tryd.ntmps37, Tryd.results37]
      first | (have FRx := FR; clear FRx) | have FR := fr0S
      have FA := Sm.mk (TFOuA)
      repeat' first | (apply Sm.mk; refine Ys ?_) | refine WP.seq fun K hK => ?_ | (apply Ob.mk; exact Yo) | refine And.intro (Ob.out ?_) ?_ | refine Y1OuA ?_ | refine Yc (c := c1) (r := ?_) | refine Yc (c := c2) (r := ?_) | refine YzOuA ?_ | (refine WP.cond rfl (fun hc => ?_) (fun hc => ?_) <;> (try simp only [ZC, reduceCtorEq, ZD] at hc) <;> (try exact absurd hc (by decide)) <;> (try (exfalso; omega))) | refine Rt.mk (And.intro (fun hg => Sm.out ?_) fun hg => Sm.out ?_) | (refine Nu.mk ?_; first | (fail_if_success have := nb1); intro nb1 | (fail_if_success have := nb2); intro nb2 | (fail_if_success have := nb3); intro nb3 | (fail_if_success have := nb4); intro nb4 | intro nbz) | (apply Yfr; refine Yf FR fun hFRb FR => ?_) | refine Two.mk ?_ ?_ | (apply Yxc; exact Yx) | refine Cs.mk fun hcs => Sm.out ?_ | go_step | omega | (simp only [maxLen_eq]; omega) | exact trivial
      (refine Yg ?_; try exact trivial)
    · cases x
      · refine ACt.intro Tryd.func37 rfl (by kernel_rfl) (by simp [Tryd.ntmps37]) (fun cx => ?_)
        simp only [argE, Tryd.ntmps37, Tryd.results37]
        first | (have FRx := FR; clear FRx) | have FR := fr0S
        have FA := Sm.mk (And.intro TFOuA hx')
        repeat' first | (apply Sm.mk; refine Ys ?_) | refine WP.seq fun K hK => ?_ | (apply Ob.mk; exact Yo) | refine And.intro (Ob.out ?_) ?_ | refine Y1OuA ?_ | refine Yc (c := c1) (r := ?_) | refine Yc (c := c2) (r := ?_) | refine YzOuA ?_ | (refine WP.cond rfl (fun hc => ?_) (fun hc => ?_) <;> (try simp only [ZC, reduceCtorEq, ZD] at hc) <;> (try exact absurd hc (by decide)) <;> (try (exfalso; omega))) | refine Rt.mk (And.intro (fun hg => Sm.out ?_) fun hg => Sm.out ?_) | (refine Nu.mk ?_; first | (fail_if_success have := nb1); intro nb1 | (fail_if_success have := nb2); intro nb2 | (fail_if_success have := nb3); intro nb3 | (fail_if_success have := nb4); intro nb4 | intro nbz) | (apply Yfr; refine Yf FR fun hFRb FR => ?_) | refine Two.mk ?_ ?_ | (apply Yxc; exact Yx) | refine Cs.mk fun hcs => Sm.out ?_ | go_step | omega | (simp only [maxLen_eq]; omega) | exact trivial
        (refine Yg ?_; try exact trivial)
      · refine ACt.intro Tryd.func37 rfl (by kernel_rfl) (by simp [Tryd.ntmps37]) (fun cx => ?_)
        simp only [argE, Tryd.ntmps37, Tryd.results37]
        first | (have FRx := FR; clear FRx) | have FR := fr0S
        have FA := Sm.mk (And.intro TFOuA (And.intro hx' hy))
        repeat' first | (apply Sm.mk; refine Ys ?_) | refine WP.seq fun K hK => ?_ | (apply Ob.mk; exact Yo) | refine And.intro (Ob.out ?_) ?_ | refine Y1OuA ?_ | refine Yc (c := c1) (r := ?_) | refine Yc (c := c2) (r := ?_) | refine YzOuA ?_ | (refine WP.cond rfl (fun hc => ?_) (fun hc => ?_) <;> (try simp only [ZC, reduceCtorEq, ZD] at hc) <;> (try exact absurd hc (by decide)) <;> (try (exfalso; omega))) | refine Rt.mk (And.intro (fun hg => Sm.out ?_) fun hg => Sm.out ?_) | (refine Nu.mk ?_; first | (fail_if_success have := nb1); intro nb1 | (fail_if_success have := nb2); intro nb2 | (fail_if_success have := nb3); intro nb3 | (fail_if_success have := nb4); intro nb4 | intro nbz) | (apply Yfr; refine Yf FR fun hFRb FR => ?_) | refine Two.mk ?_ ?_ | (apply Yxc; exact Yx) | refine Cs.mk fun hcs => Sm.out ?_ | go_step | omega | (simp only [maxLen_eq]; omega) | exact trivial
        (have FA := Sm.mk (And.intro hy FA.out); refine Yg ?_; try exact trivial)
def hvB (k : Ky) : Bool := decide ((k.g.size : Int) > 500) || decide ((k.r.size : Int) > 500)
theorem heavy_ct (k : Ky) : ACt Tryd.prog 10 [kv k] [] (Fn (bv (hvB k))) := by
  unfold hvB
  obtain ⟨x, hx⟩ : ∃ x, decide ((k.g.size : Int) > 500) = x := ⟨_, rfl⟩
  obtain ⟨y, hy⟩ : ∃ y, decide ((k.r.size : Int) > 500) = y := ⟨_, rfl⟩
  rw [hx, hy]
  obtain ⟨kg, kr, kp, ke, ks⟩ := k
  simp only at hx hy
  cases x
  · refine ACt.intro Tryd.func10 rfl (by kernel_rfl) (by simp [Tryd.ntmps10]) (fun cx => ?_)
    simp only [argE, Tryd.ntmps10, Tryd.results10]
    first | (have FRx := FR; clear FRx) | have FR := fr0S
    have FA := Sm.mk (And.intro TFOuA (And.intro hx hy))
    repeat' first | (apply Sm.mk; refine Ys ?_) | refine WP.seq fun K hK => ?_ | (apply Ob.mk; exact Yo) | refine And.intro (Ob.out ?_) ?_ | refine Y1OuA ?_ | refine YzOuA ?_ | (refine WP.cond rfl (fun hc => ?_) (fun hc => ?_) <;> (try simp only [ZC, reduceCtorEq, ZD] at hc) <;> (try exact absurd hc (by decide)) <;> (try (exfalso; omega))) | refine Rt.mk (And.intro (fun hg => Sm.out ?_) fun hg => Sm.out ?_) | (refine Nu.mk ?_; first | (fail_if_success have := nb1); intro nb1 | (fail_if_success have := nb2); intro nb2 | (fail_if_success have := nb3); intro nb3 | (fail_if_success have := nb4); intro nb4 | intro nbz) | (apply Yfr; refine Yf FR fun hFRb FR => ?_) | refine Two.mk ?_ ?_ | (apply Yxc; exact Yx) | refine Cs.mk fun hcs => Sm.out ?_ | go_step | omega | (simp only [maxLen_eq]; omega) | exact trivial
    (have FA := Sm.mk (And.intro hy FA.out); refine Yg ?_; try exact trivial)
  · refine ACt.intro Tryd.func10 rfl (by kernel_rfl) (by simp [Tryd.ntmps10]) (fun cx => ?_)
    simp only [argE, Tryd.ntmps10, Tryd.results10]
    first | (have FRx := FR; clear FRx) | have FR := fr0S
    have FA := Sm.mk (And.intro TFOuA (And.intro hx hy))
    repeat' first | (apply Sm.mk; refine Ys ?_) | refine WP.seq fun K hK => ?_ | (apply Ob.mk; exact Yo) | refine And.intro (Ob.out ?_) ?_ | refine Y1OuA ?_ | refine YzOuA ?_ | (refine WP.cond rfl (fun hc => ?_) (fun hc => ?_) <;> (try simp only [ZC, reduceCtorEq, ZD] at hc) <;> (try exact absurd hc (by decide)) <;> (try (exfalso; omega))) | refine Rt.mk (And.intro (fun hg => Sm.out ?_) fun hg => Sm.out ?_) | (refine Nu.mk ?_; first | (fail_if_success have := nb1); intro nb1 | (fail_if_success have := nb2); intro nb2 | (fail_if_success have := nb3); intro nb3 | (fail_if_success have := nb4); intro nb4 | intro nbz) | (apply Yfr; refine Yf FR fun hFRb FR => ?_) | refine Two.mk ?_ ?_ | (apply Yxc; exact Yx) | refine Cs.mk fun hcs => Sm.out ?_ | go_step | omega | (simp only [maxLen_eq]; omega) | exact trivial
    (have FA := Sm.mk (And.intro hx FA.out); refine Yg ?_; try exact trivial)
noncomputable def hasB (l : List Ky) (k : Ky) : Bool := @decide (k ∈ l) (Classical.propDecidable _)
theorem hasB_t {l : List Ky} {k : Ky} (h : k ∈ l) : hasB l k = true := by unfold hasB; exact @decide_eq_true _ (Classical.propDecidable _) h
theorem hasB_f {l : List Ky} {k : Ky} (h : k ∉ l) : hasB l k = false := by unfold hasB; exact @decide_eq_false _ (Classical.propDecidable _) h
def IxP (l : List Ky) (k : Ky) (x : Int) : Prop := (x = -1 ∧ k ∉ l) ∨ ∃ i : Nat, x = (i : Int) ∧ ∃ h : i < l.length, l[i] = k ∧ k ∉ l.take i
theorem ix_ex (l : List Ky) (k : Ky) : ∃ x, IxP l k x := by
  by_cases h : k ∈ l
  · induction l with
    | nil => cases h
    | cons a r ih =>
      by_cases e : a = k
      · exact ⟨0, .inr ⟨0, rfl, by simp, e, by simp⟩⟩
      · have hr : k ∈ r := by
          rcases List.mem_cons.1 h with h | h
          · exact absurd h.symm e
          · exact h
        obtain ⟨x, hx | ⟨i, hx, hi, h1, h2⟩⟩ := ih hr
        · exact absurd hr hx.2
        · exact ⟨((i + 1 : Nat) : Int), .inr ⟨i + 1, rfl, by simp; omega, by simpa using h1, by simp only [List.take_succ_cons, List.mem_cons]; intro h; rcases h with h | h; exact e h.symm; exact h2 h⟩⟩
  · exact ⟨-1, .inl ⟨rfl, h⟩⟩
noncomputable def ixI (l : List Ky) (k : Ky) : Int := Classical.choose (ix_ex l k)
theorem ixI_spec (l : List Ky) (k : Ky) : IxP l k (ixI l k) := Classical.choose_spec (ix_ex l k)
theorem ix_at {l : List Ky} {k : Ky} {i : Nat} (h : i < l.length) (h1 : l[i] = k) (h2 : k ∉ l.take i) : ixI l k = (i : Int) := by
  rcases ixI_spec l k with ⟨-, hn⟩ | ⟨j, hx, hj, h3, h4⟩
  · exact absurd (by rw [← h1]; exact List.getElem_mem h) hn
  · rw [hx]
    rcases Nat.lt_trichotomy i j with hij | hij | hij
    · exact absurd (by rw [← h1]; exact List.mem_take_iff_getElem.2 ⟨i, by omega, rfl⟩) h4
    · rw [hij]
    · exact absurd (by rw [← h3]; exact List.mem_take_iff_getElem.2 ⟨j, by omega, rfl⟩) h2
theorem ix_no {l : List Ky} {k : Ky} (h : k ∉ l) : ixI l k = -1 := by
  rcases ixI_spec l k with ⟨h1, -⟩ | ⟨j, hx, hj, h3, h4⟩
  · exact h1
  · exact absurd (by rw [← h3]; exact List.getElem_mem hj) h
theorem index_ct (ks : List Ky) (k : Ky) (n : Nat) (hn : ks.length = n) (hl : n ≤ 100000) : ACt Tryd.prog 80 [.sl n (kcs ks), kv k] [] (Fn (iv .i64 (ixI ks k))) := by
  have hCl := kcs_len ks
  have hdr := kcs_drop ks
  rw [hn] at hCl
  obtain ⟨R, hR⟩ : ∃ R, R = ixI ks k := ⟨_, rfl⟩
  rw [← hR]
  obtain ⟨C, hC⟩ : ∃ C, C = kcs ks := ⟨_, rfl⟩
  rw [← hC] at hCl hdr ⊢
  have hf := fe29
  refine ACt.intro Tryd.func80 rfl (by kernel_rfl) (by simp [Tryd.ntmps80]) (fun cx => ?_)
  simp only [argE, Tryd.ntmps80, Tryd.results80]
  first | (have FRx := FR; clear FRx) | have FR := fr0S
  have FA := Sm.mk (TFOuA)
  repeat' first | (apply Sm.mk; refine Ys ?_) | refine WP.seq fun K hK => ?_ | (apply Ob.mk; exact Yo) | refine And.intro (Ob.out ?_) ?_ | refine Y1OuA ?_ | refine YzOuA ?_ | (refine WP.cond rfl (fun hc => ?_) (fun hc => ?_) <;> (try simp only [ZC, reduceCtorEq, ZD] at hc) <;> (try exact absurd hc (by decide)) <;> (try (exfalso; omega))) | refine Rt.mk (And.intro (fun hg => Sm.out ?_) fun hg => Sm.out ?_) | (refine Nu.mk ?_; first | (fail_if_success have := nb1); intro nb1 | (fail_if_success have := nb2); intro nb2 | (fail_if_success have := nb3); intro nb3 | (fail_if_success have := nb4); intro nb4 | intro nbz) | (apply Yfr; refine Yf FR fun hFRb FR => ?_) | refine Two.mk ?_ ?_ | (apply Yxc; exact Yx) | refine Cs.mk fun hcs => Sm.out ?_ | go_step | omega | (simp only [maxLen_eq]; omega) | exact trivial
  refine WP.loop (Γ := Nat) (fun i => ⟨[(8, iv .i64 (i : Int)), (7, iv .i64 (n : Int)), (3, pt nb1 0), (0, .sl n C)], [(nb1, kb k)]⟩) (fun i => i ≤ n ∧ ∀ q (h : q < ks.length), q < i → ks[q] ≠ k) (fun i => n - i) 0 ⟨Nat.zero_le _, fun q _ h => absurd h (Nat.not_lt_zero _)⟩ (Sub.pick (by simp [pickB, hget, hdel, FR.out]) (by simp [look])) ?_
  intro i ⟨hi, hok⟩
  have FR : Sm (¬ ((1 : Nat) = 0)) := Sm.mk Nat.one_ne_zero
  by_cases hin : i < n
  · have ki : decide ((i : Int) < (n : Int)) = true := decide_eq_true (by omega)
    have s1 : IntKind.i64.wrap ((i : Int) + 1) = ((i + 1 : Nat) : Int) := by rw [wrap_i64 (by omega) (by omega)]; omega
    have hd := hdr i (by omega)
    obtain ⟨x, hx⟩ : ∃ x, x = ks[i]'(by omega) := ⟨_, rfl⟩
    rw [← hx] at hd
    have q1 : (i + 1) * 5 ≤ C.length := by omega
    by_cases he : k = x
    · have hk := keq_t he
      have e : R = (i : Int) := by
        rw [hR]
        refine ix_at (by omega) (by rw [← hx, he]) fun h => ?_
        obtain ⟨q, hq, e⟩ := List.mem_take_iff_getElem.1 h
        exact hok q (by omega) (by omega) e
      first | (have FRx := FR; clear FRx) | have FR := fr0S
      have FA := Sm.mk (And.intro TFOuA (And.intro ki (And.intro hd (And.intro q1 (And.intro hf hk)))))
      repeat' first | (apply Sm.mk; refine YsOuA0 ?_) | refine WP.seq fun K hK => ?_ | (apply Ob.mk; exact Yo) | refine And.intro (Ob.out ?_) ?_ | refine Y1OuA ?_ | refine YzOuA ?_ | (refine WP.cond rfl (fun hc => ?_) (fun hc => ?_) <;> (try simp only [ZC, reduceCtorEq, ZD] at hc) <;> (try exact absurd hc (by decide)) <;> (try (exfalso; omega))) | refine Rt.mk (And.intro (fun hg => Sm.out ?_) fun hg => Sm.out ?_) | (refine Nu.mk ?_; first | (fail_if_success have := nb1); intro nb1 | (fail_if_success have := nb2); intro nb2 | (fail_if_success have := nb3); intro nb3 | (fail_if_success have := nb4); intro nb4 | intro nbz) | (apply Yfr; refine Yf FR fun hFRb FR => ?_) | refine Two.mk ?_ ?_ | (apply Yxc; exact Yx) | refine Cs.mk fun hcs => Sm.out ?_ | go_step | omega | (simp only [maxLen_eq]; omega) | exact trivial
      (have FA := Sm.mk (And.intro e FA.out); refine Yg ?_; try exact trivial)
    · have hk := keq_f he
      first | (have FRx := FR; clear FRx) | have FR := fr0S
      have FA := Sm.mk (And.intro TFOuA (And.intro ki (And.intro hd (And.intro q1 (And.intro hf (And.intro hk s1))))))
      repeat' first | (apply Sm.mk; refine YsOuA0 ?_) | refine WP.seq fun K hK => ?_ | (apply Ob.mk; exact Yo) | refine And.intro (Ob.out ?_) ?_ | refine Y1OuA ?_ | refine YzOuA ?_ | (refine WP.cond rfl (fun hc => ?_) (fun hc => ?_) <;> (try simp only [ZC, reduceCtorEq, ZD] at hc) <;> (try exact absurd hc (by decide)) <;> (try (exfalso; omega))) | refine Rt.mk (And.intro (fun hg => Sm.out ?_) fun hg => Sm.out ?_) | (refine Nu.mk ?_; first | (fail_if_success have := nb1); intro nb1 | (fail_if_success have := nb2); intro nb2 | (fail_if_success have := nb3); intro nb3 | (fail_if_success have := nb4); intro nb4 | intro nbz) | (apply Yfr; refine Yf FR fun hFRb FR => ?_) | refine Two.mk ?_ ?_ | (apply Yxc; exact Yx) | refine Cs.mk fun hcs => Sm.out ?_ | go_step | omega | (simp only [maxLen_eq]; omega) | exact trivial
      exact ⟨i + 1, ⟨by omega, fun q hq h => by
        by_cases e : q = i
        · subst e; rw [← hx]; exact fun h => he h.symm
        · exact hok q hq (by omega)⟩, by omega, (Sub.pick (by simp [pickB, hget, hdel, FR.out]) (by simp [look]))⟩
  · have ki : decide ((i : Int) < (n : Int)) = false := decide_eq_false (by omega)
    have e : R = -1 := by
      rw [hR]
      exact ix_no fun h => by
        obtain ⟨q, hq, e⟩ := List.mem_iff_getElem.1 h
        exact hok q hq (by omega) e
    first | (have FRx := FR; clear FRx) | have FR := fr0S
    have FA := Sm.mk (And.intro TFOuA ki)
    repeat' first | (apply Sm.mk; refine Ys ?_) | refine WP.seq fun K hK => ?_ | (apply Ob.mk; exact Yo) | refine And.intro (Ob.out ?_) ?_ | refine Y1OuA ?_ | refine YzOuA ?_ | (refine WP.cond rfl (fun hc => ?_) (fun hc => ?_) <;> (try simp only [ZC, reduceCtorEq, ZD] at hc) <;> (try exact absurd hc (by decide)) <;> (try (exfalso; omega))) | refine Rt.mk (And.intro (fun hg => Sm.out ?_) fun hg => Sm.out ?_) | (refine Nu.mk ?_; first | (fail_if_success have := nb1); intro nb1 | (fail_if_success have := nb2); intro nb2 | (fail_if_success have := nb3); intro nb3 | (fail_if_success have := nb4); intro nb4 | intro nbz) | (apply Yfr; refine Yf FR fun hFRb FR => ?_) | refine Two.mk ?_ ?_ | (apply Yxc; exact Yx) | refine Cs.mk fun hcs => Sm.out ?_ | go_step | omega | (simp only [maxLen_eq]; omega) | exact trivial
    (have FA := Sm.mk (And.intro e FA.out); refine Yg ?_; try exact trivial)
theorem contains_ct (ks : List Ky) (k : Ky) (n : Nat) (hn : ks.length = n) (hl : n ≤ 100000) : ACt Tryd.prog 54 [.sl n (kcs ks), kv k] [] (Fn (bv (hasB ks k))) := by
  have cI := index_ct ks k n hn hl
  have hsp := ixI_spec ks k
  obtain ⟨x, hx⟩ : ∃ x, x = ixI ks k := ⟨_, rfl⟩
  rw [← hx] at cI hsp
  obtain ⟨C, hC⟩ : ∃ C, C = kcs ks := ⟨_, rfl⟩
  rw [← hC] at cI ⊢
  obtain ⟨R, hR⟩ : ∃ R, R = hasB ks k := ⟨_, rfl⟩
  rw [← hR]
  have e : decide (x ≥ 0) = R := by
    rw [hR]
    rcases hsp with ⟨h1, h2⟩ | ⟨i, h1, h2, h3, h4⟩
    · rw [hasB_f h2]; exact decide_eq_false (by omega)
    · rw [hasB_t (by rw [← h3]; exact List.getElem_mem h2)]; exact decide_eq_true (by omega)
  clear hx hR hC hsp
  obtain ⟨kg, kr, kp, ke, ks⟩ := k
  refine ACt.intro Tryd.func54 rfl (by kernel_rfl) (by simp [Tryd.ntmps54]) (fun cx => ?_)
  simp only [argE, Tryd.ntmps54, Tryd.results54]
  first | (have FRx := FR; clear FRx) | have FR := fr0S
  have FA := Sm.mk (And.intro TFOuA e)
  repeat' first | (apply Sm.mk; refine Ys ?_) | refine WP.seq fun K hK => ?_ | (apply Ob.mk; exact Yo) | refine And.intro (Ob.out ?_) ?_ | refine Y1OuA ?_ | refine Yc (c := cI) (r := ?_) | refine YzOuA ?_ | (refine WP.cond rfl (fun hc => ?_) (fun hc => ?_) <;> (try simp only [ZC, reduceCtorEq, ZD] at hc) <;> (try exact absurd hc (by decide)) <;> (try (exfalso; omega))) | refine Rt.mk (And.intro (fun hg => Sm.out ?_) fun hg => Sm.out ?_) | (refine Nu.mk ?_; first | (fail_if_success have := nb1); intro nb1 | (fail_if_success have := nb2); intro nb2 | (fail_if_success have := nb3); intro nb3 | (fail_if_success have := nb4); intro nb4 | intro nbz) | (apply Yfr; refine Yf FR fun hFRb FR => ?_) | refine Two.mk ?_ ?_ | (apply Yxc; exact Yx) | refine Cs.mk fun hcs => Sm.out ?_ | go_step | omega | (simp only [maxLen_eq]; omega) | exact trivial
  (have FA := Sm.mk (And.intro e FA.out); refine Yg ?_; try exact trivial)
end Go.Proofs.YtfknbndmabogjaaDoor
