/-
  The walks and the laws that the statement leans on, part 17.
-/
import Derived.Test.YtaffbklkjjmmdaaDoorC9
import Derived.Test.YtaffbklkjjmmdaaDoorC13
import Derived.Test.YtaffbklkjjmmdaaDoorC16
namespace Go.Proofs.YtaffbklkjjmmdaaDoor
open Go
set_option linter.unusedVariables false
set_option linter.unusedSimpArgs false
set_option linter.defProp false
def TFCoA :=
  And.intro (And.intro (And.intro (And.intro tyc0 (And.intro tyc3 zmb3)) (And.intro tyc4 (And.intro zmb4 tyc9))) (And.intro (And.intro zmb9 (And.intro tyc25 foff25_0)) (And.intro (And.intro fpart25_0 foff25_1) (And.intro fpart25_1 foff25_2)))) (And.intro (And.intro (And.intro fpart25_2 (And.intro foff25_3 fpart25_3)) (And.intro foff25_4 (And.intro fpart25_4 fe25))) (And.intro (And.intro zmb25 (And.intro bldT25 Tryd.underlying0)) (And.intro (And.intro Tryd.underlying3 Tryd.underlying4) (And.intro Tryd.underlying9 Tryd.underlying25))))
theorem Y1CoA {G R : Prop} (r : R) (h : R → G := by intro r; first | (apply WP.region; exact rvc_sound _ _ (Sm.out r)) | exact WP.drawK rfl mixed (by decide +kernel) (Sm.out r) | (apply WP.block; exact r) | (apply WP.skip; exact Yq r) | (apply WP.exit; exact Yq r) | (apply WP.ret; exact Sm.out r) | exact WP.cond rfl (fun _ => r) (fun hg => absurd hg (by decide)) | exact WP.cond rfl (fun hg => absurd hg (by decide)) (fun _ => r) | exact Rt.mk (And.intro (fun _ => Sm.out r) fun hg => absurd hg (by decide)) | exact Rt.mk (And.intro (fun hg => absurd hg (by decide)) fun _ => Sm.out r)) : G := h r
theorem YzCoA {G R : Prop} (r : R) (h : R → G := by intro r; first | (apply ExG.no; exact Sm.out r) | (apply Or.inl; apply ExG.no; exact Sm.out r) | exact Or.inl (And.intro (fun hg => absurd hg (by decide)) (ExG.no (Sm.out r)))) : G := h r
structure Ky where
  g : ByteArray
  r : ByteArray
  p : Bool
  e : Int
  s : Bool
abbrev kv (k : Ky) : AV := .agg [.lit (.string k.g), .lit (.string k.r), bv k.p, iv .u64 k.e, bv k.s]
theorem s_bstr (s : ByteArray) : s = bstr (ub s.data.toList) ∧ By (ub s.data.toList) := by
  constructor
  · apply ByteArray.ext
    apply Array.ext'
    simp only [bstr, ub, List.map_map]
    have e2 : s.data.toList.map ((fun n : Int => UInt8.ofNat n.toNat) ∘ fun b : UInt8 => (b.toNat : Int)) = s.data.toList.map id := List.map_congr_left fun b _ => by simp
    rw [e2, List.map_id]
  · intro i hi
    rw [ub_getD]
    have := ((s.data.toList).getD i 0).toNat_lt
    omega
noncomputable def nmS (s : ByteArray) : Bool := nmB (rn (ub s.data.toList))
theorem rname_s (s : ByteArray) (h : s.size ≤ 1000) : ACt Tryd.prog 34 [.lit (.string s)] [] (Fn (bv (nmS s))) := by
  obtain ⟨e, hb⟩ := s_bstr s
  have hl : (ub s.data.toList).length ≤ 1000 := by rw [e, bstr_size] at h; exact h
  have := rname_ct _ hb (by omega)
  unfold stz at this
  rw [← e] at this
  exact this
theorem name_s (s : ByteArray) (h : s.size ≤ 1000) : ACt Tryd.prog 32 [.lit (.string s)] [] (Fn (bv (nmS s))) := by
  obtain ⟨e, hb⟩ := s_bstr s
  have hl : (ub s.data.toList).length ≤ 1000 := by rw [e, bstr_size] at h; exact h
  have := name_ct _ hb (by omega)
  unfold stz at this
  rw [← e] at this
  exact this
def hvB (k : Ky) : Bool := decide ((k.g.size : Int) > 500) || decide ((k.r.size : Int) > 500)
set_option maxRecDepth 8000 in
theorem heavy_ct (k : Ky) : ACt Tryd.prog 8 [kv k] [] (Fn (bv (hvB k))) := by
  unfold hvB
  obtain ⟨x, hx⟩ : ∃ x, decide ((k.g.size : Int) > 500) = x := ⟨_, rfl⟩
  obtain ⟨y, hy⟩ : ∃ y, decide ((k.r.size : Int) > 500) = y := ⟨_, rfl⟩
  rw [hx, hy]
  obtain ⟨kg, kr, kp, ke, ks⟩ := k
  simp only at hx hy
  cases x
  · refine ACt.intro Tryd.func8 rfl (by kernel_rfl) (by simp [Tryd.ntmps8]) (fun cx => ?_)
    simp only [argE, Tryd.ntmps8, Tryd.results8]
    first | (have FRx := FR; clear FRx) | have FR := fr0S
    have FA := Sm.mk (And.intro TFCoA (And.intro hx hy))
    repeat' first | (apply Sm.mk; refine Ys ?_) | refine WP.seq fun K hK => ?_ | (apply Ob.mk; exact Yo) | refine And.intro (Ob.out ?_) ?_ | refine Y1CoA ?_ | refine YzCoA ?_ | (refine WP.cond rfl (fun hc => ?_) (fun hc => ?_) <;> (try simp only [ZC, reduceCtorEq, ZD] at hc) <;> (try exact absurd hc (by decide)) <;> (try (exfalso; omega))) | refine Rt.mk (And.intro (fun hg => Sm.out ?_) fun hg => Sm.out ?_) | (refine Nu.mk ?_; first | (fail_if_success have := nb1); intro nb1 | (fail_if_success have := nb2); intro nb2 | (fail_if_success have := nb3); intro nb3 | (fail_if_success have := nb4); intro nb4 | intro nbz) | (apply Yfr; refine Yf FR fun hFRb FR => ?_) | refine Two.mk ?_ ?_ | (apply Yxc; exact Yx) | refine Cs.mk fun hcs => Sm.out ?_ | go_step | omega | (simp only [maxLen_eq]; omega) | exact trivial
    (have FA := Sm.mk (And.intro hy FA.out); refine Yg ?_; try exact trivial)
  · refine ACt.intro Tryd.func8 rfl (by kernel_rfl) (by simp [Tryd.ntmps8]) (fun cx => ?_)
    simp only [argE, Tryd.ntmps8, Tryd.results8]
    first | (have FRx := FR; clear FRx) | have FR := fr0S
    have FA := Sm.mk (And.intro TFCoA (And.intro hx hy))
    repeat' first | (apply Sm.mk; refine Ys ?_) | refine WP.seq fun K hK => ?_ | (apply Ob.mk; exact Yo) | refine And.intro (Ob.out ?_) ?_ | refine Y1CoA ?_ | refine YzCoA ?_ | (refine WP.cond rfl (fun hc => ?_) (fun hc => ?_) <;> (try simp only [ZC, reduceCtorEq, ZD] at hc) <;> (try exact absurd hc (by decide)) <;> (try (exfalso; omega))) | refine Rt.mk (And.intro (fun hg => Sm.out ?_) fun hg => Sm.out ?_) | (refine Nu.mk ?_; first | (fail_if_success have := nb1); intro nb1 | (fail_if_success have := nb2); intro nb2 | (fail_if_success have := nb3); intro nb3 | (fail_if_success have := nb4); intro nb4 | intro nbz) | (apply Yfr; refine Yf FR fun hFRb FR => ?_) | refine Two.mk ?_ ?_ | (apply Yxc; exact Yx) | refine Cs.mk fun hcs => Sm.out ?_ | go_step | omega | (simp only [maxLen_eq]; omega) | exact trivial
    (have FA := Sm.mk (And.intro hx FA.out); refine Yg ?_; try exact trivial)
structure Sl where
  nm : ByteArray
  gl : ByteArray
  w : Int
  f : Int
  t : Int
abbrev siv (s : Sl) : AV := .agg [.lit (.string s.nm), .lit (.string s.gl), iv .i64 s.w, iv .i64 s.f, iv .i64 s.t]
abbrev bs (s : ByteArray) : List Int := ub s.data.toList
theorem str_empty (s : ByteArray) : (s.toList == (⟨#[]⟩ : ByteArray).toList) = decide (s.size = 0) := by
  obtain ⟨e, hb⟩ := s_bstr s
  have h := str_eq (bs s) [] hb (fun i hi => by simp at hi)
  rw [← e] at h
  have h2 : bstr [] = (⟨#[]⟩ : ByteArray) := rfl
  rw [h2] at h
  rw [h]
  have hl : (bs s).length = s.size := by conv => rhs; rw [e, bstr_size]
  by_cases h0 : s.size = 0
  · rw [decide_eq_true h0, decide_eq_true (List.eq_nil_of_length_eq_zero (by rw [hl]; exact h0))]
  · rw [decide_eq_false h0, decide_eq_false fun hn => h0 (by rw [← hl, hn]; rfl)]
def TFCoB :=
  And.intro (And.intro (And.intro (And.intro (And.intro tyc0 tyc2) (And.intro zmb2 tyc3)) (And.intro (And.intro zmb3 tyc4) (And.intro zmb4 (And.intro tyc9 zmb9)))) (And.intro (And.intro (And.intro tyc21 zmb21) (And.intro tyc32 (And.intro foff32_0 fpart32_0))) (And.intro (And.intro foff32_1 fpart32_1) (And.intro foff32_2 (And.intro fpart32_2 foff32_3))))) (And.intro (And.intro (And.intro (And.intro fpart32_3 foff32_4) (And.intro fpart32_4 (And.intro fe32 zmb32))) (And.intro (And.intro bldT32 tyc87) (And.intro elt87 (And.intro mkz87 apT87)))) (And.intro (And.intro (And.intro elk87 zmb87) (And.intro Tryd.underlying0 (And.intro Tryd.underlying2 Tryd.underlying3))) (And.intro (And.intro Tryd.underlying4 Tryd.underlying9) (And.intro Tryd.underlying21 (And.intro Tryd.underlying32 Tryd.underlying87)))))
theorem Y1CoB {G R : Prop} (r : R) (h : R → G := by intro r; first | (apply WP.region; exact rvc_sound _ _ (Sm.out r)) | exact WP.drawK rfl mixed (by decide +kernel) (Sm.out r) | (apply WP.block; exact r) | (apply WP.skip; exact Yq r) | (apply WP.exit; exact Yq r) | (apply WP.ret; exact Sm.out r) | exact WP.cond rfl (fun _ => r) (fun hg => absurd hg (by decide)) | exact WP.cond rfl (fun hg => absurd hg (by decide)) (fun _ => r) | exact Rt.mk (And.intro (fun _ => Sm.out r) fun hg => absurd hg (by decide)) | exact Rt.mk (And.intro (fun hg => absurd hg (by decide)) fun _ => Sm.out r)) : G := h r
theorem YzCoB {G R : Prop} (r : R) (h : R → G := by intro r; first | (apply ExG.no; exact Sm.out r) | (apply Or.inl; apply ExG.no; exact Sm.out r) | exact Or.inl (And.intro (fun hg => absurd hg (by decide)) (ExG.no (Sm.out r)))) : G := h r
noncomputable def glB (s : ByteArray) : Bool := decide (s.size ≠ 0) && (gdB (bs s) && decide (((rn (bs s)).length : Int) ≤ 40))
set_option maxRecDepth 8000 in
theorem glob_ct (s : ByteArray) (h : s.size ≤ 5000) (n0 n1 : Nat) : ACt Tryd.prog 33 [.lit (.string s)] [(0, .ro .u8 fsZ 256 n0), (1, .ro .u8 acZ 32 n1)] (fun r F' => r = bv (glB s) ∧ F' = [(0, .ro .u8 fsZ 256 n0), (1, .ro .u8 acZ 32 n1)]) := by
  obtain ⟨e, hb⟩ := s_bstr s
  have hl : (bs s).length = s.size := by conv => rhs; rw [e, bstr_size]
  have c1 := goodT_ct (bs s) hb (by omega) n0 n1
  have c2 := cnt_ct (bs s) hb (by omega)
  unfold stz at c1 c2
  rw [← e] at c1 c2
  have hE := str_empty s
  unfold glB
  obtain ⟨a, ha⟩ : ∃ a, decide (s.size = 0) = a := ⟨_, rfl⟩
  have ha2 : decide (s.size ≠ 0) = !a := by rw [← ha, decide_not]
  rw [ha] at hE
  rw [ha2]
  obtain ⟨b, hb2⟩ : ∃ b, gdB (bs s) = b := ⟨_, rfl⟩
  rw [hb2] at c1 ⊢
  obtain ⟨N, hN⟩ : ∃ N, (rn (bs s)).length = N := ⟨_, rfl⟩
  rw [hN] at c2 ⊢
  obtain ⟨c, hc0⟩ : ∃ c, decide ((N : Int) ≤ 40) = c := ⟨_, rfl⟩
  rw [hc0]
  obtain ⟨FZ, hFZ⟩ : ∃ FZ, FZ = fsZ := ⟨_, rfl⟩
  obtain ⟨AZ, hAZ⟩ : ∃ AZ, AZ = acZ := ⟨_, rfl⟩
  rw [← hFZ, ← hAZ] at c1 ⊢
  simp only [← Bool.and_assoc, ← Bool.or_assoc]
  refine ACt.intro Tryd.func33 rfl (by kernel_rfl) (by simp [Tryd.ntmps33]) (fun cx => ?_)
  simp only [argE, Tryd.ntmps33, Tryd.results33]
  first | (have FRx := FR; clear FRx) | have FR := fr0S
  have FA := Sm.mk (And.intro TFCoB (And.intro hE hc0))
  repeat' first | (apply Sm.mk; refine Ys ?_) | refine WP.seq fun K hK => ?_ | (apply Ob.mk; exact Yo) | refine And.intro (Ob.out ?_) ?_ | refine Y1CoB ?_ | refine Yl2 (c := c1) (r := ?_) | refine Yc (c := c2) (r := ?_) | refine YzCoB ?_ | (refine WP.cond rfl (fun hc => ?_) (fun hc => ?_) <;> (try simp only [ZC, reduceCtorEq, ZD] at hc) <;> (try exact absurd hc (by decide)) <;> (try (exfalso; omega))) | refine Rt.mk (And.intro (fun hg => Sm.out ?_) fun hg => Sm.out ?_) | (refine Nu.mk ?_; first | (fail_if_success have := nb1); intro nb1 | (fail_if_success have := nb2); intro nb2 | (fail_if_success have := nb3); intro nb3 | (fail_if_success have := nb4); intro nb4 | intro nbz) | (apply Yfr; refine Yf FR fun hFRb FR => ?_) | refine Two.mk ?_ ?_ | (apply Yxc; exact Yx) | refine Cs.mk fun hcs => Sm.out ?_ | go_step | omega | (simp only [maxLen_eq]; omega) | exact trivial
  (refine OutQ.drop _ _ (perm2 (by simp only [hget, hdel, ↓reduceIte, if_true, if_false, FR.out]; first | done | rfl) (by simp only [hget, hdel, ↓reduceIte, if_true, if_false, FR.out]; first | done | rfl)) (by simp only [resv, ZK, look, loadv, loadn, loadnm, load1, load1m, hget, ↓reduceIte, Nat.reduceEqDiff, Nat.reduceAdd, Nat.reduceMul, Nat.reduceLeDiff, Nat.reduceLT, reduceCtorEq, TFCoB, FR.out]) ⟨(by simp only [resv, resA, ZK, look, loadv, loadn, loadnm, load1, load1m, hget, ↓reduceIte, Nat.reduceEqDiff, Nat.reduceAdd, Nat.reduceMul, Nat.reduceLeDiff, Nat.reduceLT, reduceCtorEq, TFCoB, FR.out]; first | done | rfl), rfl⟩)
set_option maxRecDepth 8000 in
theorem rglob_ct (s : ByteArray) (h : s.size ≤ 5000) : ACt Tryd.prog 35 [.lit (.string s)] [] (Fn (bv (glB s))) := by
  obtain ⟨e, hb⟩ := s_bstr s
  have hl : (bs s).length = s.size := by conv => rhs; rw [e, bstr_size]
  have c1 := rgood_ct (bs s) hb (by omega)
  have c2 := ACt.fzRow (runes_ct (bs s) hb (by omega))
  unfold stz at c1 c2
  rw [← e] at c1 c2
  unfold glB
  obtain ⟨b, hb2⟩ : ∃ b, gdB (bs s) = b := ⟨_, rfl⟩
  rw [hb2] at c1 ⊢
  have hz : s.size = 0 ↔ (rn (bs s)).length = 0 := by
    rw [← hl]
    constructor
    · intro h0
      have := rnF_len (bs s) (bs s).length 0
      unfold rn; omega
    · intro h0
      apply Classical.byContradiction; intro hn
      have := rF_step (zs := bs s) (i := 0) (by omega)
      rw [rF_zero] at this
      rw [this] at h0
      simp at h0
  obtain ⟨L, hL⟩ : ∃ L, L = rn (bs s) := ⟨_, rfl⟩
  rw [← hL] at c2 hz ⊢
  have ha : decide (s.size ≠ 0) = decide ((L.length : Int) ≥ 1) := decide_eq_decide.2 (by rw [ne_eq, hz]; omega)
  rw [ha]
  obtain ⟨a, ha⟩ : ∃ a, decide ((L.length : Int) ≥ 1) = a := ⟨_, rfl⟩
  rw [ha]
  obtain ⟨c, hc0⟩ : ∃ c, decide ((L.length : Int) ≤ 40) = c := ⟨_, rfl⟩
  rw [hc0]
  simp only [← Bool.and_assoc, ← Bool.or_assoc]
  refine ACt.intro Tryd.func35 rfl (by kernel_rfl) (by simp [Tryd.ntmps35]) (fun cx => ?_)
  simp only [argE, Tryd.ntmps35, Tryd.results35]
  first | (have FRx := FR; clear FRx) | have FR := fr0S
  have FA := Sm.mk (And.intro TFCoB (And.intro ha hc0))
  repeat' first | (apply Sm.mk; refine Ys ?_) | refine WP.seq fun K hK => ?_ | (apply Ob.mk; exact Yo) | refine And.intro (Ob.out ?_) ?_ | refine Y1CoB ?_ | refine Yc (c := c1) (r := ?_) | refine Yc (c := c2) (r := ?_) | refine YzCoB ?_ | (refine WP.cond rfl (fun hc => ?_) (fun hc => ?_) <;> (try simp only [ZC, reduceCtorEq, ZD] at hc) <;> (try exact absurd hc (by decide)) <;> (try (exfalso; omega))) | refine Rt.mk (And.intro (fun hg => Sm.out ?_) fun hg => Sm.out ?_) | (refine Nu.mk ?_; first | (fail_if_success have := nb1); intro nb1 | (fail_if_success have := nb2); intro nb2 | (fail_if_success have := nb3); intro nb3 | (fail_if_success have := nb4); intro nb4 | intro nbz) | (apply Yfr; refine Yf FR fun hFRb FR => ?_) | refine Two.mk ?_ ?_ | (apply Yxc; exact Yx) | refine Cs.mk fun hcs => Sm.out ?_ | go_step | omega | (simp only [maxLen_eq]; omega) | exact trivial
  (refine Yg ?_; try exact trivial)
  cases a <;> cases b <;> cases c <;> rfl
noncomputable def srB (s : Sl) : Bool := nmS s.nm && (glB s.gl && (decide (0 ≤ s.w ∧ s.w ≤ 2) && (decide (0 ≤ s.f) && (decide (s.f < s.t) && decide (s.t ≤ 253402300799)))))
structure Sz (s : Sl) : Prop where
  n : s.nm.size ≤ 1000
  g : s.gl.size ≤ 1000
set_option maxRecDepth 8000 in
theorem sright_ct (s : Sl) (hz : Sz s) (n0 n1 : Nat) : ACt Tryd.prog 9 [siv s] [(0, .ro .u8 fsZ 256 n0), (1, .ro .u8 acZ 32 n1)] (fun r F' => r = bv (srB s) ∧ F' = [(0, .ro .u8 fsZ 256 n0), (1, .ro .u8 acZ 32 n1)]) := by
  have c1 := name_s s.nm hz.n
  have c2 := glob_ct s.gl (by have := hz.g; omega) n0 n1
  unfold srB
  obtain ⟨sn, sg, w, f, t⟩ := s
  simp only at c1 c2 ⊢
  obtain ⟨a, ha⟩ : ∃ a, nmS sn = a := ⟨_, rfl⟩
  rw [ha] at c1 ⊢
  obtain ⟨b, hb⟩ : ∃ b, glB sg = b := ⟨_, rfl⟩
  rw [hb] at c2 ⊢
  obtain ⟨x0, h0⟩ : ∃ x, (w == 0) = x := ⟨_, rfl⟩
  obtain ⟨x1, h1⟩ : ∃ x, (w == 1) = x := ⟨_, rfl⟩
  obtain ⟨x2, h2⟩ : ∃ x, (w == 2) = x := ⟨_, rfl⟩
  have hw : decide (0 ≤ w ∧ w ≤ 2) = (x0 || (x1 || x2)) := by
    rw [← h0, ← h1, ← h2, Bool.eq_iff_iff]; simp; omega
  rw [hw]
  obtain ⟨y0, g0⟩ : ∃ x, decide (f ≥ 0) = x := ⟨_, rfl⟩
  have g0' : decide (0 ≤ f) = y0 := g0
  obtain ⟨y1, g1⟩ : ∃ x, decide (t > f) = x := ⟨_, rfl⟩
  have g1' : decide (f < t) = y1 := g1
  obtain ⟨y2, g2⟩ : ∃ x, decide (t ≤ 253402300799) = x := ⟨_, rfl⟩
  rw [g0', g1', g2]
  obtain ⟨FZ, hFZ⟩ : ∃ FZ, FZ = fsZ := ⟨_, rfl⟩
  obtain ⟨AZ, hAZ⟩ : ∃ AZ, AZ = acZ := ⟨_, rfl⟩
  rw [← hFZ, ← hAZ] at c2 ⊢
  clear ha hb hw hz g0' g1' hFZ hAZ
  have hT : (a && (b && ((x0 || (x1 || x2)) && (y0 && (y1 && y2))))) = ((x0 || x1 || x2) && a && b && y0 && y1 && y2) := by ac_rfl
  rw [hT]
  refine ACt.intro Tryd.func9 rfl (by kernel_rfl) (by simp [Tryd.ntmps9]) (fun cx => ?_)
  simp only [argE, Tryd.ntmps9, Tryd.results9]
  first | (have FRx := FR; clear FRx) | have FR := fr0S
  have FA := Sm.mk (And.intro TFCoB (And.intro h0 (And.intro h1 (And.intro h2 (And.intro g0 (And.intro g1 g2))))))
  repeat' first | (apply Sm.mk; refine Ys ?_) | refine WP.seq fun K hK => ?_ | (apply Ob.mk; exact Yo) | refine And.intro (Ob.out ?_) ?_ | refine Y1CoB ?_ | refine Yc (c := c1) (r := ?_) | refine Yl2 (c := c2) (r := ?_) | refine YzCoB ?_ | (refine WP.cond rfl (fun hc => ?_) (fun hc => ?_) <;> (try simp only [ZC, reduceCtorEq, ZD] at hc) <;> (try exact absurd hc (by decide)) <;> (try (exfalso; omega))) | refine Rt.mk (And.intro (fun hg => Sm.out ?_) fun hg => Sm.out ?_) | (refine Nu.mk ?_; first | (fail_if_success have := nb1); intro nb1 | (fail_if_success have := nb2); intro nb2 | (fail_if_success have := nb3); intro nb3 | (fail_if_success have := nb4); intro nb4 | intro nbz) | (apply Yfr; refine Yf FR fun hFRb FR => ?_) | refine Two.mk ?_ ?_ | (apply Yxc; exact Yx) | refine Cs.mk fun hcs => Sm.out ?_ | go_step | omega | (simp only [maxLen_eq]; omega) | exact trivial
  (refine OutQ.drop _ _ (perm2 (by simp only [hget, hdel, ↓reduceIte, if_true, if_false, FR.out]; first | done | rfl) (by simp only [hget, hdel, ↓reduceIte, if_true, if_false, FR.out]; first | done | rfl)) (by simp only [resv, ZK, look, loadv, loadn, loadnm, load1, load1m, hget, ↓reduceIte, Nat.reduceEqDiff, Nat.reduceAdd, Nat.reduceMul, Nat.reduceLeDiff, Nat.reduceLT, reduceCtorEq, TFCoB, FR.out]) ⟨(by simp only [resv, resA, ZK, look, loadv, loadn, loadnm, load1, load1m, hget, ↓reduceIte, Nat.reduceEqDiff, Nat.reduceAdd, Nat.reduceMul, Nat.reduceLeDiff, Nat.reduceLT, reduceCtorEq, TFCoB, FR.out]; first | done | rfl), rfl⟩)
set_option maxRecDepth 8000 in
theorem rsright_ct (s : Sl) (hz : Sz s) : ACt Tryd.prog 10 [siv s] [] (Fn (bv (srB s))) := by
  have c1 := rname_s s.nm hz.n
  have c2 := rglob_ct s.gl (by have := hz.g; omega)
  unfold srB
  obtain ⟨sn, sg, w, f, t⟩ := s
  simp only at c1 c2 ⊢
  obtain ⟨a, ha⟩ : ∃ a, nmS sn = a := ⟨_, rfl⟩
  rw [ha] at c1 ⊢
  obtain ⟨b, hb⟩ : ∃ b, glB sg = b := ⟨_, rfl⟩
  rw [hb] at c2 ⊢
  obtain ⟨x0, h0⟩ : ∃ x, decide (w ≥ 0) = x := ⟨_, rfl⟩
  obtain ⟨x1, h1⟩ : ∃ x, decide (w ≤ 2) = x := ⟨_, rfl⟩
  have hw : decide (0 ≤ w ∧ w ≤ 2) = (x0 && x1) := by
    rw [← h0, ← h1, Bool.eq_iff_iff]; simp
  rw [hw]
  obtain ⟨y0, g0⟩ : ∃ x, decide (f ≥ 0) = x := ⟨_, rfl⟩
  have g0' : decide (0 ≤ f) = y0 := g0
  obtain ⟨y1, g1⟩ : ∃ x, decide (f < t) = x := ⟨_, rfl⟩
  obtain ⟨y2, g2⟩ : ∃ x, decide (t ≤ 253402300799) = x := ⟨_, rfl⟩
  rw [g0', g1, g2]
  clear ha hb hw hz g0'
  simp only [← Bool.and_assoc, ← Bool.or_assoc]
  refine ACt.intro Tryd.func10 rfl (by kernel_rfl) (by simp [Tryd.ntmps10]) (fun cx => ?_)
  simp only [argE, Tryd.ntmps10, Tryd.results10]
  first | (have FRx := FR; clear FRx) | have FR := fr0S
  have FA := Sm.mk (And.intro TFCoB (And.intro h0 (And.intro h1 (And.intro g0 (And.intro g1 g2)))))
  repeat' first | (apply Sm.mk; refine Ys ?_) | refine WP.seq fun K hK => ?_ | (apply Ob.mk; exact Yo) | refine And.intro (Ob.out ?_) ?_ | refine Y1CoB ?_ | refine Yc (c := c1) (r := ?_) | refine Yc (c := c2) (r := ?_) | refine YzCoB ?_ | (refine WP.cond rfl (fun hc => ?_) (fun hc => ?_) <;> (try simp only [ZC, reduceCtorEq, ZD] at hc) <;> (try exact absurd hc (by decide)) <;> (try (exfalso; omega))) | refine Rt.mk (And.intro (fun hg => Sm.out ?_) fun hg => Sm.out ?_) | (refine Nu.mk ?_; first | (fail_if_success have := nb1); intro nb1 | (fail_if_success have := nb2); intro nb2 | (fail_if_success have := nb3); intro nb3 | (fail_if_success have := nb4); intro nb4 | intro nbz) | (apply Yfr; refine Yf FR fun hFRb FR => ?_) | refine Two.mk ?_ ?_ | (apply Yxc; exact Yx) | refine Cs.mk fun hcs => Sm.out ?_ | go_step | omega | (simp only [maxLen_eq]; omega) | exact trivial
  (refine Yg ?_; try exact trivial)
end Go.Proofs.YtaffbklkjjmmdaaDoor
