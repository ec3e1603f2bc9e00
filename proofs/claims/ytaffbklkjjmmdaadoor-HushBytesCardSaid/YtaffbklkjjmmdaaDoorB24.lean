/-
  The walks and the laws that the statement leans on, part 24.
-/
import Derived.Test.YtaffbklkjjmmdaaDoorB10
import Derived.Test.YtaffbklkjjmmdaaDoorB20
import Derived.Test.YtaffbklkjjmmdaaDoorB23
namespace Go.Proofs.YtaffbklkjjmmdaaDoor
open Go
set_option linter.unusedVariables false
set_option linter.unusedSimpArgs false
structure Ky where
  g : ByteArray
  r : ByteArray
  p : Bool
  e : Int
  s : Bool
abbrev kv (k : Ky) : AV := .agg [.lit (.string k.g), .lit (.string k.r), bv k.p, iv .u64 k.e, bv k.s]
theorem ba_iff (s t : ByteArray) : (s == t) = true ↔ s = t := by
  obtain ⟨a⟩ := s
  obtain ⟨b⟩ := t
  show (a == b) = true ↔ _
  simp
theorem s_bstr (s : ByteArray) : s = bstr (ub s.data.toList) ∧ By (ub s.data.toList) := by
  constructor
  · apply ByteArray.ext
    apply Array.ext'
    simp only [bstr, ub, List.map_map]
    have e2 : s.data.toList.map ((fun n : Int => UInt8.ofNat n.toNat) ∘ fun b : UInt8 => (b.toNat : Int)) = s.data.toList.map id := List.map_congr_left fun b _ => by simp
    rw [e2, List.map_id]
  · intro i hi
    rw [ub_getD]
    have := ((s.data.toList).getD i 0).toNat_lt
    omega
noncomputable def nmS (s : ByteArray) : Bool := nmB (rn (ub s.data.toList))
theorem rname_s (s : ByteArray) (h : s.size ≤ 1000) : ACt Tryd.prog 34 [.lit (.string s)] [] (Fn (bv (nmS s))) := by
  obtain ⟨e, hb⟩ := s_bstr s
  have hl : (ub s.data.toList).length ≤ 1000 := by rw [e, bstr_size] at h; exact h
  have := rname_ct _ hb (by omega)
  unfold stz at this
  rw [← e] at this
  exact this
theorem name_s (s : ByteArray) (h : s.size ≤ 1000) : ACt Tryd.prog 32 [.lit (.string s)] [] (Fn (bv (nmS s))) := by
  obtain ⟨e, hb⟩ := s_bstr s
  have hl : (ub s.data.toList).length ≤ 1000 := by rw [e, bstr_size] at h; exact h
  have := name_ct _ hb (by omega)
  unfold stz at this
  rw [← e] at this
  exact this
structure Sl where
  nm : ByteArray
  gl : ByteArray
  w : Int
  f : Int
  t : Int
abbrev siv (s : Sl) : AV := .agg [.lit (.string s.nm), .lit (.string s.gl), iv .i64 s.w, iv .i64 s.f, iv .i64 s.t]
abbrev bs (s : ByteArray) : List Int := ub s.data.toList
theorem str_empty (s : ByteArray) : (s.toList == (⟨#[]⟩ : ByteArray).toList) = decide (s.size = 0) := by
  obtain ⟨e, hb⟩ := s_bstr s
  have h := str_eq (bs s) [] hb (fun i hi => by simp at hi)
  rw [← e] at h
  have h2 : bstr [] = (⟨#[]⟩ : ByteArray) := rfl
  rw [h2] at h
  rw [h]
  have hl : (bs s).length = s.size := by conv => rhs; rw [e, bstr_size]
  by_cases h0 : s.size = 0
  · rw [decide_eq_true h0, decide_eq_true (List.eq_nil_of_length_eq_zero (by rw [hl]; exact h0))]
  · rw [decide_eq_false h0, decide_eq_false fun hn => h0 (by rw [← hl, hn]; rfl)]
set_option linter.defProp false
def TFCoB :=
  And.intro (And.intro (And.intro (And.intro (And.intro tyc0 tyc2) (And.intro zmb2 tyc3)) (And.intro (And.intro zmb3 tyc4) (And.intro zmb4 (And.intro tyc9 zmb9)))) (And.intro (And.intro (And.intro tyc21 zmb21) (And.intro tyc32 (And.intro foff32_0 fpart32_0))) (And.intro (And.intro foff32_1 fpart32_1) (And.intro foff32_2 (And.intro fpart32_2 foff32_3))))) (And.intro (And.intro (And.intro (And.intro fpart32_3 foff32_4) (And.intro fpart32_4 (And.intro fe32 zmb32))) (And.intro (And.intro bldT32 tyc87) (And.intro elt87 (And.intro mkz87 apT87)))) (And.intro (And.intro (And.intro elk87 zmb87) (And.intro Tryd.underlying0 (And.intro Tryd.underlying2 Tryd.underlying3))) (And.intro (And.intro Tryd.underlying4 Tryd.underlying9) (And.intro Tryd.underlying21 (And.intro Tryd.underlying32 Tryd.underlying87)))))
theorem Y1CoB {G R : Prop} (r : R) (h : R → G := by intro r; first | (apply WP.region; exact rvc_sound _ _ (Sm.out r)) | exact WP.drawK rfl mixed (by decide +kernel) (Sm.out r) | (apply WP.block; exact r) | (apply WP.skip; exact Yq r) | (apply WP.exit; exact Yq r) | (apply WP.ret; exact Sm.out r) | exact WP.cond rfl (fun _ => r) (fun hg => absurd hg (by decide)) | exact WP.cond rfl (fun hg => absurd hg (by decide)) (fun _ => r) | exact Rt.mk (And.intro (fun _ => Sm.out r) fun hg => absurd hg (by decide)) | exact Rt.mk (And.intro (fun hg => absurd hg (by decide)) fun _ => Sm.out r)) : G := h r
theorem YzCoB {G R : Prop} (r : R) (h : R → G := by intro r; first | (apply ExG.no; exact Sm.out r) | (apply Or.inl; apply ExG.no; exact Sm.out r) | exact Or.inl (And.intro (fun hg => absurd hg (by decide)) (ExG.no (Sm.out r)))) : G := h r
noncomputable def glB (s : ByteArray) : Bool := decide (s.size ≠ 0) && (gdB (bs s) && decide (((rn (bs s)).length : Int) ≤ 40))
set_option maxRecDepth 8000 in
theorem glob_ct (s : ByteArray) (h : s.size ≤ 5000) (n0 n1 : Nat) : ACt Tryd.prog 33 [.lit (.string s)] [(0, .ro .u8 fsZ 256 n0), (1, .ro .u8 acZ 32 n1)] (fun r F' => r = bv (glB s) ∧ F' = [(0, .ro .u8 fsZ 256 n0), (1, .ro .u8 acZ 32 n1)]) := by
  obtain ⟨e, hb⟩ := s_bstr s
  have hl : (bs s).length = s.size := by conv => rhs; rw [e, bstr_size]
  have c1 := goodT_ct (bs s) hb (by omega) n0 n1
  have c2 := cnt_ct (bs s) hb (by omega)
  unfold stz at c1 c2
  rw [← e] at c1 c2
  have hE := str_empty s
  unfold glB
  obtain ⟨a, ha⟩ : ∃ a, decide (s.size = 0) = a := ⟨_, rfl⟩
  have ha2 : decide (s.size ≠ 0) = !a := by rw [← ha, decide_not]
  rw [ha] at hE
  rw [ha2]
  obtain ⟨b, hb2⟩ : ∃ b, gdB (bs s) = b := ⟨_, rfl⟩
  rw [hb2] at c1 ⊢
  obtain ⟨N, hN⟩ : ∃ N, (rn (bs s)).length = N := ⟨_, rfl⟩
  rw [hN] at c2 ⊢
  obtain ⟨c, hc0⟩ : ∃ c, decide ((N : Int) ≤ 40) = c := ⟨_, rfl⟩
  rw [hc0]
  obtain ⟨FZ, hFZ⟩ : ∃ FZ, FZ = fsZ := ⟨_, rfl⟩
  obtain ⟨AZ, hAZ⟩ : ∃ AZ, AZ = acZ := ⟨_, rfl⟩
  rw [← hFZ, ← hAZ] at c1 ⊢
  simp only [← Bool.and_assoc, ← Bool.or_assoc]
  refine ACt.intro Tryd.func33 rfl (by kernel_rfl) (by simp [Tryd.ntmps33]) (fun cx => ?_)
  simp only [argE, Tryd.ntmps33, Tryd.results33]
  first | (have FRx := FR; clear FRx) | have FR := fr0S
  have FA := Sm.mk (And.intro TFCoB (And.intro hE hc0))
  repeat' first | (apply Sm.mk; refine Ys ?_) | refine WP.seq fun K hK => ?_ | (apply Ob.mk; exact Yo) | refine And.intro (Ob.out ?_) ?_ | refine Y1CoB ?_ | refine Yl2 (c := c1) (r := ?_) | refine Yc (c := c2) (r := ?_) | refine YzCoB ?_ | (refine WP.cond rfl (fun hc => ?_) (fun hc => ?_) <;> (try simp only [ZC, reduceCtorEq, ZD] at hc) <;> (try exact absurd hc (by decide)) <;> (try (exfalso; omega))) | refine Rt.mk (And.intro (fun hg => Sm.out ?_) fun hg => Sm.out ?_) | (refine Nu.mk ?_; first | (fail_if_success have := nb1); intro nb1 | (fail_if_success have := nb2); intro nb2 | (fail_if_success have := nb3); intro nb3 | (fail_if_success have := nb4); intro nb4 | intro nbz) | (apply Yfr; refine Yf FR fun hFRb FR => ?_) | refine Two.mk ?_ ?_ | (apply Yxc; exact Yx) | refine Cs.mk fun hcs => Sm.out ?_ | go_step | omega | (simp only [maxLen_eq]; omega) | exact trivial
  (refine OutQ.drop _ _ (perm2 (by simp only [hget, hdel, ↓reduceIte, if_true, if_false, FR.out]; first | done | rfl) (by simp only [hget, hdel, ↓reduceIte, if_true, if_false, FR.out]; first | done | rfl)) (by simp only [resv, ZK, look, loadv, loadn, loadnm, load1, load1m, hget, ↓reduceIte, Nat.reduceEqDiff, Nat.reduceAdd, Nat.reduceMul, Nat.reduceLeDiff, Nat.reduceLT, reduceCtorEq, TFCoB, FR.out]) ⟨(by simp only [resv, resA, ZK, look, loadv, loadn, loadnm, load1, load1m, hget, ↓reduceIte, Nat.reduceEqDiff, Nat.reduceAdd, Nat.reduceMul, Nat.reduceLeDiff, Nat.reduceLT, reduceCtorEq, TFCoB, FR.out]; first | done | rfl), rfl⟩)
set_option maxRecDepth 8000 in
theorem rglob_ct (s : ByteArray) (h : s.size ≤ 5000) : ACt Tryd.prog 35 [.lit (.string s)] [] (Fn (bv (glB s))) := by
  obtain ⟨e, hb⟩ := s_bstr s
  have hl : (bs s).length = s.size := by conv => rhs; rw [e, bstr_size]
  have c1 := rgood_ct (bs s) hb (by omega)
  have c2 := ACt.fzRow (runes_ct (bs s) hb (by omega))
  unfold stz at c1 c2
  rw [← e] at c1 c2
  unfold glB
  obtain ⟨b, hb2⟩ : ∃ b, gdB (bs s) = b := ⟨_, rfl⟩
  rw [hb2] at c1 ⊢
  have hz : s.size = 0 ↔ (rn (bs s)).length = 0 := by
    rw [← hl]
    constructor
    · intro h0
      have := rnF_len (bs s) (bs s).length 0
      unfold rn; omega
    · intro h0
      apply Classical.byContradiction; intro hn
      have := rF_step (zs := bs s) (i := 0) (by omega)
      rw [rF_zero] at this
      rw [this] at h0
      simp at h0
  obtain ⟨L, hL⟩ : ∃ L, L = rn (bs s) := ⟨_, rfl⟩
  rw [← hL] at c2 hz ⊢
  have ha : decide (s.size ≠ 0) = decide ((L.length : Int) ≥ 1) := decide_eq_decide.2 (by rw [ne_eq, hz]; omega)
  rw [ha]
  obtain ⟨a, ha⟩ : ∃ a, decide ((L.length : Int) ≥ 1) = a := ⟨_, rfl⟩
  rw [ha]
  obtain ⟨c, hc0⟩ : ∃ c, decide ((L.length : Int) ≤ 40) = c := ⟨_, rfl⟩
  rw [hc0]
  simp only [← Bool.and_assoc, ← Bool.or_assoc]
  refine ACt.intro Tryd.func35 rfl (by kernel_rfl) (by simp [Tryd.ntmps35]) (fun cx => ?_)
  simp only [argE, Tryd.ntmps35, Tryd.results35]
  first | (have FRx := FR; clear FRx) | have FR := fr0S
  have FA := Sm.mk (And.intro TFCoB (And.intro ha hc0))
  repeat' first | (apply Sm.mk; refine Ys ?_) | refine WP.seq fun K hK => ?_ | (apply Ob.mk; exact Yo) | refine And.intro (Ob.out ?_) ?_ | refine Y1CoB ?_ | refine Yc (c := c1) (r := ?_) | refine Yc (c := c2) (r := ?_) | refine YzCoB ?_ | (refine WP.cond rfl (fun hc => ?_) (fun hc => ?_) <;> (try simp only [ZC, reduceCtorEq, ZD] at hc) <;> (try exact absurd hc (by decide)) <;> (try (exfalso; omega))) | refine Rt.mk (And.intro (fun hg => Sm.out ?_) fun hg => Sm.out ?_) | (refine Nu.mk ?_; first | (fail_if_success have := nb1); intro nb1 | (fail_if_success have := nb2); intro nb2 | (fail_if_success have := nb3); intro nb3 | (fail_if_success have := nb4); intro nb4 | intro nbz) | (apply Yfr; refine Yf FR fun hFRb FR => ?_) | refine Two.mk ?_ ?_ | (apply Yxc; exact Yx) | refine Cs.mk fun hcs => Sm.out ?_ | go_step | omega | (simp only [maxLen_eq]; omega) | exact trivial
  (refine Yg ?_; try exact trivial)
  cases a <;> cases b <;> cases c <;> rfl
noncomputable def srB (s : Sl) : Bool := nmS s.nm && (glB s.gl && (decide (0 ≤ s.w ∧ s.w ≤ 2) && (decide (0 ≤ s.f) && (decide (s.f < s.t) && decide (s.t ≤ 253402300799)))))
structure Sz (s : Sl) : Prop where
  n : s.nm.size ≤ 1000
  g : s.gl.size ≤ 1000
set_option maxRecDepth 8000 in
theorem sright_ct (s : Sl) (hz : Sz s) (n0 n1 : Nat) : ACt Tryd.prog 9 [siv s] [(0, .ro .u8 fsZ 256 n0), (1, .ro .u8 acZ 32 n1)] (fun r F' => r = bv (srB s) ∧ F' = [(0, .ro .u8 fsZ 256 n0), (1, .ro .u8 acZ 32 n1)]) := by
  have c1 := name_s s.nm hz.n
  have c2 := glob_ct s.gl (by have := hz.g; omega) n0 n1
  unfold srB
  obtain ⟨sn, sg, w, f, t⟩ := s
  simp only at c1 c2 ⊢
  obtain ⟨a, ha⟩ : ∃ a, nmS sn = a := ⟨_, rfl⟩
  rw [ha] at c1 ⊢
  obtain ⟨b, hb⟩ : ∃ b, glB sg = b := ⟨_, rfl⟩
  rw [hb] at c2 ⊢
  obtain ⟨x0, h0⟩ : ∃ x, (w == 0) = x := ⟨_, rfl⟩
  obtain ⟨x1, h1⟩ : ∃ x, (w == 1) = x := ⟨_, rfl⟩
  obtain ⟨x2, h2⟩ : ∃ x, (w == 2) = x := ⟨_, rfl⟩
  have hw : decide (0 ≤ w ∧ w ≤ 2) = (x0 || (x1 || x2)) := by
    rw [← h0, ← h1, ← h2, Bool.eq_iff_iff]; simp; omega
  rw [hw]
  obtain ⟨y0, g0⟩ : ∃ x, decide (f ≥ 0) = x := ⟨_, rfl⟩
  have g0' : decide (0 ≤ f) = y0 := g0
  obtain ⟨y1, g1⟩ : ∃ x, decide (t > f) = x := ⟨_, rfl⟩
  have g1' : decide (f < t) = y1 := g1
  obtain ⟨y2, g2⟩ : ∃ x, decide (t ≤ 253402300799) = x := ⟨_, rfl⟩
  rw [g0', g1', g2]
  obtain ⟨FZ, hFZ⟩ : ∃ FZ, FZ = fsZ := ⟨_, rfl⟩
  obtain ⟨AZ, hAZ⟩ : ∃ AZ, AZ = acZ := ⟨_, rfl⟩
  rw [← hFZ, ← hAZ] at c2 ⊢
  clear ha hb hw hz g0' g1' hFZ hAZ
  have hT : (a && (b && ((x0 || (x1 || x2)) && (y0 && (y1 && y2))))) = ((x0 || x1 || x2) && a && b && y0 && y1 && y2) := by ac_rfl
  rw [hT]
  refine ACt.intro Tryd.func9 rfl (by kernel_rfl) (by simp [Tryd.ntmps9]) (fun cx => ?_)
  simp only [argE, Tryd.ntmps9, Tryd.results9]
  first | (have FRx := FR; clear FRx) | have FR := fr0S
  have FA := Sm.mk (And.intro TFCoB (And.intro h0 (And.intro h1 (And.intro h2 (And.intro g0 (And.intro g1 g2))))))
  repeat' first | (apply Sm.mk; refine Ys ?_) | refine WP.seq fun K hK => ?_ | (apply Ob.mk; exact Yo) | refine And.intro (Ob.out ?_) ?_ | refine Y1CoB ?_ | refine Yc (c := c1) (r := ?_) | refine Yl2 (c := c2) (r := ?_) | refine YzCoB ?_ | (refine WP.cond rfl (fun hc => ?_) (fun hc => ?_) <;> (try simp only [ZC, reduceCtorEq, ZD] at hc) <;> (try exact absurd hc (by decide)) <;> (try (exfalso; omega))) | refine Rt.mk (And.intro (fun hg => Sm.out ?_) fun hg => Sm.out ?_) | (refine Nu.mk ?_; first | (fail_if_success have := nb1); intro nb1 | (fail_if_success have := nb2); intro nb2 | (fail_if_success have := nb3); intro nb3 | (fail_if_success have := nb4); intro nb4 | intro nbz) | (apply Yfr; refine Yf FR fun hFRb FR => ?_) | refine Two.mk ?_ ?_ | (apply Yxc; exact Yx) | refine Cs.mk fun hcs => Sm.out ?_ | go_step | omega | (simp only [maxLen_eq]; omega) | exact trivial
  (refine OutQ.drop _ _ (perm2 (by simp only [hget, hdel, ↓reduceIte, if_true, if_false, FR.out]; first | done | rfl) (by simp only [hget, hdel, ↓reduceIte, if_true, if_false, FR.out]; first | done | rfl)) (by simp only [resv, ZK, look, loadv, loadn, loadnm, load1, load1m, hget, ↓reduceIte, Nat.reduceEqDiff, Nat.reduceAdd, Nat.reduceMul, Nat.reduceLeDiff, Nat.reduceLT, reduceCtorEq, TFCoB, FR.out]) ⟨(by simp only [resv, resA, ZK, look, loadv, loadn, loadnm, load1, load1m, hget, ↓reduceIte, Nat.reduceEqDiff, Nat.reduceAdd, Nat.reduceMul, Nat.reduceLeDiff, Nat.reduceLT, reduceCtorEq, TFCoB, FR.out]; first | done | rfl), rfl⟩)
set_option maxRecDepth 8000 in
theorem rsright_ct (s : Sl) (hz : Sz s) : ACt Tryd.prog 10 [siv s] [] (Fn (bv (srB s))) := by
  have c1 := rname_s s.nm hz.n
  have c2 := rglob_ct s.gl (by have := hz.g; omega)
  unfold srB
  obtain ⟨sn, sg, w, f, t⟩ := s
  simp only at c1 c2 ⊢
  obtain ⟨a, ha⟩ : ∃ a, nmS sn = a := ⟨_, rfl⟩
  rw [ha] at c1 ⊢
  obtain ⟨b, hb⟩ : ∃ b, glB sg = b := ⟨_, rfl⟩
  rw [hb] at c2 ⊢
  obtain ⟨x0, h0⟩ : ∃ x, decide (w ≥ 0) = x := ⟨_, rfl⟩
  obtain ⟨x1, h1⟩ : ∃ x, decide (w ≤ 2) = x := ⟨_, rfl⟩
  have hw : decide (0 ≤ w ∧ w ≤ 2) = (x0 && x1) := by
    rw [← h0, ← h1, Bool.eq_iff_iff]; simp
  rw [hw]
  obtain ⟨y0, g0⟩ : ∃ x, decide (f ≥ 0) = x := ⟨_, rfl⟩
  have g0' : decide (0 ≤ f) = y0 := g0
  obtain ⟨y1, g1⟩ : ∃ x, decide (f < t) = x := ⟨_, rfl⟩
  obtain ⟨y2, g2⟩ : ∃ x, decide (t ≤ 253402300799) = x := ⟨_, rfl⟩
  rw [g0', g1, g2]
  clear ha hb hw hz g0'
  simp only [← Bool.and_assoc, ← Bool.or_assoc]
  refine ACt.intro Tryd.func10 rfl (by kernel_rfl) (by simp [Tryd.ntmps10]) (fun cx => ?_)
  simp only [argE, Tryd.ntmps10, Tryd.results10]
  first | (have FRx := FR; clear FRx) | have FR := fr0S
  have FA := Sm.mk (And.intro TFCoB (And.intro h0 (And.intro h1 (And.intro g0 (And.intro g1 g2)))))
  repeat' first | (apply Sm.mk; refine Ys ?_) | refine WP.seq fun K hK => ?_ | (apply Ob.mk; exact Yo) | refine And.intro (Ob.out ?_) ?_ | refine Y1CoB ?_ | refine Yc (c := c1) (r := ?_) | refine Yc (c := c2) (r := ?_) | refine YzCoB ?_ | (refine WP.cond rfl (fun hc => ?_) (fun hc => ?_) <;> (try simp only [ZC, reduceCtorEq, ZD] at hc) <;> (try exact absurd hc (by decide)) <;> (try (exfalso; omega))) | refine Rt.mk (And.intro (fun hg => Sm.out ?_) fun hg => Sm.out ?_) | (refine Nu.mk ?_; first | (fail_if_success have := nb1); intro nb1 | (fail_if_success have := nb2); intro nb2 | (fail_if_success have := nb3); intro nb3 | (fail_if_success have := nb4); intro nb4 | intro nbz) | (apply Yfr; refine Yf FR fun hFRb FR => ?_) | refine Two.mk ?_ ?_ | (apply Yxc; exact Yx) | refine Cs.mk fun hcs => Sm.out ?_ | go_step | omega | (simp only [maxLen_eq]; omega) | exact trivial
  (refine Yg ?_; try exact trivial)
abbrev sc (e : Sl) (r : List AV) : List AV := .lit (.string e.nm) :: .lit (.string e.gl) :: iv .i64 e.w :: iv .i64 e.f :: iv .i64 e.t :: r
abbrev nsl : AV := .lit (.slice none 0 0)
def scs : List Sl → List AV
  | [] => []
  | e :: l => .lit (.string e.nm) :: .lit (.string e.gl) :: iv .i64 e.w :: iv .i64 e.f :: iv .i64 e.t :: scs l
theorem scs_len : ∀ l, (scs l).length = l.length * 5
  | [] => rfl
  | k :: r => by simp only [scs, List.length_cons, scs_len r]; omega
theorem scs_drop : ∀ (l : List Sl) (i : Nat) (h : i < l.length), (scs l).drop (i * 5) = sc l[i] (scs (l.drop (i + 1)))
  | k :: r, 0, _ => rfl
  | k :: r, i + 1, h => by
    have := scs_drop r i (by simpa using h)
    rw [show (i + 1) * 5 = i * 5 + 5 by omega]
    simpa [scs] using this
theorem scs_take : ∀ (l : List Sl) (i : Nat), i ≤ l.length → (scs l).take (i * 5) = scs (l.take i)
  | l, 0, _ => by simp [scs]
  | [], i + 1, h => by simp at h
  | k :: r, i + 1, h => by
    have := scs_take r i (by simpa using h)
    rw [show (i + 1) * 5 = i * 5 + 5 by omega]
    simpa [scs] using this
theorem scs_app (l m : List Sl) : scs (l ++ m) = scs l ++ scs m := by
  induction l with
  | nil => rfl
  | cons k r ih => simp [scs, ih]
theorem scs_one (l : List Sl) : (scs l).all oneC = true := by
  induction l with
  | nil => rfl
  | cons k r ih => simp only [scs, List.all_cons, ih, oneC, Value.oneCell', Bool.and_self, Bool.true_and]
theorem scs_drop' : ∀ (l : List Sl) (i : Nat), i ≤ l.length → (scs l).drop (i * 5) = scs (l.drop i)
  | l, 0, _ => by simp
  | [], i + 1, h => by simp at h
  | k :: r, i + 1, h => by
    have := scs_drop' r i (by simpa using h)
    rw [show (i + 1) * 5 = i * 5 + 5 by omega]
    simpa [scs] using this
theorem scs_set5 : ∀ (l : List Sl) (j : Nat) (h : j < l.length) (v : Sl), (scs l).take (j * 5) ++ [.lit (.string v.nm), .lit (.string v.gl), iv .i64 v.w, iv .i64 v.f, iv .i64 v.t] ++ (scs l).drop (j * 5 + 5) = scs (l.set j v) := fun l j h v => by
  rw [show j * 5 + 5 = (j + 1) * 5 by omega, scs_take _ _ (by omega), scs_drop' _ _ (by omega), List.set_eq_take_append_cons_drop, if_pos h, scs_app, List.append_assoc]
  rfl
def ixF (p : Sl → Bool) : List Sl → Int → Int
  | [], _ => -1
  | e :: r, i => if p e then i else ixF p r (i + 1)
theorem ixF_drop (p : Sl → Bool) (l : List Sl) {i : Nat} (h : i < l.length) : ixF p (l.drop i) (i : Int) = if p l[i] then (i : Int) else ixF p (l.drop (i + 1)) ((i + 1 : Nat) : Int) := by
  rw [List.drop_eq_getElem_cons h]
  rfl
theorem ixF_spec (p : Sl → Bool) : ∀ (l : List Sl) (i : Nat), (ixF p l (i : Int) = -1 ∧ l.filter (fun e => !p e) = l ∧ l.any p = false) ∨ ∃ q, ∃ h : q < l.length, ixF p l (i : Int) = ((i + q : Nat) : Int) ∧ p l[q] = true ∧ (l.take q).filter (fun e => !p e) = l.take q ∧ l.any p = true
  | [], i => .inl ⟨rfl, rfl, rfl⟩
  | e :: r, i => by
    cases hp : p e with
    | true => exact .inr ⟨0, by simp, by simp [ixF, hp], by simpa using hp, rfl, by simp [hp]⟩
    | false =>
      rcases ixF_spec p r (i + 1) with ⟨h1, h2, h3⟩ | ⟨q, hq, h1, h2, h3, h4⟩
      · refine .inl ⟨?_, by rw [List.filter_cons, hp]; simp only [Bool.not_false, if_true, h2], by simp [hp, h3]⟩
        rw [ixF, hp, if_neg Bool.false_ne_true]
        exact_mod_cast h1
      · refine .inr ⟨q + 1, by simpa using hq, ?_, by simpa using h2, by rw [List.take_succ_cons, List.filter_cons, hp]; simp only [Bool.not_false, if_true, h3], by simp [h4]⟩
        rw [ixF, hp, if_neg Bool.false_ne_true]
        rw [show ((i : Int) + 1) = ((i + 1 : Nat) : Int) by omega, h1]
        congr 1; omega
end Go.Proofs.YtaffbklkjjmmdaaDoor
