/-
  The walks and the laws that the statement leans on, part 25.
-/
import Derived.Test.YteoajodoejoccaaR9
import Derived.Test.YteoajodoejoccaaR11
import Derived.Test.YteoajodoejoccaaR24
namespace Go.Proofs.Yteoajodoejoccaa.Wi
open Go
set_option linter.unusedVariables false
set_option linter.unusedSimpArgs false
set_option linter.defProp false
def TFWiX :=
  And.intro (And.intro (And.intro (And.intro (And.intro tyc0 (And.intro tyc2 zmb2)) (And.intro tyc3 (And.intro zmb3 tyc4))) (And.intro (And.intro zmb4 (And.intro tyc5 zmb5)) (And.intro tyc9 (And.intro zmb9 tyc35)))) (And.intro (And.intro (And.intro zmb35 (And.intro tyc36 elt36)) (And.intro mkz36 (And.intro apT36 elk36))) (And.intro (And.intro zmb36 (And.intro tyc82 foff82_0)) (And.intro fpart82_0 (And.intro foff82_1 fpart82_1))))) (And.intro (And.intro (And.intro (And.intro foff82_2 (And.intro fpart82_2 foff82_3)) (And.intro fpart82_3 (And.intro fe82 zmb82))) (And.intro (And.intro bldT82 (And.intro tyc86 foff86_0)) (And.intro fpart86_0 (And.intro foff86_1 fpart86_1)))) (And.intro (And.intro (And.intro fe86 (And.intro zmb86 bldT86)) (And.intro Try.underlying0 (And.intro Try.underlying2 Try.underlying3))) (And.intro (And.intro Try.underlying4 (And.intro Try.underlying5 Try.underlying9)) (And.intro (And.intro Try.underlying35 Try.underlying36) (And.intro Try.underlying82 Try.underlying86)))))
theorem Y1WiX {G R : Prop} (r : R) (h : R → G := by intro r; first | (apply WP.region; exact rvc_sound _ _ (Sm.out r)) | exact WP.drawS (is := 13) (k := 16) mixed (by decide +kernel) (by decide +kernel) (Sm.out r) | exact WP.drawK rfl mixed (by decide +kernel) (Sm.out r) | (apply WP.block; exact r) | (apply WP.skip; exact Yq r) | (apply WP.exit; exact Yq r) | (apply WP.ret; exact Sm.out r) | exact WP.cond rfl (fun _ => r) (fun hg => absurd hg (by decide)) | exact WP.cond rfl (fun hg => absurd hg (by decide)) (fun _ => r) | exact Rt.mk (And.intro (fun _ => Sm.out r) fun hg => absurd hg (by decide)) | exact Rt.mk (And.intro (fun hg => absurd hg (by decide)) fun _ => Sm.out r)) : G := h r
theorem YzWiX {G R : Prop} (r : R) (h : R → G := by intro r; first | (apply ExG.no; exact Sm.out r) | (apply Or.inl; apply ExG.no; exact Sm.out r) | exact Or.inl (And.intro (fun hg => absurd hg (by decide)) (ExG.no (Sm.out r)))) : G := h r
abbrev gt3 (g : Int × Int × ByteArray × Bool × Int) : AV := .tup [.agg [iv .u64 g.1, iv .i64 g.2.1, .lit (.string g.2.2.1), bv g.2.2.2.1], iv .i64 g.2.2.2.2, bv false]
def Bad3 (r : AV) (F' : Hp) : Prop := ∃ g, r = gt3 g ∧ F' = []
theorem bad3_of {f : FuncId} {args : List AV} {n i y : Int} {st : ByteArray} {fl : Bool} (h : ACt Try.prog f args [] (Fn (.tup [.agg [iv .u64 n, iv .i64 i, .lit (.string st), bv fl], iv .i64 y, bv false]))) : ACt Try.prog f args [] Bad3 :=
  h.mono fun r F' ⟨e1, e2⟩ => ⟨(n, i, st, fl, y), e1, e2⟩
set_option maxRecDepth 8000 in
theorem refG_end (Z : List Int) (kind most : Int) : ACt Try.prog 47 [.slz .u8 Z, iv .i64 (Z.length : Int), .agg [iv .i64 kind, iv .i64 most]] [] Bad3 := by
  refine bad3_of (n := 0) (i := 0) (st := ⟨#[]⟩) (fl := false) (y := 0) ?_
  refine ACt.intro Try.func47 rfl (by kernel_rfl) (by simp [Try.ntmps47]) (fun cx => ?_)
  simp only [argE, Try.ntmps47, Try.results47]
  have d : decide ((Z.length : Int) ≥ (Z.length : Int)) = true := by simp
  first | (have FRx := FR; clear FRx) | have FR := fr0
  have FA := Sm.mk (And.intro TFWiX d)
  repeat' first | (apply Sm.mk; refine Ysn ?_) | refine WP.seq fun K hK => ?_ | (apply Ob.mk; exact Yo) | refine And.intro (Ob.out ?_) ?_ | refine Y1WiX ?_ | refine YzWiX ?_ | (refine WP.cond rfl (fun hc => ?_) (fun hc => ?_) <;> (try simp only [ZC, reduceCtorEq, ZD] at hc) <;> (try exact absurd hc (by decide)) <;> (try (exfalso; omega))) | refine Rt.mk (And.intro (fun hg => Sm.out ?_) fun hg => Sm.out ?_) | (refine Nu.mk ?_; first | (fail_if_success have := nb1); intro nb1 | (fail_if_success have := nb2); intro nb2 | (fail_if_success have := nb3); intro nb3 | intro nbz) | (refine Fr.mk ?_; intro hfr; replace FR := And.intro hfr FR; clear hfr; refine Sm.out ?_) | refine Two.mk ?_ ?_ | (apply Yxc; exact Yx) | refine Cs.mk fun hcs => Sm.out ?_ | (apply Yog; refine Ygn ?_; exact trivial) | go_step | omega | (simp only [maxLen_eq]; omega) | exact trivial
theorem drop_facts {Z t : List Int} {at_ m : Nat} (h : Z.drop at_ = (m : Int) :: t) : at_ < Z.length ∧ t = Z.drop (at_ + 1) ∧ t.length = Z.length - at_ - 1 ∧ Z.getD at_ 0 = (m : Int) ∧ ∀ i, Z.getD (at_ + 1 + i) 0 = t.getD i 0 := by
  have hl : (Z.drop at_).length = t.length + 1 := by rw [h]; rfl
  simp only [List.length_drop] at hl
  have ht : t = Z.drop (at_ + 1) := by
    rw [← List.drop_drop, h]; rfl
  refine ⟨by omega, ht, by omega, ?_, fun i => ?_⟩
  · have : (Z.drop at_).getD 0 0 = (m : Int) := by rw [h]; rfl
    simpa [List.getD] using this
  · rw [ht]; simp [List.getD]
def HeadK (kind : Int) (m K : Nat) (ng : Bool) : Prop := (kind ≠ 1 ∧ K = m ∧ ng = false) ∨ (kind = 1 ∧ m / 16 % 2 ≠ 1 ∧ K = m ∧ ng = false) ∨ (kind = 1 ∧ m / 16 % 2 = 1 ∧ K = m - 16 ∧ ng = true)
set_option maxRecDepth 8000 in
set_option maxHeartbeats 2000000 in
theorem refG_bad (Z t : List Int) (at_ m K : Nat) (ng : Bool) (kind most : Int) (h : Z.drop at_ = (m : Int) :: t) (hz : Z.length ≤ 6000) (h3 : kind ≠ 3) (hm : m < 256) (hH : HeadK kind m K ng)
    (hk : 8 < K ∨ t.length < K ∨ 0 < K ∧ t.getD 0 0 = 0) :
    ACt Try.prog 47 [.slz .u8 Z, iv .i64 (at_ : Int), .agg [iv .i64 kind, iv .i64 most]] [] Bad3 := by
  obtain ⟨h1, h2, h3', h4, h5⟩ := drop_facts h
  have h50 := h5 0
  rw [Nat.add_zero] at h50
  refine bad3_of (n := 0) (i := 0) (st := ⟨#[]⟩) (fl := false) (y := 0) ?_
  refine ACt.intro Try.func47 rfl (by kernel_rfl) (by simp [Try.ntmps47]) (fun cx => ?_)
  simp only [argE, Try.ntmps47, Try.results47]
  have d : decide ((at_ : Int) ≥ (Z.length : Int)) = false := by simp; omega
  have z : (kind == 3) = false := beq_eq_false_iff_ne.2 h3
  have w : IntKind.i64.wrap ((at_ : Int) + 1) = ((at_ + 1 : Nat) : Int) := by rw [wrap_i64 (by omega) (by omega)]; omega
  have w1 : IntKind.i64.wrap (m : Int) = (m : Int) := wrap_i64_nat (by omega)
  have w2 : IntKind.i64.wrap ((Z.length : Int) - at_) = ((t.length + 1 : Nat) : Int) := by rw [wrap_i64 (by omega) (by omega)]; omega
  have w3 : IntKind.i64.wrap (((t.length + 1 : Nat) : Int) - 1) = (t.length : Int) := by rw [wrap_i64 (by omega) (by omega)]; omega
  have e1 : (m : Int).tdiv 16 = ((m / 16 : Nat) : Int) := by rw [Int.tdiv_eq_ediv_of_nonneg (by omega)]; simp
  have e2 : IntKind.i64.wrap ((m / 16 : Nat) : Int) = ((m / 16 : Nat) : Int) := wrap_i64_nat (by omega)
  have e3 : ((m / 16 : Nat) : Int).tmod 2 = ((m / 16 % 2 : Nat) : Int) := by rw [Int.tmod_eq_emod_of_nonneg (by omega)]; simp
  have e4 : IntKind.i64.wrap ((m / 16 % 2 : Nat) : Int) = ((m / 16 % 2 : Nat) : Int) := wrap_i64_nat (by omega)
  obtain ⟨wk, wK⟩ : ∃ x, IntKind.i64.wrap ((m : Int) - 16) = x := ⟨_, rfl⟩
  obtain ⟨f, f2⟩ : ∃ x, (((m / 16 % 2 : Nat) : Int) == 1) = x := ⟨_, rfl⟩
  obtain ⟨q, f1⟩ : ∃ x, (kind == 1) = x := ⟨_, rfl⟩
  rcases hH with ⟨p1, p2, p3⟩ | ⟨p1, p0, p2, p3⟩ | ⟨p1, p0, p2, p3⟩
  · have f1 : (kind == 1) = false := beq_eq_false_iff_ne.2 p1
    subst p2
    first | (have FRx := FR; clear FRx) | have FR := fr0
    have FA := Sm.mk (And.intro TFWiX (And.intro d (And.intro z (And.intro w (And.intro w1 (And.intro w2 (And.intro w3 (And.intro h4 (And.intro h50 f1)))))))))
    repeat' first | (apply Sm.mk; refine Ysn ?_) | refine WP.seq fun K hK => ?_ | (apply Ob.mk; exact Yo) | refine And.intro (Ob.out ?_) ?_ | refine Y1WiX ?_ | refine YzWiX ?_ | (refine WP.cond rfl (fun hc => ?_) (fun hc => ?_) <;> (try simp only [ZC, reduceCtorEq, ZD] at hc) <;> (try exact absurd hc (by decide)) <;> (try (exfalso; omega))) | refine Rt.mk (And.intro (fun hg => Sm.out ?_) fun hg => Sm.out ?_) | (refine Nu.mk ?_; first | (fail_if_success have := nb1); intro nb1 | (fail_if_success have := nb2); intro nb2 | (fail_if_success have := nb3); intro nb3 | intro nbz) | (refine Fr.mk ?_; intro hfr; replace FR := And.intro hfr FR; clear hfr; refine Sm.out ?_) | refine Two.mk ?_ ?_ | (apply Yxc; exact Yx) | refine Cs.mk fun hcs => Sm.out ?_ | (apply Yog; refine Ygn ?_; exact trivial) | go_step | omega | (simp only [maxLen_eq]; omega) | exact trivial
  · subst p1; subst p2
    have f2 : (((K / 16 % 2 : Nat) : Int) == 1) = false := beq_eq_false_iff_ne.2 (by omega)
    first | (have FRx := FR; clear FRx) | have FR := fr0
    have FA := Sm.mk (And.intro TFWiX (And.intro d (And.intro z (And.intro w (And.intro w1 (And.intro w2 (And.intro w3 (And.intro e1 (And.intro e2 (And.intro e3 (And.intro e4 (And.intro h4 (And.intro h50 f2)))))))))))))
    repeat' first | (apply Sm.mk; refine Ysn ?_) | refine WP.seq fun K hK => ?_ | (apply Ob.mk; exact Yo) | refine And.intro (Ob.out ?_) ?_ | refine Y1WiX ?_ | refine YzWiX ?_ | (refine WP.cond rfl (fun hc => ?_) (fun hc => ?_) <;> (try simp only [ZC, reduceCtorEq, ZD] at hc) <;> (try exact absurd hc (by decide)) <;> (try (exfalso; omega))) | refine Rt.mk (And.intro (fun hg => Sm.out ?_) fun hg => Sm.out ?_) | (refine Nu.mk ?_; first | (fail_if_success have := nb1); intro nb1 | (fail_if_success have := nb2); intro nb2 | (fail_if_success have := nb3); intro nb3 | intro nbz) | (refine Fr.mk ?_; intro hfr; replace FR := And.intro hfr FR; clear hfr; refine Sm.out ?_) | refine Two.mk ?_ ?_ | (apply Yxc; exact Yx) | refine Cs.mk fun hcs => Sm.out ?_ | (apply Yog; refine Ygn ?_; exact trivial) | go_step | omega | (simp only [maxLen_eq]; omega) | exact trivial
  · subst p1
    rw [show (m / 16 % 2 : Nat) = 1 from p0] at e3 e4
    have e5 : (((1 : Nat) : Int) == 1) = true := rfl
    skip
    have wK : IntKind.i64.wrap ((m : Int) - 16) = (K : Int) := by rw [wrap_i64 (by omega) (by omega)]; omega
    first | (have FRx := FR; clear FRx) | have FR := fr0
    have FA := Sm.mk (And.intro TFWiX (And.intro d (And.intro z (And.intro w (And.intro w1 (And.intro w2 (And.intro w3 (And.intro e1 (And.intro e2 (And.intro e3 (And.intro e4 (And.intro e5 (And.intro wK (And.intro h4 h50))))))))))))))
    repeat' first | (apply Sm.mk; refine Ysn ?_) | refine WP.seq fun K hK => ?_ | (apply Ob.mk; exact Yo) | refine And.intro (Ob.out ?_) ?_ | refine Y1WiX ?_ | refine YzWiX ?_ | (refine WP.cond rfl (fun hc => ?_) (fun hc => ?_) <;> (try simp only [ZC, reduceCtorEq, ZD] at hc) <;> (try exact absurd hc (by decide)) <;> (try (exfalso; omega))) | refine Rt.mk (And.intro (fun hg => Sm.out ?_) fun hg => Sm.out ?_) | (refine Nu.mk ?_; first | (fail_if_success have := nb1); intro nb1 | (fail_if_success have := nb2); intro nb2 | (fail_if_success have := nb3); intro nb3 | intro nbz) | (refine Fr.mk ?_; intro hfr; replace FR := And.intro hfr FR; clear hfr; refine Sm.out ?_) | refine Two.mk ?_ ?_ | (apply Yxc; exact Yx) | refine Cs.mk fun hcs => Sm.out ?_ | (apply Yog; refine Ygn ?_; exact trivial) | go_step | omega | (simp only [maxLen_eq]; omega) | exact trivial
def Post3 (zl : Nat) (o : Option (AV × List Int)) (r : AV) (F' : Hp) : Prop :=
  match o with
  | none => Bad3 r F'
  | some (g, rest) => r = .tup [g, iv .i64 ((zl - rest.length : Nat) : Int), bv true] ∧ F' = []
theorem good3_mk {zl : Nat} {g g' : AV} {nx : Int} {f : Bool} {rest : List Int} (hg : g' = g) (h1 : nx = ((zl - rest.length : Nat) : Int)) (h2 : f = true) : Post3 zl (some (g, rest)) (.tup [g', iv .i64 nx, bv f]) [] := by
  subst hg h1 h2; exact ⟨rfl, rfl⟩
def tailF (kind most : Int) (ng : Bool) (N : Nat) (r : List Int) : Option (AV × List Int) :=
  if kind = 1 then (if ng then (if N = 0 ∨ 9223372036854775808 < N then none else some (.agg [nu 0, iv .i64 (-(N : Int)), eS, bv false], r)) else if 9223372036854775807 < N then none else some (.agg [nu 0, iv .i64 (N : Int), eS, bv false], r))
  else if kind = 0 then some (.agg [nu N, iv .i64 0, eS, bv false], r)
  else if most < 0 ∨ most < (N : Int) then none
  else if kind = 4 then some (.agg [nu N, iv .i64 0, eS, bv false], r)
  else if r.length < N then none else some (.agg [nu 0, iv .i64 0, .lit (.string (bstr (r.take N))), bv false], r.drop N)
end Go.Proofs.Yteoajodoejoccaa.Wi
