/-
  The walks and the laws that the statement leans on, part 16.
-/
import Derived.Test.YtaffbklkjjmmdaaDoorB9
import Derived.Test.YtaffbklkjjmmdaaDoorB10
import Derived.Test.YtaffbklkjjmmdaaDoorB15
namespace Go.Proofs.YtaffbklkjjmmdaaDoor.Wi
open Go
set_option linter.unusedVariables false
set_option linter.unusedSimpArgs false
set_option linter.defProp false
def TFWiX :=
  And.intro (And.intro (And.intro (And.intro (And.intro tyc0 (And.intro tyc2 zmb2)) (And.intro tyc3 (And.intro zmb3 tyc4))) (And.intro (And.intro zmb4 (And.intro tyc5 zmb5)) (And.intro tyc9 (And.intro zmb9 tyc23)))) (And.intro (And.intro (And.intro zmb23 (And.intro tyc47 elt47)) (And.intro mkz47 (And.intro apT47 elk47))) (And.intro (And.intro zmb47 (And.intro tyc78 foff78_0)) (And.intro fpart78_0 (And.intro foff78_1 fpart78_1))))) (And.intro (And.intro (And.intro (And.intro fe78 (And.intro zmb78 bldT78)) (And.intro tyc82 (And.intro foff82_0 fpart82_0))) (And.intro (And.intro foff82_1 (And.intro fpart82_1 foff82_2)) (And.intro fpart82_2 (And.intro foff82_3 fpart82_3)))) (And.intro (And.intro (And.intro fe82 (And.intro zmb82 bldT82)) (And.intro Tryd.underlying0 (And.intro Tryd.underlying2 Tryd.underlying3))) (And.intro (And.intro Tryd.underlying4 (And.intro Tryd.underlying5 Tryd.underlying9)) (And.intro (And.intro Tryd.underlying23 Tryd.underlying47) (And.intro Tryd.underlying78 Tryd.underlying82)))))
theorem Y1WiX {G R : Prop} (r : R) (h : R → G := by intro r; first | (apply WP.region; exact rvc_sound _ _ (Sm.out r)) | exact WP.drawS (is := 13) (k := 16) mixed (by decide +kernel) (by decide +kernel) (Sm.out r) | exact WP.drawK rfl mixed (by decide +kernel) (Sm.out r) | (apply WP.block; exact r) | (apply WP.skip; exact Yq r) | (apply WP.exit; exact Yq r) | (apply WP.ret; exact Sm.out r) | exact WP.cond rfl (fun _ => r) (fun hg => absurd hg (by decide)) | exact WP.cond rfl (fun hg => absurd hg (by decide)) (fun _ => r) | exact Rt.mk (And.intro (fun _ => Sm.out r) fun hg => absurd hg (by decide)) | exact Rt.mk (And.intro (fun hg => absurd hg (by decide)) fun _ => Sm.out r)) : G := h r
theorem YzWiX {G R : Prop} (r : R) (h : R → G := by intro r; first | (apply ExG.no; exact Sm.out r) | (apply Or.inl; apply ExG.no; exact Sm.out r) | exact Or.inl (And.intro (fun hg => absurd hg (by decide)) (ExG.no (Sm.out r)))) : G := h r
abbrev gt3 (g : Int × Int × ByteArray × Bool × Int) : AV := .tup [.agg [iv .u64 g.1, iv .i64 g.2.1, .lit (.string g.2.2.1), bv g.2.2.2.1], iv .i64 g.2.2.2.2, bv false]
def Bad3 (r : AV) (F' : Hp) : Prop := ∃ g, r = gt3 g ∧ F' = []
theorem bad3_of {f : FuncId} {args : List AV} {n i y : Int} {st : ByteArray} {fl : Bool} (h : ACt Tryd.prog f args [] (Fn (.tup [.agg [iv .u64 n, iv .i64 i, .lit (.string st), bv fl], iv .i64 y, bv false]))) : ACt Tryd.prog f args [] Bad3 :=
  h.mono fun r F' ⟨e1, e2⟩ => ⟨(n, i, st, fl, y), e1, e2⟩
def rdF (kind most : Int) (zs : List Int) : Option (AV × List Int) :=
  if kind = 3 then (fF zs).map fun p => (.agg [nu 0, iv .i64 0, eS, bv p.1], p.2)
  else if kind = 1 then (iF zs).map fun p => (.agg [nu 0, iv .i64 p.1, eS, bv false], p.2)
  else if kind = 0 then (nF zs).map fun p => (.agg [nu p.1, iv .i64 0, eS, bv false], p.2)
  else if kind = 4 then (cF most zs).map fun p => (.agg [nu p.1, iv .i64 0, eS, bv false], p.2)
  else (tF most zs).map fun p => (.agg [nu 0, iv .i64 0, .lit (.string (bstr p.1)), bv false], p.2)
set_option maxRecDepth 8000 in
theorem refG_end (Z : List Int) (kind most : Int) : ACt Tryd.prog 55 [.slz .u8 Z, iv .i64 (Z.length : Int), .agg [iv .i64 kind, iv .i64 most]] [] Bad3 := by
  refine bad3_of (n := 0) (i := 0) (st := ⟨#[]⟩) (fl := false) (y := 0) ?_
  refine ACt.intro Tryd.func55 rfl (by kernel_rfl) (by simp [Tryd.ntmps55]) (fun cx => ?_)
  simp only [argE, Tryd.ntmps55, Tryd.results55]
  have d : decide ((Z.length : Int) ≥ (Z.length : Int)) = true := by simp
  first | (have FRx := FR; clear FRx) | have FR := fr0
  have FA := Sm.mk (And.intro TFWiX d)
  repeat' first | (apply Sm.mk; refine Ysn ?_) | refine WP.seq fun K hK => ?_ | (apply Ob.mk; exact Yo) | refine And.intro (Ob.out ?_) ?_ | refine Y1WiX ?_ | refine YzWiX ?_ | (refine WP.cond rfl (fun hc => ?_) (fun hc => ?_) <;> (try simp only [ZC, reduceCtorEq, ZD] at hc) <;> (try exact absurd hc (by decide)) <;> (try (exfalso; omega))) | refine Rt.mk (And.intro (fun hg => Sm.out ?_) fun hg => Sm.out ?_) | (refine Nu.mk ?_; first | (fail_if_success have := nb1); intro nb1 | (fail_if_success have := nb2); intro nb2 | (fail_if_success have := nb3); intro nb3 | intro nbz) | (refine Fr.mk ?_; intro hfr; replace FR := And.intro hfr FR; clear hfr; refine Sm.out ?_) | refine Two.mk ?_ ?_ | (apply Yxc; exact Yx) | refine Cs.mk fun hcs => Sm.out ?_ | (apply Yog; refine Ygn ?_; exact trivial) | go_step | omega | (simp only [maxLen_eq]; omega) | exact trivial
theorem drop_facts {Z t : List Int} {at_ m : Nat} (h : Z.drop at_ = (m : Int) :: t) : at_ < Z.length ∧ t = Z.drop (at_ + 1) ∧ t.length = Z.length - at_ - 1 ∧ Z.getD at_ 0 = (m : Int) ∧ ∀ i, Z.getD (at_ + 1 + i) 0 = t.getD i 0 := by
  have hl : (Z.drop at_).length = t.length + 1 := by rw [h]; rfl
  simp only [List.length_drop] at hl
  have ht : t = Z.drop (at_ + 1) := by
    rw [← List.drop_drop, h]; rfl
  refine ⟨by omega, ht, by omega, ?_, fun i => ?_⟩
  · have : (Z.drop at_).getD 0 0 = (m : Int) := by rw [h]; rfl
    simpa [List.getD] using this
  · rw [ht]; simp [List.getD]
set_option maxRecDepth 8000 in
theorem refG_flag (Z t : List Int) (at_ m : Nat) (most : Int) (h : Z.drop at_ = (m : Int) :: t) (hz : Z.length ≤ 6000) (hm : m < 2) :
    ACt Tryd.prog 55 [.slz .u8 Z, iv .i64 (at_ : Int), .agg [iv .i64 3, iv .i64 most]] [] (Fn (.tup [.agg [nu 0, iv .i64 0, eS, bv ((m : Int) == 1)], iv .i64 ((at_ + 1 : Nat) : Int), bv true])) := by
  obtain ⟨h1, h2, h3, h4, h5⟩ := drop_facts h
  refine ACt.intro Tryd.func55 rfl (by kernel_rfl) (by simp [Tryd.ntmps55]) (fun cx => ?_)
  simp only [argE, Tryd.ntmps55, Tryd.results55]
  have d : decide ((at_ : Int) ≥ (Z.length : Int)) = false := by simp; omega
  have z : ((3 : Int) == 3) = true := rfl
  have w : IntKind.i64.wrap ((at_ : Int) + 1) = ((at_ + 1 : Nat) : Int) := by rw [wrap_i64 (by omega) (by omega)]; omega
  have d2 : decide ((m : Int) < 2) = true := by simp; omega
  obtain ⟨e, he⟩ : ∃ e, e = ((m : Int) == 1) := ⟨_, rfl⟩
  have he' : ((m : Int) == 1) = e := he.symm
  rw [he']
  first | (have FRx := FR; clear FRx) | have FR := fr0
  have FA := Sm.mk (And.intro TFWiX (And.intro d (And.intro z (And.intro w (And.intro d2 (And.intro h4 he'))))))
  repeat' first | (apply Sm.mk; refine Ysn ?_) | refine WP.seq fun K hK => ?_ | (apply Ob.mk; exact Yo) | refine And.intro (Ob.out ?_) ?_ | refine Y1WiX ?_ | refine YzWiX ?_ | (refine WP.cond rfl (fun hc => ?_) (fun hc => ?_) <;> (try simp only [ZC, reduceCtorEq, ZD] at hc) <;> (try exact absurd hc (by decide)) <;> (try (exfalso; omega))) | refine Rt.mk (And.intro (fun hg => Sm.out ?_) fun hg => Sm.out ?_) | (refine Nu.mk ?_; first | (fail_if_success have := nb1); intro nb1 | (fail_if_success have := nb2); intro nb2 | (fail_if_success have := nb3); intro nb3 | intro nbz) | (refine Fr.mk ?_; intro hfr; replace FR := And.intro hfr FR; clear hfr; refine Sm.out ?_) | refine Two.mk ?_ ?_ | (apply Yxc; exact Yx) | refine Cs.mk fun hcs => Sm.out ?_ | (apply Yog; refine Ygn ?_; exact trivial) | go_step | omega | (simp only [maxLen_eq]; omega) | exact trivial
set_option maxRecDepth 8000 in
theorem refG_flagB (Z t : List Int) (at_ m : Nat) (most : Int) (h : Z.drop at_ = (m : Int) :: t) (hz : Z.length ≤ 6000) (hm : 2 ≤ m) :
    ACt Tryd.prog 55 [.slz .u8 Z, iv .i64 (at_ : Int), .agg [iv .i64 3, iv .i64 most]] [] Bad3 := by
  obtain ⟨h1, h2, h3, h4, h5⟩ := drop_facts h
  refine bad3_of (n := 0) (i := 0) (st := ⟨#[]⟩) (fl := ((m : Int) == 1)) (y := ((at_ + 1 : Nat) : Int)) ?_
  refine ACt.intro Tryd.func55 rfl (by kernel_rfl) (by simp [Tryd.ntmps55]) (fun cx => ?_)
  simp only [argE, Tryd.ntmps55, Tryd.results55]
  have d : decide ((at_ : Int) ≥ (Z.length : Int)) = false := by simp; omega
  have z : ((3 : Int) == 3) = true := rfl
  have w : IntKind.i64.wrap ((at_ : Int) + 1) = ((at_ + 1 : Nat) : Int) := by rw [wrap_i64 (by omega) (by omega)]; omega
  have d2 : decide ((m : Int) < 2) = false := by simp; omega
  obtain ⟨e, he⟩ : ∃ e, e = ((m : Int) == 1) := ⟨_, rfl⟩
  have he' : ((m : Int) == 1) = e := he.symm
  rw [he']
  first | (have FRx := FR; clear FRx) | have FR := fr0
  have FA := Sm.mk (And.intro TFWiX (And.intro d (And.intro z (And.intro w (And.intro d2 (And.intro h4 he'))))))
  repeat' first | (apply Sm.mk; refine Ysn ?_) | refine WP.seq fun K hK => ?_ | (apply Ob.mk; exact Yo) | refine And.intro (Ob.out ?_) ?_ | refine Y1WiX ?_ | refine YzWiX ?_ | (refine WP.cond rfl (fun hc => ?_) (fun hc => ?_) <;> (try simp only [ZC, reduceCtorEq, ZD] at hc) <;> (try exact absurd hc (by decide)) <;> (try (exfalso; omega))) | refine Rt.mk (And.intro (fun hg => Sm.out ?_) fun hg => Sm.out ?_) | (refine Nu.mk ?_; first | (fail_if_success have := nb1); intro nb1 | (fail_if_success have := nb2); intro nb2 | (fail_if_success have := nb3); intro nb3 | intro nbz) | (refine Fr.mk ?_; intro hfr; replace FR := And.intro hfr FR; clear hfr; refine Sm.out ?_) | refine Two.mk ?_ ?_ | (apply Yxc; exact Yx) | refine Cs.mk fun hcs => Sm.out ?_ | (apply Yog; refine Ygn ?_; exact trivial) | go_step | omega | (simp only [maxLen_eq]; omega) | exact trivial
def HeadK (kind : Int) (m K : Nat) (ng : Bool) : Prop := (kind ≠ 1 ∧ K = m ∧ ng = false) ∨ (kind = 1 ∧ m / 16 % 2 ≠ 1 ∧ K = m ∧ ng = false) ∨ (kind = 1 ∧ m / 16 % 2 = 1 ∧ K = m - 16 ∧ ng = true)
set_option maxRecDepth 8000 in
set_option maxHeartbeats 2000000 in
theorem refG_bad (Z t : List Int) (at_ m K : Nat) (ng : Bool) (kind most : Int) (h : Z.drop at_ = (m : Int) :: t) (hz : Z.length ≤ 6000) (h3 : kind ≠ 3) (hm : m < 256) (hH : HeadK kind m K ng)
    (hk : 8 < K ∨ t.length < K ∨ 0 < K ∧ t.getD 0 0 = 0) :
    ACt Tryd.prog 55 [.slz .u8 Z, iv .i64 (at_ : Int), .agg [iv .i64 kind, iv .i64 most]] [] Bad3 := by
  obtain ⟨h1, h2, h3', h4, h5⟩ := drop_facts h
  have h50 := h5 0
  rw [Nat.add_zero] at h50
  refine bad3_of (n := 0) (i := 0) (st := ⟨#[]⟩) (fl := false) (y := 0) ?_
  refine ACt.intro Tryd.func55 rfl (by kernel_rfl) (by simp [Tryd.ntmps55]) (fun cx => ?_)
  simp only [argE, Tryd.ntmps55, Tryd.results55]
  have d : decide ((at_ : Int) ≥ (Z.length : Int)) = false := by simp; omega
  have z : (kind == 3) = false := beq_eq_false_iff_ne.2 h3
  have w : IntKind.i64.wrap ((at_ : Int) + 1) = ((at_ + 1 : Nat) : Int) := by rw [wrap_i64 (by omega) (by omega)]; omega
  have w1 : IntKind.i64.wrap (m : Int) = (m : Int) := wrap_i64_nat (by omega)
  have w2 : IntKind.i64.wrap ((Z.length : Int) - at_) = ((t.length + 1 : Nat) : Int) := by rw [wrap_i64 (by omega) (by omega)]; omega
  have w3 : IntKind.i64.wrap (((t.length + 1 : Nat) : Int) - 1) = (t.length : Int) := by rw [wrap_i64 (by omega) (by omega)]; omega
  have e1 : (m : Int).tdiv 16 = ((m / 16 : Nat) : Int) := by rw [Int.tdiv_eq_ediv_of_nonneg (by omega)]; simp
  have e2 : IntKind.i64.wrap ((m / 16 : Nat) : Int) = ((m / 16 : Nat) : Int) := wrap_i64_nat (by omega)
  have e3 : ((m / 16 : Nat) : Int).tmod 2 = ((m / 16 % 2 : Nat) : Int) := by rw [Int.tmod_eq_emod_of_nonneg (by omega)]; simp
  have e4 : IntKind.i64.wrap ((m / 16 % 2 : Nat) : Int) = ((m / 16 % 2 : Nat) : Int) := wrap_i64_nat (by omega)
  obtain ⟨wk, wK⟩ : ∃ x, IntKind.i64.wrap ((m : Int) - 16) = x := ⟨_, rfl⟩
  obtain ⟨f, f2⟩ : ∃ x, (((m / 16 % 2 : Nat) : Int) == 1) = x := ⟨_, rfl⟩
  obtain ⟨q, f1⟩ : ∃ x, (kind == 1) = x := ⟨_, rfl⟩
  rcases hH with ⟨p1, p2, p3⟩ | ⟨p1, p0, p2, p3⟩ | ⟨p1, p0, p2, p3⟩
  · have f1 : (kind == 1) = false := beq_eq_false_iff_ne.2 p1
    subst p2
    first | (have FRx := FR; clear FRx) | have FR := fr0
    have FA := Sm.mk (And.intro TFWiX (And.intro d (And.intro z (And.intro w (And.intro w1 (And.intro w2 (And.intro w3 (And.intro h4 (And.intro h50 f1)))))))))
    repeat' first | (apply Sm.mk; refine Ysn ?_) | refine WP.seq fun K hK => ?_ | (apply Ob.mk; exact Yo) | refine And.intro (Ob.out ?_) ?_ | refine Y1WiX ?_ | refine YzWiX ?_ | (refine WP.cond rfl (fun hc => ?_) (fun hc => ?_) <;> (try simp only [ZC, reduceCtorEq, ZD] at hc) <;> (try exact absurd hc (by decide)) <;> (try (exfalso; omega))) | refine Rt.mk (And.intro (fun hg => Sm.out ?_) fun hg => Sm.out ?_) | (refine Nu.mk ?_; first | (fail_if_success have := nb1); intro nb1 | (fail_if_success have := nb2); intro nb2 | (fail_if_success have := nb3); intro nb3 | intro nbz) | (refine Fr.mk ?_; intro hfr; replace FR := And.intro hfr FR; clear hfr; refine Sm.out ?_) | refine Two.mk ?_ ?_ | (apply Yxc; exact Yx) | refine Cs.mk fun hcs => Sm.out ?_ | (apply Yog; refine Ygn ?_; exact trivial) | go_step | omega | (simp only [maxLen_eq]; omega) | exact trivial
  · subst p1; subst p2
    have f2 : (((K / 16 % 2 : Nat) : Int) == 1) = false := beq_eq_false_iff_ne.2 (by omega)
    first | (have FRx := FR; clear FRx) | have FR := fr0
    have FA := Sm.mk (And.intro TFWiX (And.intro d (And.intro z (And.intro w (And.intro w1 (And.intro w2 (And.intro w3 (And.intro e1 (And.intro e2 (And.intro e3 (And.intro e4 (And.intro h4 (And.intro h50 f2)))))))))))))
    repeat' first | (apply Sm.mk; refine Ysn ?_) | refine WP.seq fun K hK => ?_ | (apply Ob.mk; exact Yo) | refine And.intro (Ob.out ?_) ?_ | refine Y1WiX ?_ | refine YzWiX ?_ | (refine WP.cond rfl (fun hc => ?_) (fun hc => ?_) <;> (try simp only [ZC, reduceCtorEq, ZD] at hc) <;> (try exact absurd hc (by decide)) <;> (try (exfalso; omega))) | refine Rt.mk (And.intro (fun hg => Sm.out ?_) fun hg => Sm.out ?_) | (refine Nu.mk ?_; first | (fail_if_success have := nb1); intro nb1 | (fail_if_success have := nb2); intro nb2 | (fail_if_success have := nb3); intro nb3 | intro nbz) | (refine Fr.mk ?_; intro hfr; replace FR := And.intro hfr FR; clear hfr; refine Sm.out ?_) | refine Two.mk ?_ ?_ | (apply Yxc; exact Yx) | refine Cs.mk fun hcs => Sm.out ?_ | (apply Yog; refine Ygn ?_; exact trivial) | go_step | omega | (simp only [maxLen_eq]; omega) | exact trivial
  · subst p1
    rw [show (m / 16 % 2 : Nat) = 1 from p0] at e3 e4
    have e5 : (((1 : Nat) : Int) == 1) = true := rfl
    skip
    have wK : IntKind.i64.wrap ((m : Int) - 16) = (K : Int) := by rw [wrap_i64 (by omega) (by omega)]; omega
    first | (have FRx := FR; clear FRx) | have FR := fr0
    have FA := Sm.mk (And.intro TFWiX (And.intro d (And.intro z (And.intro w (And.intro w1 (And.intro w2 (And.intro w3 (And.intro e1 (And.intro e2 (And.intro e3 (And.intro e4 (And.intro e5 (And.intro wK (And.intro h4 h50))))))))))))))
    repeat' first | (apply Sm.mk; refine Ysn ?_) | refine WP.seq fun K hK => ?_ | (apply Ob.mk; exact Yo) | refine And.intro (Ob.out ?_) ?_ | refine Y1WiX ?_ | refine YzWiX ?_ | (refine WP.cond rfl (fun hc => ?_) (fun hc => ?_) <;> (try simp only [ZC, reduceCtorEq, ZD] at hc) <;> (try exact absurd hc (by decide)) <;> (try (exfalso; omega))) | refine Rt.mk (And.intro (fun hg => Sm.out ?_) fun hg => Sm.out ?_) | (refine Nu.mk ?_; first | (fail_if_success have := nb1); intro nb1 | (fail_if_success have := nb2); intro nb2 | (fail_if_success have := nb3); intro nb3 | intro nbz) | (refine Fr.mk ?_; intro hfr; replace FR := And.intro hfr FR; clear hfr; refine Sm.out ?_) | refine Two.mk ?_ ?_ | (apply Yxc; exact Yx) | refine Cs.mk fun hcs => Sm.out ?_ | (apply Yog; refine Ygn ?_; exact trivial) | go_step | omega | (simp only [maxLen_eq]; omega) | exact trivial
def TFWiY :=
  And.intro (And.intro (And.intro (And.intro (And.intro tyc0 (And.intro tyc2 zmb2)) (And.intro tyc3 (And.intro zmb3 tyc4))) (And.intro (And.intro zmb4 (And.intro tyc5 zmb5)) (And.intro tyc9 (And.intro zmb9 tyc23)))) (And.intro (And.intro (And.intro zmb23 (And.intro tyc47 elt47)) (And.intro mkz47 (And.intro apT47 elk47))) (And.intro (And.intro zmb47 (And.intro tyc78 foff78_0)) (And.intro fpart78_0 (And.intro foff78_1 fpart78_1))))) (And.intro (And.intro (And.intro (And.intro fe78 (And.intro zmb78 bldT78)) (And.intro tyc82 (And.intro foff82_0 fpart82_0))) (And.intro (And.intro foff82_1 (And.intro fpart82_1 foff82_2)) (And.intro fpart82_2 (And.intro foff82_3 fpart82_3)))) (And.intro (And.intro (And.intro fe82 (And.intro zmb82 bldT82)) (And.intro Tryd.underlying0 (And.intro Tryd.underlying2 Tryd.underlying3))) (And.intro (And.intro Tryd.underlying4 (And.intro Tryd.underlying5 Tryd.underlying9)) (And.intro (And.intro Tryd.underlying23 Tryd.underlying47) (And.intro Tryd.underlying78 Tryd.underlying82)))))
theorem Y1WiY {G R : Prop} (r : R) (h : R → G := by intro r; first | (apply WP.region; exact rvc_sound _ _ (Sm.out r)) | exact WP.drawS (is := 13) (k := 16) mixed (by decide +kernel) (by decide +kernel) (Sm.out r) | exact WP.drawK rfl mixed (by decide +kernel) (Sm.out r) | (apply WP.block; exact r) | (apply WP.skip; exact Yq r) | (apply WP.exit; exact Yq r) | (apply WP.ret; exact Sm.out r) | exact WP.cond rfl (fun _ => r) (fun hg => absurd hg (by decide)) | exact WP.cond rfl (fun hg => absurd hg (by decide)) (fun _ => r) | exact Rt.mk (And.intro (fun _ => Sm.out r) fun hg => absurd hg (by decide)) | exact Rt.mk (And.intro (fun hg => absurd hg (by decide)) fun _ => Sm.out r)) : G := h r
theorem YzWiY {G R : Prop} (r : R) (h : R → G := by intro r; first | (apply ExG.no; exact Sm.out r) | (apply Or.inl; apply ExG.no; exact Sm.out r) | exact Or.inl (And.intro (fun hg => absurd hg (by decide)) (ExG.no (Sm.out r)))) : G := h r
def Post3 (zl : Nat) (o : Option (AV × List Int)) (r : AV) (F' : Hp) : Prop :=
  match o with
  | none => Bad3 r F'
  | some (g, rest) => r = .tup [g, iv .i64 ((zl - rest.length : Nat) : Int), bv true] ∧ F' = []
theorem bad3_mk {zl : Nat} {n i y : Int} {st : ByteArray} {fl f : Bool} (h : f = false) : Post3 zl none (.tup [.agg [iv .u64 n, iv .i64 i, .lit (.string st), bv fl], iv .i64 y, bv f]) [] := ⟨(n, i, st, fl, y), by rw [h], rfl⟩
theorem good3_mk {zl : Nat} {g g' : AV} {nx : Int} {f : Bool} {rest : List Int} (hg : g' = g) (h1 : nx = ((zl - rest.length : Nat) : Int)) (h2 : f = true) : Post3 zl (some (g, rest)) (.tup [g', iv .i64 nx, bv f]) [] := by
  subst hg h1 h2; exact ⟨rfl, rfl⟩
def tailF (kind most : Int) (ng : Bool) (N : Nat) (r : List Int) : Option (AV × List Int) :=
  if kind = 1 then (if ng then (if N = 0 ∨ 9223372036854775808 < N then none else some (.agg [nu 0, iv .i64 (-(N : Int)), eS, bv false], r)) else if 9223372036854775807 < N then none else some (.agg [nu 0, iv .i64 (N : Int), eS, bv false], r))
  else if kind = 0 then some (.agg [nu N, iv .i64 0, eS, bv false], r)
  else if most < 0 ∨ most < (N : Int) then none
  else if kind = 4 then some (.agg [nu N, iv .i64 0, eS, bv false], r)
  else if r.length < N then none else some (.agg [nu 0, iv .i64 0, .lit (.string (bstr (r.take N))), bv false], r.drop N)
set_option maxRecDepth 8000 in
set_option maxHeartbeats 8000000 in
theorem refG_goodT (Z t : List Int) (at_ m KK : Nat) (kind most : Int) (h : Z.drop at_ = (m : Int) :: t) (hb : By t) (hz : Z.length ≤ 6000) (h3 : kind ≠ 3) (hm : m < 256) (hH : HeadK kind m KK true)
    (hk : KK ≤ 8 ∧ KK ≤ t.length ∧ (KK = 0 ∨ t.getD 0 0 ≠ 0)) (hm1 : -9223372036854775808 ≤ most) (hm2 : most ≤ 9223372036854775807) :
    ACt Tryd.prog 55 [.slz .u8 Z, iv .i64 (at_ : Int), .agg [iv .i64 kind, iv .i64 most]] [] (Post3 Z.length (tailF kind most true (valL (t.take KK)) (t.drop KK))) := by
  obtain ⟨h1, h2, h3', h4, h5⟩ := drop_facts h
  have h50 := h5 0
  rw [Nat.add_zero] at h50
  obtain ⟨N, hN⟩ : ∃ N, N = valL (t.take KK) := ⟨_, rfl⟩
  obtain ⟨r, hr⟩ : ∃ r, r = t.drop KK := ⟨_, rfl⟩
  have hrl : r.length = t.length - KK := by rw [hr]; simp
  have hlt : ∀ j, j ≤ KK → valL (t.take j) < 256 ^ j := fun j hj => by
    have := valL_lt (hb.take j)
    rwa [show (t.take j).length = j by simp; omega] at this
  have hNlt : N < 18446744073709551616 := by
    have := hlt KK (Nat.le_refl _)
    have h8 : (256 : Nat) ^ KK ≤ 256 ^ 8 := Nat.pow_le_pow_right (by omega) hk.1
    omega
  have hZr : Z.drop (at_ + 1 + KK) = r := by rw [hr, h2, List.drop_drop]
  rw [← hN, ← hr]
  have hT := tailF kind most true N r
  refine ACt.intro Tryd.func55 rfl (by kernel_rfl) (by simp [Tryd.ntmps55]) (fun cx => ?_)
  simp only [argE, Tryd.ntmps55, Tryd.results55]
  have d : decide ((at_ : Int) ≥ (Z.length : Int)) = false := by simp; omega
  have z : (kind == 3) = false := beq_eq_false_iff_ne.2 h3
  have w : IntKind.i64.wrap ((at_ : Int) + 1) = ((at_ + 1 : Nat) : Int) := by rw [wrap_i64 (by omega) (by omega)]; omega
  have w1 : IntKind.i64.wrap (m : Int) = (m : Int) := wrap_i64_nat (by omega)
  have w2 : IntKind.i64.wrap ((Z.length : Int) - at_) = ((t.length + 1 : Nat) : Int) := by rw [wrap_i64 (by omega) (by omega)]; omega
  have w3 : IntKind.i64.wrap (((t.length + 1 : Nat) : Int) - 1) = (t.length : Int) := by rw [wrap_i64 (by omega) (by omega)]; omega
  have e1 : (m : Int).tdiv 16 = ((m / 16 : Nat) : Int) := by rw [Int.tdiv_eq_ediv_of_nonneg (by omega)]; simp
  have e2 : IntKind.i64.wrap ((m / 16 : Nat) : Int) = ((m / 16 : Nat) : Int) := wrap_i64_nat (by omega)
  have e3 : ((m / 16 : Nat) : Int).tmod 2 = ((m / 16 % 2 : Nat) : Int) := by rw [Int.tmod_eq_emod_of_nonneg (by omega)]; simp
  have e4 : IntKind.i64.wrap ((m / 16 % 2 : Nat) : Int) = ((m / 16 % 2 : Nat) : Int) := wrap_i64_nat (by omega)
  have g1 : decide ((KK : Int) > 8) = false := by simp; omega
  have g2 : decide ((KK : Int) > (t.length : Int)) = false := by simp; omega
  have hH2 : kind = 1 ∧ m / 16 % 2 = 1 ∧ KK = m - 16 := by
    rcases hH with ⟨_, _, p3⟩ | ⟨_, _, _, p3⟩ | ⟨p1, p0, p2, _⟩
    · cases p3
    · cases p3
    · exact ⟨p1, p0, p2⟩
  obtain ⟨p1, p0, p2⟩ := hH2
  have f1 : (kind == 1) = true := by rw [p1]; rfl
  have f2 : (((m / 16 % 2 : Nat) : Int) == 1) = true := by rw [p0]; rfl
  have k0 : (kind == 0) = false := by rw [p1]; rfl
  have wK : IntKind.i64.wrap ((m : Int) - 16) = (KK : Int) := by rw [wrap_i64 (by omega) (by omega)]; omega
  clear hH
  first | (have FRx := FR; clear FRx) | have FR := fr0
  have FA := Sm.mk (And.intro TFWiY (And.intro d (And.intro z (And.intro w (And.intro w1 (And.intro w2 (And.intro w3 (And.intro e1 (And.intro e2 (And.intro e3 (And.intro e4 (And.intro f1 (And.intro f2 (And.intro wK (And.intro h4 (And.intro h50 (And.intro g1 g2)))))))))))))))))
  repeat' first | (apply Sm.mk; refine Ysn ?_) | refine WP.seq fun K hK => ?_ | (apply Ob.mk; exact Yo) | refine And.intro (Ob.out ?_) ?_ | refine Y1WiY ?_ | refine YzWiY ?_ | (refine WP.cond rfl (fun hc => ?_) (fun hc => ?_) <;> (try simp only [ZC, reduceCtorEq, ZD] at hc) <;> (try exact absurd hc (by decide)) <;> (try (exfalso; omega))) | refine Rt.mk (And.intro (fun hg => Sm.out ?_) fun hg => Sm.out ?_) | (refine Nu.mk ?_; first | (fail_if_success have := nb1); intro nb1 | (fail_if_success have := nb2); intro nb2 | (fail_if_success have := nb3); intro nb3 | intro nbz) | (refine Fr.mk ?_; intro hfr; replace FR := And.intro hfr FR; clear hfr; refine Sm.out ?_) | refine Two.mk ?_ ?_ | (apply Yxc; exact Yx) | refine Cs.mk fun hcs => Sm.out ?_ | go_step | omega | (simp only [maxLen_eq]; omega) | exact trivial
  clear g1 g2 e1 e2 e3 e4 w2 w3
  refine WP.loop (Γ := GG) (fun g => ⟨[(13, iv .i64 g.j), (10, iv .i64 KK), (12, nu (valL (t.take g.j))), (0, .slz .u8 Z), (1, iv .i64 at_), (11, bv true), (5, pt nb1 0), (6, pt nb2 0), (9, pt nb3 0)],
    [(nb1, .cells [iv .i64 kind, iv .i64 most] 2 78), (nb2, .cells [iv .u64 0, iv .i64 0, eS, bv false] 4 82), (nb3, .cells [iv .u64 0, iv .i64 0, eS, bv false] 4 82)]⟩) (fun g => g.j ≤ KK) (fun g => KK - g.j) ⟨0⟩ (by simp) (Sub.pick (by simp [pickB, hget, hdel, FR, valL]) (by simp [look, valL])) ?_
  intro ⟨j⟩ hj
  simp only at hj ⊢
  (refine WP.nd fun hnd => ?_; simp only [ndF, fresh_cons, fresh_nil, and_true, ne_eq] at hnd; replace FR := And.intro hnd FR; clear hnd)
  by_cases hjk : j < KK
  · have k1 : decide ((j : Int) < KK) = true := by simp; omega
    obtain ⟨c, hc0⟩ : ∃ c : Nat, t.getD j 0 = (c : Int) ∧ c ≤ 255 := by
      have hjt : j < t.length := by omega
      have := hb (t.getD j 0) (by rw [List.getD_eq_getElem?_getD, List.getElem?_eq_getElem hjt, Option.getD_some]; exact List.getElem_mem hjt)
      obtain ⟨c, hc⟩ := Int.eq_ofNat_of_zero_le this.1
      exact ⟨c, hc, by omega⟩
    have vj := valL_take (l := t) (i := j) (by omega)
    rw [hc0.1, Int.toNat_natCast] at vj
    have hv1 := hlt j (by omega)
    have h8 : (256 : Nat) ^ j ≤ 256 ^ 7 := Nat.pow_le_pow_right (by omega) (by omega)
    obtain ⟨V, hV⟩ : ∃ V, V = valL (t.take j) := ⟨_, rfl⟩
    rw [← hV] at vj hv1 ⊢
    have a1 : IntKind.u64.wrap (256 * (V : Int)) = ((256 * V : Nat) : Int) := by rw [show 256 * (V : Int) = ((256 * V : Nat) : Int) by simp, wrap_u64_nat (by omega)]
    have a2 : IntKind.i64.wrap (((at_ + 1 : Nat) : Int) + (j : Int)) = ((at_ + 1 + j : Nat) : Int) := by rw [wrap_i64 (by omega) (by omega)]; omega
    have a3 : Z.getD (at_ + 1 + j) 0 = (c : Int) := by rw [h5, hc0.1]
    have a4 : IntKind.u64.wrap (c : Int) = (c : Int) := wrap_u64_nat (by omega)
    have a5 : IntKind.u64.wrap (((256 * V : Nat) : Int) + (c : Int)) = ((V * 256 + c : Nat) : Int) := by rw [wrap_u64 (by omega) (by omega)]; omega
    have a6 : IntKind.i64.wrap ((j : Int) + 1) = ((j + 1 : Nat) : Int) := by rw [wrap_i64 (by omega) (by omega)]; omega
    first | (have FRx := FR; clear FRx) | have FR := fr0
    have FA := Sm.mk (And.intro TFWiY (And.intro k1 (And.intro w (And.intro a1 (And.intro a2 (And.intro a3 (And.intro a4 (And.intro a5 a6))))))))
    repeat' first | (apply Sm.mk; refine Ysn ?_) | refine WP.seq fun K hK => ?_ | (apply Ob.mk; exact Yo) | refine And.intro (Ob.out ?_) ?_ | refine Y1WiY ?_ | refine YzWiY ?_ | (refine WP.cond rfl (fun hc => ?_) (fun hc => ?_) <;> (try simp only [ZC, reduceCtorEq, ZD] at hc) <;> (try exact absurd hc (by decide)) <;> (try (exfalso; omega))) | refine Rt.mk (And.intro (fun hg => Sm.out ?_) fun hg => Sm.out ?_) | (refine Nu.mk ?_; first | (fail_if_success have := nb1); intro nb1 | (fail_if_success have := nb2); intro nb2 | (fail_if_success have := nb3); intro nb3 | intro nbz) | (refine Fr.mk ?_; intro hfr; replace FR := And.intro hfr FR; clear hfr; refine Sm.out ?_) | refine Two.mk ?_ ?_ | (apply Yxc; exact Yx) | refine Cs.mk fun hcs => Sm.out ?_ | go_step | omega | (simp only [maxLen_eq]; omega) | exact trivial
    exact ⟨⟨j + 1⟩, by simp only; omega, by simp only; omega, (Sub.pick (by simp [pickB, hget, hdel, FR, vj]) (by simp [look, vj]))⟩
  · have k1 : decide ((j : Int) < KK) = false := by simp; omega
    obtain rfl : j = KK := by omega
    have wn : IntKind.i64.wrap (((at_ + 1 : Nat) : Int) + (j : Int)) = ((at_ + 1 + j : Nat) : Int) := by rw [wrap_i64 (by omega) (by omega)]; omega
    have wl : IntKind.i64.wrap ((Z.length : Int) - ((at_ + 1 + j : Nat) : Int)) = (r.length : Int) := by rw [wrap_i64 (by omega) (by omega)]; omega
    have wr : IntKind.u64.wrap (r.length : Int) = (r.length : Int) := wrap_u64_nat (by omega)
    have hN' := hN.symm
    have hneg : N ≤ 9223372036854775808 → IntKind.i64.wrap (IntKind.u64.wrap (0 - (N : Int))) = -(N : Int) := fun hN9 => by
      rw [wrap_u64_mod]; simp only [IntKind.wrap, IntKind.bits, IntKind.signed]; simp; omega
    first | (have FRx := FR; clear FRx) | have FR := fr0
    have FA := Sm.mk (And.intro TFWiY (And.intro k1 (And.intro w (And.intro wn (And.intro wl (And.intro wr (And.intro hN' (And.intro k0 f1))))))))
    repeat' first | (apply Sm.mk; refine Ysn ?_) | refine WP.seq fun K hK => ?_ | (apply Ob.mk; exact Yo) | refine And.intro (Ob.out ?_) ?_ | refine Y1WiY ?_ | refine YzWiY ?_ | (refine WP.cond rfl (fun hc => ?_) (fun hc => ?_) <;> (try simp only [ZC, reduceCtorEq, ZD] at hc) <;> (try exact absurd hc (by decide)) <;> (try (exfalso; omega))) | refine Rt.mk (And.intro (fun hg => Sm.out ?_) fun hg => Sm.out ?_) | (refine Nu.mk ?_; first | (fail_if_success have := nb1); intro nb1 | (fail_if_success have := nb2); intro nb2 | (fail_if_success have := nb3); intro nb3 | intro nbz) | (refine Fr.mk ?_; intro hfr; replace FR := And.intro hfr FR; clear hfr; refine Sm.out ?_) | refine Two.mk ?_ ?_ | (apply Yxc; exact Yx) | refine Cs.mk fun hcs => Sm.out ?_ | go_step | omega | (simp only [maxLen_eq]; omega) | exact trivial
    all_goals clear h5 hlt
    all_goals (refine OutQ.all ?_ ?_; (focus (simp only [resv, ZK, look, loadv, loadn, loadnm, load1, load1m, hget, ↓reduceIte, Nat.reduceEqDiff, Nat.reduceAdd, Nat.reduceMul, Nat.reduceLeDiff, Nat.reduceLT, reduceCtorEq, TFWiY, FR])); (simp only [resv, resA, ZK, look, loadv, loadn, loadnm, load1, load1m, hget, ↓reduceIte, Nat.reduceEqDiff, Nat.reduceAdd, Nat.reduceMul, Nat.reduceLeDiff, Nat.reduceLT, reduceCtorEq, TFWiY, FR]))
    all_goals (unfold tailF; (repeat' split) <;> first | (exfalso; omega) | (exact absurd (show true = true from rfl) (by assumption)) | (exact absurd (show false = true by assumption) (by decide)) | exact bad3_mk (by first | rfl | (simp; omega)) | exact good3_mk rfl (by first | omega | (simp only [List.length_drop]; omega)) (by first | rfl | (simp; omega)) | exact good3_mk (by first | (rw [wrap_i64 (by omega) (by omega)]; done) | (rw [wrap_i64 (by omega) (by omega)]; rfl)) (by omega) (by first | rfl | (simp; omega)) | exact good3_mk (by first | (rw [hneg (by omega)]; done) | (rw [hneg (by omega)]; rfl)) (by omega) (by first | rfl | (simp; omega)) | trace_state)
end Go.Proofs.YtaffbklkjjmmdaaDoor.Wi
