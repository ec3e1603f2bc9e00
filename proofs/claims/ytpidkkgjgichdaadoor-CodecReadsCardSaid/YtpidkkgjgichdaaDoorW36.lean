/-
  The walks and the laws that the statement leans on, part 36.
-/
import Derived.Test.YtpidkkgjgichdaaDoorW10
import Derived.Test.YtpidkkgjgichdaaDoorW35
namespace Go.Proofs.YtpidkkgjgichdaaDoor
open Go Wi
set_option linter.unusedVariables false
set_option linter.unusedSimpArgs false
set_option linter.defProp false
def TFCoP :=
  And.intro (And.intro (And.intro (And.intro (And.intro (And.intro tyc0 (And.intro tyc2 zmb2)) (And.intro (And.intro tyc3 zmb3) (And.intro tyc4 zmb4))) (And.intro (And.intro tyc5 (And.intro zmb5 tyc9)) (And.intro (And.intro zmb9 tyc22) (And.intro zmb22 tyc24)))) (And.intro (And.intro (And.intro foff24_0 (And.intro fpart24_0 foff24_1)) (And.intro (And.intro fpart24_1 fe24) (And.intro zmb24 bldT24))) (And.intro (And.intro tyc26 (And.intro foff26_0 fpart26_0)) (And.intro (And.intro foff26_1 fpart26_1) (And.intro foff26_2 fpart26_2))))) (And.intro (And.intro (And.intro (And.intro foff26_3 (And.intro fpart26_3 foff26_4)) (And.intro (And.intro fpart26_4 fe26) (And.intro zmb26 bldT26))) (And.intro (And.intro tyc28 (And.intro foff28_0 fpart28_0)) (And.intro (And.intro foff28_1 fpart28_1) (And.intro foff28_2 fpart28_2)))) (And.intro (And.intro (And.intro foff28_3 (And.intro fpart28_3 foff28_4)) (And.intro (And.intro fpart28_4 fe28) (And.intro zmb28 bldT28))) (And.intro (And.intro tyc30 (And.intro foff30_0 fpart30_0)) (And.intro (And.intro foff30_1 fpart30_1) (And.intro foff30_2 fpart30_2)))))) (And.intro (And.intro (And.intro (And.intro (And.intro foff30_3 (And.intro fpart30_3 foff30_4)) (And.intro (And.intro fpart30_4 foff30_5) (And.intro fpart30_5 zmb30))) (And.intro (And.intro bldT30 (And.intro tyc33 elt33)) (And.intro (And.intro mkz33 apT33) (And.intro elk33 zmb33)))) (And.intro (And.intro (And.intro tyc66 (And.intro tyc69 foff69_0)) (And.intro (And.intro fpart69_0 foff69_1) (And.intro fpart69_1 foff69_2))) (And.intro (And.intro fpart69_2 (And.intro foff69_3 fpart69_3)) (And.intro (And.intro fe69 zmb69) (And.intro bldT69 tyc70))))) (And.intro (And.intro (And.intro (And.intro tyc73 (And.intro foff73_0 fpart73_0)) (And.intro (And.intro foff73_1 fpart73_1) (And.intro fe73 zmb73))) (And.intro (And.intro bldT73 (And.intro tyc74 tyc76)) (And.intro (And.intro Tryd.underlying0 Tryd.underlying2) (And.intro Tryd.underlying3 Tryd.underlying4)))) (And.intro (And.intro (And.intro Tryd.underlying5 (And.intro Tryd.underlying9 Tryd.underlying22)) (And.intro (And.intro Tryd.underlying24 Tryd.underlying26) (And.intro Tryd.underlying28 Tryd.underlying30))) (And.intro (And.intro Tryd.underlying33 (And.intro Tryd.underlying66 Tryd.underlying69)) (And.intro (And.intro Tryd.underlying70 Tryd.underlying73) (And.intro Tryd.underlying74 Tryd.underlying76))))))
theorem Y1CoP {G R : Prop} (r : R) (h : R → G := by intro r; first | (apply WP.region; exact rvc_sound _ _ (Sm.out r)) | exact WP.drawK rfl mixed (by decide +kernel) (Sm.out r) | (apply WP.block; exact r) | (apply WP.skip; exact Yq r) | (apply WP.exit; exact Yq r) | (apply WP.ret; exact Sm.out r) | exact WP.cond rfl (fun _ => r) (fun hg => absurd hg (by decide)) | exact WP.cond rfl (fun hg => absurd hg (by decide)) (fun _ => r) | exact Rt.mk (And.intro (fun _ => Sm.out r) fun hg => absurd hg (by decide)) | exact Rt.mk (And.intro (fun hg => absurd hg (by decide)) fun _ => Sm.out r)) : G := h r
theorem YzCoP {G R : Prop} (r : R) (h : R → G := by intro r; first | (apply ExG.no; exact Sm.out r) | (apply Or.inl; apply ExG.no; exact Sm.out r) | exact Or.inl (And.intro (fun hg => absurd hg (by decide)) (ExG.no (Sm.out r)))) : G := h r
abbrev NumBad (Z : List Int) (A : Int) : Prop := ACt Tryd.prog 42 [.slz .u8 Z, iv .i64 A] [] (fun r F' => ∃ g : Int × Int, r = .tup [iv .u64 g.1, iv .i64 g.2, bv false] ∧ F' = [])
abbrev NumGood (Z : List Int) (A n B : Int) : Prop := ACt Tryd.prog 42 [.slz .u8 Z, iv .i64 A] [] (Fn (.tup [iv .u64 n, iv .i64 B, bv true]))
abbrev GetBad (Z : List Int) (A k m : Int) : Prop := ACt Tryd.prog 43 [.slz .u8 Z, iv .i64 A, .agg [iv .i64 k, iv .i64 m]] [] (fun r F' => ∃ g, r = gt3 g ∧ F' = [])
abbrev GetGood (Z : List Int) (A k m : Int) (q : Gt) (B : Int) : Prop := ACt Tryd.prog 43 [.slz .u8 Z, iv .i64 A, .agg [iv .i64 k, iv .i64 m]] [] (Fn (.tup [.agg (gtv q), iv .i64 B, bv true]))
abbrev RdsTo (Z : List Int) (op : Oq) (f : Bool) : Prop := ACt Tryd.prog 15 [.slz .u8 Z] [] (Fn (.tup [ov op, bv f]))
theorem rread_bad (Z : List Int) (c1 : NumBad Z 0) : RdsTo Z o0 false := by
  refine ACt.intro Tryd.func15 rfl (by kernel_rfl) (by simp [Tryd.ntmps15]) (fun cx => ?_)
  simp only [argE, Tryd.ntmps15, Tryd.results15]
  first | (have FRx := FR; clear FRx) | have FR := fr0S
  have FA := Sm.mk (TFCoP)
  repeat' first | (apply Sm.mk; refine Ys ?_) | refine WP.seq fun K hK => ?_ | (apply Ob.mk; exact Yo) | refine And.intro (Ob.out ?_) ?_ | refine Y1CoP ?_ | (refine CallV.ex (F := []) (List.Perm.refl _) (c1) (fun g => Sm.out ?_)) | refine YzCoP ?_ | (refine WP.cond rfl (fun hc => ?_) (fun hc => ?_) <;> (try simp only [ZC, reduceCtorEq, ZD] at hc) <;> (try exact absurd hc (by decide)) <;> (try (exfalso; omega))) | refine Rt.mk (And.intro (fun hg => Sm.out ?_) fun hg => Sm.out ?_) | (refine Nu.mk ?_; first | (fail_if_success have := nb1); intro nb1 | (fail_if_success have := nb2); intro nb2 | (fail_if_success have := nb3); intro nb3 | (fail_if_success have := nb4); intro nb4 | (fail_if_success have := nb5); intro nb5 | (fail_if_success have := nb6); intro nb6 | (fail_if_success have := nb7); intro nb7 | (fail_if_success have := nb8); intro nb8 | intro nbz) | (apply Yfr; refine Yf FR fun hFRb FR => ?_) | refine Two.mk ?_ ?_ | (apply Yxc; exact Yx) | refine Cs.mk fun hcs => Sm.out ?_ | go_step | omega | (simp only [maxLen_eq]; omega) | exact trivial
  (refine Yg ?_; try exact trivial)
theorem rread_out (Z : List Int) (n A : Int) (hn : n < 1 ∨ 9 < n) (c1 : NumGood Z 0 n A) : RdsTo Z o0 false := by
  by_cases h : n < 1
  · have k1 : decide (n < 1) = true := decide_eq_true h
    refine ACt.intro Tryd.func15 rfl (by kernel_rfl) (by simp [Tryd.ntmps15]) (fun cx => ?_)
    simp only [argE, Tryd.ntmps15, Tryd.results15]
    first | (have FRx := FR; clear FRx) | have FR := fr0S
    have FA := Sm.mk (And.intro TFCoP k1)
    repeat' first | (apply Sm.mk; refine Ys ?_) | refine WP.seq fun K hK => ?_ | (apply Ob.mk; exact Yo) | refine And.intro (Ob.out ?_) ?_ | refine Y1CoP ?_ | refine Yc (c := c1) (r := ?_) | refine YzCoP ?_ | (refine WP.cond rfl (fun hc => ?_) (fun hc => ?_) <;> (try simp only [ZC, reduceCtorEq, ZD] at hc) <;> (try exact absurd hc (by decide)) <;> (try (exfalso; omega))) | refine Rt.mk (And.intro (fun hg => Sm.out ?_) fun hg => Sm.out ?_) | (refine Nu.mk ?_; first | (fail_if_success have := nb1); intro nb1 | (fail_if_success have := nb2); intro nb2 | (fail_if_success have := nb3); intro nb3 | (fail_if_success have := nb4); intro nb4 | (fail_if_success have := nb5); intro nb5 | (fail_if_success have := nb6); intro nb6 | (fail_if_success have := nb7); intro nb7 | (fail_if_success have := nb8); intro nb8 | intro nbz) | (apply Yfr; refine Yf FR fun hFRb FR => ?_) | refine Two.mk ?_ ?_ | (apply Yxc; exact Yx) | refine Cs.mk fun hcs => Sm.out ?_ | go_step | omega | (simp only [maxLen_eq]; omega) | exact trivial
    (refine Yg ?_; try exact trivial)
  · have k1 : decide (n < 1) = false := decide_eq_false h
    have k2 : decide (n > 9) = true := decide_eq_true (by omega)
    refine ACt.intro Tryd.func15 rfl (by kernel_rfl) (by simp [Tryd.ntmps15]) (fun cx => ?_)
    simp only [argE, Tryd.ntmps15, Tryd.results15]
    first | (have FRx := FR; clear FRx) | have FR := fr0S
    have FA := Sm.mk (And.intro TFCoP (And.intro k1 k2))
    repeat' first | (apply Sm.mk; refine Ys ?_) | refine WP.seq fun K hK => ?_ | (apply Ob.mk; exact Yo) | refine And.intro (Ob.out ?_) ?_ | refine Y1CoP ?_ | refine Yc (c := c1) (r := ?_) | refine YzCoP ?_ | (refine WP.cond rfl (fun hc => ?_) (fun hc => ?_) <;> (try simp only [ZC, reduceCtorEq, ZD] at hc) <;> (try exact absurd hc (by decide)) <;> (try (exfalso; omega))) | refine Rt.mk (And.intro (fun hg => Sm.out ?_) fun hg => Sm.out ?_) | (refine Nu.mk ?_; first | (fail_if_success have := nb1); intro nb1 | (fail_if_success have := nb2); intro nb2 | (fail_if_success have := nb3); intro nb3 | (fail_if_success have := nb4); intro nb4 | (fail_if_success have := nb5); intro nb5 | (fail_if_success have := nb6); intro nb6 | (fail_if_success have := nb7); intro nb7 | (fail_if_success have := nb8); intro nb8 | intro nbz) | (apply Yfr; refine Yf FR fun hFRb FR => ?_) | refine Two.mk ?_ ?_ | (apply Yxc; exact Yx) | refine Cs.mk fun hcs => Sm.out ?_ | go_step | omega | (simp only [maxLen_eq]; omega) | exact trivial
    (refine Yg ?_; try exact trivial)
set_option maxRecDepth 8000 in
set_option maxHeartbeats 2000000 in
theorem rread_1f0 (Z : List Int) (A0 : Int) 
    (c1 : NumGood Z 0 1 A0) (c2 : GetBad Z A0 2 40000) : RdsTo Z o0 false := by
  have k1 : decide ((1 : Int) < 1) = false := by decide
  have k2 : decide ((1 : Int) > 9) = false := by decide
  have u : IntKind.i64.wrap 1 = 1 := by decide
  have cT : ACt Tryd.prog 25 [iv .i64 1] [] (Fn (bv true)) := rtext_ct 1
  have cA : ACt Tryd.prog 26 [iv .i64 1] [] (Fn (bv false)) := rat_ct 1
  have y2 : ((1 : Int) == 2) = false := rfl
  have y4 : ((1 : Int) == 4) = false := rfl
  have y5 : ((1 : Int) == 5) = false := rfl
  refine ACt.intro Tryd.func15 rfl (by kernel_rfl) (by simp [Tryd.ntmps15]) (fun cx => ?_)
  simp only [argE, Tryd.ntmps15, Tryd.results15]
  first | (have FRx := FR; clear FRx) | have FR := fr0S
  have FA := Sm.mk (And.intro TFCoP (And.intro k1 (And.intro k2 (And.intro u (And.intro y2 (And.intro y4 y5))))))
  repeat' first | (apply Sm.mk; refine Ys ?_) | refine WP.seq fun K hK => ?_ | (apply Ob.mk; exact Yo) | refine And.intro (Ob.out ?_) ?_ | refine Y1CoP ?_ | (first | refine CallV.fn (c1) (Sm.out ?_) | refine ExF.mk (c1) (Sm.out ?_) | refine ExG.mk (fun _ => c1) (Sm.out ?_) | refine ExG.mkJ (fun _ => c1) (Sm.out ?_) | refine ExG.mkI (Ob.out ?_) (fun _ => c1) (Sm.out ?_)) | (refine CallV.ex (F := []) (List.Perm.refl _) (c2) (fun g => Sm.out ?_)) | (first | refine CallV.fn (cT) (Sm.out ?_) | refine ExF.mk (cT) (Sm.out ?_) | refine ExG.mk (fun _ => cT) (Sm.out ?_) | refine ExG.mkJ (fun _ => cT) (Sm.out ?_) | refine ExG.mkI (Ob.out ?_) (fun _ => cT) (Sm.out ?_)) | (first | refine CallV.fn (cA) (Sm.out ?_) | refine ExF.mk (cA) (Sm.out ?_) | refine ExG.mk (fun _ => cA) (Sm.out ?_) | refine ExG.mkJ (fun _ => cA) (Sm.out ?_) | refine ExG.mkI (Ob.out ?_) (fun _ => cA) (Sm.out ?_)) | refine YzCoP ?_ | (refine WP.cond rfl (fun hc => ?_) (fun hc => ?_) <;> (try simp only [ZC, reduceCtorEq, ZD] at hc) <;> (try exact absurd hc (by decide)) <;> (try (exfalso; omega))) | refine Rt.mk (And.intro (fun hg => Sm.out ?_) fun hg => Sm.out ?_) | (refine Nu.mk ?_; first | (fail_if_success have := nb1); intro nb1 | (fail_if_success have := nb2); intro nb2 | (fail_if_success have := nb3); intro nb3 | (fail_if_success have := nb4); intro nb4 | (fail_if_success have := nb5); intro nb5 | (fail_if_success have := nb6); intro nb6 | (fail_if_success have := nb7); intro nb7 | (fail_if_success have := nb8); intro nb8 | intro nbz) | (apply Yfr; refine Yf FR fun hFRb FR => ?_) | refine Two.mk ?_ ?_ | (apply Yxc; exact Yx) | refine Cs.mk fun hcs => Sm.out ?_ | go_step | omega | (simp only [maxLen_eq]; omega) | exact trivial
  (refine Yg ?_; try exact trivial)
set_option maxRecDepth 8000 in
set_option maxHeartbeats 2000000 in
theorem rread_1 (Z : List Int) (A0 A1 : Int) (tx : ByteArray) (f : Bool)
    (c1 : NumGood Z 0 1 A0) (c2 : GetGood Z A0 2 40000 ⟨0, 0, tx, false⟩ A1) (hf : (A1 == (Z.length : Int)) = f) : RdsTo Z ⟨1, tx, 0, 0, 0, k0, s0⟩ f := by
  have k1 : decide ((1 : Int) < 1) = false := by decide
  have k2 : decide ((1 : Int) > 9) = false := by decide
  have u : IntKind.i64.wrap 1 = 1 := by decide
  have cT : ACt Tryd.prog 25 [iv .i64 1] [] (Fn (bv true)) := rtext_ct 1
  have cA : ACt Tryd.prog 26 [iv .i64 1] [] (Fn (bv false)) := rat_ct 1
  have y2 : ((1 : Int) == 2) = false := rfl
  have y4 : ((1 : Int) == 4) = false := rfl
  have y5 : ((1 : Int) == 5) = false := rfl
  refine ACt.intro Tryd.func15 rfl (by kernel_rfl) (by simp [Tryd.ntmps15]) (fun cx => ?_)
  simp only [argE, Tryd.ntmps15, Tryd.results15]
  first | (have FRx := FR; clear FRx) | have FR := fr0S
  have FA := Sm.mk (And.intro TFCoP (And.intro k1 (And.intro k2 (And.intro u (And.intro y2 (And.intro y4 (And.intro y5 hf)))))))
  repeat' first | (apply Sm.mk; refine Ys ?_) | refine WP.seq fun K hK => ?_ | (apply Ob.mk; exact Yo) | refine And.intro (Ob.out ?_) ?_ | refine Y1CoP ?_ | refine Yc (c := c1) (r := ?_) | refine Yc (c := c2) (r := ?_) | refine Yc (c := cT) (r := ?_) | refine Yc (c := cA) (r := ?_) | refine YzCoP ?_ | (refine WP.cond rfl (fun hc => ?_) (fun hc => ?_) <;> (try simp only [ZC, reduceCtorEq, ZD] at hc) <;> (try exact absurd hc (by decide)) <;> (try (exfalso; omega))) | refine Rt.mk (And.intro (fun hg => Sm.out ?_) fun hg => Sm.out ?_) | (refine Nu.mk ?_; first | (fail_if_success have := nb1); intro nb1 | (fail_if_success have := nb2); intro nb2 | (fail_if_success have := nb3); intro nb3 | (fail_if_success have := nb4); intro nb4 | (fail_if_success have := nb5); intro nb5 | (fail_if_success have := nb6); intro nb6 | (fail_if_success have := nb7); intro nb7 | (fail_if_success have := nb8); intro nb8 | intro nbz) | (apply Yfr; refine Yf FR fun hFRb FR => ?_) | refine Two.mk ?_ ?_ | (apply Yxc; exact Yx) | refine Cs.mk fun hcs => Sm.out ?_ | go_step | omega | (simp only [maxLen_eq]; omega) | exact trivial
  (refine Yg ?_; try exact trivial)
set_option maxRecDepth 8000 in
set_option maxHeartbeats 2000000 in
theorem rread_2f0 (Z : List Int) (A0 : Int) 
    (c1 : NumGood Z 0 2 A0) (c2 : GetBad Z A0 2 40000) : RdsTo Z o0 false := by
  have k1 : decide ((2 : Int) < 1) = false := by decide
  have k2 : decide ((2 : Int) > 9) = false := by decide
  have u : IntKind.i64.wrap 2 = 2 := by decide
  have cT : ACt Tryd.prog 25 [iv .i64 2] [] (Fn (bv true)) := rtext_ct 2
  have cA : ACt Tryd.prog 26 [iv .i64 2] [] (Fn (bv true)) := rat_ct 2
  have y2 : ((2 : Int) == 2) = true := rfl
  have y4 : ((2 : Int) == 4) = false := rfl
  have y5 : ((2 : Int) == 5) = false := rfl
  refine ACt.intro Tryd.func15 rfl (by kernel_rfl) (by simp [Tryd.ntmps15]) (fun cx => ?_)
  simp only [argE, Tryd.ntmps15, Tryd.results15]
  first | (have FRx := FR; clear FRx) | have FR := fr0S
  have FA := Sm.mk (And.intro TFCoP (And.intro k1 (And.intro k2 (And.intro u (And.intro y2 (And.intro y4 y5))))))
  repeat' first | (apply Sm.mk; refine Ys ?_) | refine WP.seq fun K hK => ?_ | (apply Ob.mk; exact Yo) | refine And.intro (Ob.out ?_) ?_ | refine Y1CoP ?_ | (first | refine CallV.fn (c1) (Sm.out ?_) | refine ExF.mk (c1) (Sm.out ?_) | refine ExG.mk (fun _ => c1) (Sm.out ?_) | refine ExG.mkJ (fun _ => c1) (Sm.out ?_) | refine ExG.mkI (Ob.out ?_) (fun _ => c1) (Sm.out ?_)) | (refine CallV.ex (F := []) (List.Perm.refl _) (c2) (fun g => Sm.out ?_)) | (first | refine CallV.fn (cT) (Sm.out ?_) | refine ExF.mk (cT) (Sm.out ?_) | refine ExG.mk (fun _ => cT) (Sm.out ?_) | refine ExG.mkJ (fun _ => cT) (Sm.out ?_) | refine ExG.mkI (Ob.out ?_) (fun _ => cT) (Sm.out ?_)) | (first | refine CallV.fn (cA) (Sm.out ?_) | refine ExF.mk (cA) (Sm.out ?_) | refine ExG.mk (fun _ => cA) (Sm.out ?_) | refine ExG.mkJ (fun _ => cA) (Sm.out ?_) | refine ExG.mkI (Ob.out ?_) (fun _ => cA) (Sm.out ?_)) | refine YzCoP ?_ | (refine WP.cond rfl (fun hc => ?_) (fun hc => ?_) <;> (try simp only [ZC, reduceCtorEq, ZD] at hc) <;> (try exact absurd hc (by decide)) <;> (try (exfalso; omega))) | refine Rt.mk (And.intro (fun hg => Sm.out ?_) fun hg => Sm.out ?_) | (refine Nu.mk ?_; first | (fail_if_success have := nb1); intro nb1 | (fail_if_success have := nb2); intro nb2 | (fail_if_success have := nb3); intro nb3 | (fail_if_success have := nb4); intro nb4 | (fail_if_success have := nb5); intro nb5 | (fail_if_success have := nb6); intro nb6 | (fail_if_success have := nb7); intro nb7 | (fail_if_success have := nb8); intro nb8 | intro nbz) | (apply Yfr; refine Yf FR fun hFRb FR => ?_) | refine Two.mk ?_ ?_ | (apply Yxc; exact Yx) | refine Cs.mk fun hcs => Sm.out ?_ | go_step | omega | (simp only [maxLen_eq]; omega) | exact trivial
  (refine Yg ?_; try exact trivial)
set_option maxRecDepth 8000 in
set_option maxHeartbeats 2000000 in
theorem rread_2f1 (Z : List Int) (A0 A1 : Int) (tx : ByteArray)
    (c1 : NumGood Z 0 2 A0) (c2 : GetGood Z A0 2 40000 ⟨0, 0, tx, false⟩ A1) (c3 : GetBad Z A1 1 0) : RdsTo Z o0 false := by
  have k1 : decide ((2 : Int) < 1) = false := by decide
  have k2 : decide ((2 : Int) > 9) = false := by decide
  have u : IntKind.i64.wrap 2 = 2 := by decide
  have cT : ACt Tryd.prog 25 [iv .i64 2] [] (Fn (bv true)) := rtext_ct 2
  have cA : ACt Tryd.prog 26 [iv .i64 2] [] (Fn (bv true)) := rat_ct 2
  have y2 : ((2 : Int) == 2) = true := rfl
  have y4 : ((2 : Int) == 4) = false := rfl
  have y5 : ((2 : Int) == 5) = false := rfl
  refine ACt.intro Tryd.func15 rfl (by kernel_rfl) (by simp [Tryd.ntmps15]) (fun cx => ?_)
  simp only [argE, Tryd.ntmps15, Tryd.results15]
  first | (have FRx := FR; clear FRx) | have FR := fr0S
  have FA := Sm.mk (And.intro TFCoP (And.intro k1 (And.intro k2 (And.intro u (And.intro y2 (And.intro y4 y5))))))
  repeat' first | (apply Sm.mk; refine Ys ?_) | refine WP.seq fun K hK => ?_ | (apply Ob.mk; exact Yo) | refine And.intro (Ob.out ?_) ?_ | refine Y1CoP ?_ | (first | refine CallV.fn (c1) (Sm.out ?_) | refine ExF.mk (c1) (Sm.out ?_) | refine ExG.mk (fun _ => c1) (Sm.out ?_) | refine ExG.mkJ (fun _ => c1) (Sm.out ?_) | refine ExG.mkI (Ob.out ?_) (fun _ => c1) (Sm.out ?_)) | (first | refine CallV.fn (c2) (Sm.out ?_) | refine ExF.mk (c2) (Sm.out ?_) | refine ExG.mk (fun _ => c2) (Sm.out ?_) | refine ExG.mkJ (fun _ => c2) (Sm.out ?_) | refine ExG.mkI (Ob.out ?_) (fun _ => c2) (Sm.out ?_)) | (refine CallV.ex (F := []) (List.Perm.refl _) (c3) (fun g => Sm.out ?_)) | (first | refine CallV.fn (cT) (Sm.out ?_) | refine ExF.mk (cT) (Sm.out ?_) | refine ExG.mk (fun _ => cT) (Sm.out ?_) | refine ExG.mkJ (fun _ => cT) (Sm.out ?_) | refine ExG.mkI (Ob.out ?_) (fun _ => cT) (Sm.out ?_)) | (first | refine CallV.fn (cA) (Sm.out ?_) | refine ExF.mk (cA) (Sm.out ?_) | refine ExG.mk (fun _ => cA) (Sm.out ?_) | refine ExG.mkJ (fun _ => cA) (Sm.out ?_) | refine ExG.mkI (Ob.out ?_) (fun _ => cA) (Sm.out ?_)) | refine YzCoP ?_ | (refine WP.cond rfl (fun hc => ?_) (fun hc => ?_) <;> (try simp only [ZC, reduceCtorEq, ZD] at hc) <;> (try exact absurd hc (by decide)) <;> (try (exfalso; omega))) | refine Rt.mk (And.intro (fun hg => Sm.out ?_) fun hg => Sm.out ?_) | (refine Nu.mk ?_; first | (fail_if_success have := nb1); intro nb1 | (fail_if_success have := nb2); intro nb2 | (fail_if_success have := nb3); intro nb3 | (fail_if_success have := nb4); intro nb4 | (fail_if_success have := nb5); intro nb5 | (fail_if_success have := nb6); intro nb6 | (fail_if_success have := nb7); intro nb7 | (fail_if_success have := nb8); intro nb8 | intro nbz) | (apply Yfr; refine Yf FR fun hFRb FR => ?_) | refine Two.mk ?_ ?_ | (apply Yxc; exact Yx) | refine Cs.mk fun hcs => Sm.out ?_ | go_step | omega | (simp only [maxLen_eq]; omega) | exact trivial
  (refine Yg ?_; try exact trivial)
set_option maxRecDepth 8000 in
set_option maxHeartbeats 2000000 in
theorem rread_2f2 (Z : List Int) (A0 A1 A2 : Int) (tx : ByteArray) (a : Int)
    (c1 : NumGood Z 0 2 A0) (c2 : GetGood Z A0 2 40000 ⟨0, 0, tx, false⟩ A1) (c3 : GetGood Z A1 1 0 ⟨0, a, ⟨#[]⟩, false⟩ A2) (c4 : NumBad Z A2) : RdsTo Z o0 false := by
  have k1 : decide ((2 : Int) < 1) = false := by decide
  have k2 : decide ((2 : Int) > 9) = false := by decide
  have u : IntKind.i64.wrap 2 = 2 := by decide
  have cT : ACt Tryd.prog 25 [iv .i64 2] [] (Fn (bv true)) := rtext_ct 2
  have cA : ACt Tryd.prog 26 [iv .i64 2] [] (Fn (bv true)) := rat_ct 2
  have y2 : ((2 : Int) == 2) = true := rfl
  have y4 : ((2 : Int) == 4) = false := rfl
  have y5 : ((2 : Int) == 5) = false := rfl
  refine ACt.intro Tryd.func15 rfl (by kernel_rfl) (by simp [Tryd.ntmps15]) (fun cx => ?_)
  simp only [argE, Tryd.ntmps15, Tryd.results15]
  first | (have FRx := FR; clear FRx) | have FR := fr0S
  have FA := Sm.mk (And.intro TFCoP (And.intro k1 (And.intro k2 (And.intro u (And.intro y2 (And.intro y4 y5))))))
  repeat' first | (apply Sm.mk; refine Ys ?_) | refine WP.seq fun K hK => ?_ | (apply Ob.mk; exact Yo) | refine And.intro (Ob.out ?_) ?_ | refine Y1CoP ?_ | (first | refine CallV.fn (c1) (Sm.out ?_) | refine ExF.mk (c1) (Sm.out ?_) | refine ExG.mk (fun _ => c1) (Sm.out ?_) | refine ExG.mkJ (fun _ => c1) (Sm.out ?_) | refine ExG.mkI (Ob.out ?_) (fun _ => c1) (Sm.out ?_)) | (first | refine CallV.fn (c2) (Sm.out ?_) | refine ExF.mk (c2) (Sm.out ?_) | refine ExG.mk (fun _ => c2) (Sm.out ?_) | refine ExG.mkJ (fun _ => c2) (Sm.out ?_) | refine ExG.mkI (Ob.out ?_) (fun _ => c2) (Sm.out ?_)) | (first | refine CallV.fn (c3) (Sm.out ?_) | refine ExF.mk (c3) (Sm.out ?_) | refine ExG.mk (fun _ => c3) (Sm.out ?_) | refine ExG.mkJ (fun _ => c3) (Sm.out ?_) | refine ExG.mkI (Ob.out ?_) (fun _ => c3) (Sm.out ?_)) | (refine CallV.ex (F := []) (List.Perm.refl _) (c4) (fun g => Sm.out ?_)) | (first | refine CallV.fn (cT) (Sm.out ?_) | refine ExF.mk (cT) (Sm.out ?_) | refine ExG.mk (fun _ => cT) (Sm.out ?_) | refine ExG.mkJ (fun _ => cT) (Sm.out ?_) | refine ExG.mkI (Ob.out ?_) (fun _ => cT) (Sm.out ?_)) | (first | refine CallV.fn (cA) (Sm.out ?_) | refine ExF.mk (cA) (Sm.out ?_) | refine ExG.mk (fun _ => cA) (Sm.out ?_) | refine ExG.mkJ (fun _ => cA) (Sm.out ?_) | refine ExG.mkI (Ob.out ?_) (fun _ => cA) (Sm.out ?_)) | refine YzCoP ?_ | (refine WP.cond rfl (fun hc => ?_) (fun hc => ?_) <;> (try simp only [ZC, reduceCtorEq, ZD] at hc) <;> (try exact absurd hc (by decide)) <;> (try (exfalso; omega))) | refine Rt.mk (And.intro (fun hg => Sm.out ?_) fun hg => Sm.out ?_) | (refine Nu.mk ?_; first | (fail_if_success have := nb1); intro nb1 | (fail_if_success have := nb2); intro nb2 | (fail_if_success have := nb3); intro nb3 | (fail_if_success have := nb4); intro nb4 | (fail_if_success have := nb5); intro nb5 | (fail_if_success have := nb6); intro nb6 | (fail_if_success have := nb7); intro nb7 | (fail_if_success have := nb8); intro nb8 | intro nbz) | (apply Yfr; refine Yf FR fun hFRb FR => ?_) | refine Two.mk ?_ ?_ | (apply Yxc; exact Yx) | refine Cs.mk fun hcs => Sm.out ?_ | go_step | omega | (simp only [maxLen_eq]; omega) | exact trivial
  (refine Yg ?_; try exact trivial)
set_option maxRecDepth 8000 in
set_option maxHeartbeats 2000000 in
theorem rread_2f3 (Z : List Int) (A0 A1 A2 A3 : Int) (tx : ByteArray) (a : Int) (g : Int)
    (c1 : NumGood Z 0 2 A0) (c2 : GetGood Z A0 2 40000 ⟨0, 0, tx, false⟩ A1) (c3 : GetGood Z A1 1 0 ⟨0, a, ⟨#[]⟩, false⟩ A2) (c4 : NumGood Z A2 g A3) (c5 : NumBad Z A3) : RdsTo Z o0 false := by
  have k1 : decide ((2 : Int) < 1) = false := by decide
  have k2 : decide ((2 : Int) > 9) = false := by decide
  have u : IntKind.i64.wrap 2 = 2 := by decide
  have cT : ACt Tryd.prog 25 [iv .i64 2] [] (Fn (bv true)) := rtext_ct 2
  have cA : ACt Tryd.prog 26 [iv .i64 2] [] (Fn (bv true)) := rat_ct 2
  have y2 : ((2 : Int) == 2) = true := rfl
  have y4 : ((2 : Int) == 4) = false := rfl
  have y5 : ((2 : Int) == 5) = false := rfl
  refine ACt.intro Tryd.func15 rfl (by kernel_rfl) (by simp [Tryd.ntmps15]) (fun cx => ?_)
  simp only [argE, Tryd.ntmps15, Tryd.results15]
  first | (have FRx := FR; clear FRx) | have FR := fr0S
  have FA := Sm.mk (And.intro TFCoP (And.intro k1 (And.intro k2 (And.intro u (And.intro y2 (And.intro y4 y5))))))
  repeat' first | (apply Sm.mk; refine Ys ?_) | refine WP.seq fun K hK => ?_ | (apply Ob.mk; exact Yo) | refine And.intro (Ob.out ?_) ?_ | refine Y1CoP ?_ | (first | refine CallV.fn (c1) (Sm.out ?_) | refine ExF.mk (c1) (Sm.out ?_) | refine ExG.mk (fun _ => c1) (Sm.out ?_) | refine ExG.mkJ (fun _ => c1) (Sm.out ?_) | refine ExG.mkI (Ob.out ?_) (fun _ => c1) (Sm.out ?_)) | (first | refine CallV.fn (c2) (Sm.out ?_) | refine ExF.mk (c2) (Sm.out ?_) | refine ExG.mk (fun _ => c2) (Sm.out ?_) | refine ExG.mkJ (fun _ => c2) (Sm.out ?_) | refine ExG.mkI (Ob.out ?_) (fun _ => c2) (Sm.out ?_)) | (first | refine CallV.fn (c3) (Sm.out ?_) | refine ExF.mk (c3) (Sm.out ?_) | refine ExG.mk (fun _ => c3) (Sm.out ?_) | refine ExG.mkJ (fun _ => c3) (Sm.out ?_) | refine ExG.mkI (Ob.out ?_) (fun _ => c3) (Sm.out ?_)) | (first | refine CallV.fn (c4) (Sm.out ?_) | refine ExF.mk (c4) (Sm.out ?_) | refine ExG.mk (fun _ => c4) (Sm.out ?_) | refine ExG.mkJ (fun _ => c4) (Sm.out ?_) | refine ExG.mkI (Ob.out ?_) (fun _ => c4) (Sm.out ?_)) | (refine CallV.ex (F := []) (List.Perm.refl _) (c5) (fun g => Sm.out ?_)) | (first | refine CallV.fn (cT) (Sm.out ?_) | refine ExF.mk (cT) (Sm.out ?_) | refine ExG.mk (fun _ => cT) (Sm.out ?_) | refine ExG.mkJ (fun _ => cT) (Sm.out ?_) | refine ExG.mkI (Ob.out ?_) (fun _ => cT) (Sm.out ?_)) | (first | refine CallV.fn (cA) (Sm.out ?_) | refine ExF.mk (cA) (Sm.out ?_) | refine ExG.mk (fun _ => cA) (Sm.out ?_) | refine ExG.mkJ (fun _ => cA) (Sm.out ?_) | refine ExG.mkI (Ob.out ?_) (fun _ => cA) (Sm.out ?_)) | refine YzCoP ?_ | (refine WP.cond rfl (fun hc => ?_) (fun hc => ?_) <;> (try simp only [ZC, reduceCtorEq, ZD] at hc) <;> (try exact absurd hc (by decide)) <;> (try (exfalso; omega))) | refine Rt.mk (And.intro (fun hg => Sm.out ?_) fun hg => Sm.out ?_) | (refine Nu.mk ?_; first | (fail_if_success have := nb1); intro nb1 | (fail_if_success have := nb2); intro nb2 | (fail_if_success have := nb3); intro nb3 | (fail_if_success have := nb4); intro nb4 | (fail_if_success have := nb5); intro nb5 | (fail_if_success have := nb6); intro nb6 | (fail_if_success have := nb7); intro nb7 | (fail_if_success have := nb8); intro nb8 | intro nbz) | (apply Yfr; refine Yf FR fun hFRb FR => ?_) | refine Two.mk ?_ ?_ | (apply Yxc; exact Yx) | refine Cs.mk fun hcs => Sm.out ?_ | go_step | omega | (simp only [maxLen_eq]; omega) | exact trivial
  (refine Yg ?_; try exact trivial)
set_option maxRecDepth 8000 in
set_option maxHeartbeats 2000000 in
theorem rread_2 (Z : List Int) (A0 A1 A2 A3 A4 : Int) (tx : ByteArray) (a : Int) (g : Int) (t : Int) (f : Bool)
    (c1 : NumGood Z 0 2 A0) (c2 : GetGood Z A0 2 40000 ⟨0, 0, tx, false⟩ A1) (c3 : GetGood Z A1 1 0 ⟨0, a, ⟨#[]⟩, false⟩ A2) (c4 : NumGood Z A2 g A3) (c5 : NumGood Z A3 t A4) (hf : (A4 == (Z.length : Int)) = f) : RdsTo Z ⟨2, tx, a, g, t, k0, s0⟩ f := by
  have k1 : decide ((2 : Int) < 1) = false := by decide
  have k2 : decide ((2 : Int) > 9) = false := by decide
  have u : IntKind.i64.wrap 2 = 2 := by decide
  have cT : ACt Tryd.prog 25 [iv .i64 2] [] (Fn (bv true)) := rtext_ct 2
  have cA : ACt Tryd.prog 26 [iv .i64 2] [] (Fn (bv true)) := rat_ct 2
  have y2 : ((2 : Int) == 2) = true := rfl
  have y4 : ((2 : Int) == 4) = false := rfl
  have y5 : ((2 : Int) == 5) = false := rfl
  refine ACt.intro Tryd.func15 rfl (by kernel_rfl) (by simp [Tryd.ntmps15]) (fun cx => ?_)
  simp only [argE, Tryd.ntmps15, Tryd.results15]
  first | (have FRx := FR; clear FRx) | have FR := fr0S
  have FA := Sm.mk (And.intro TFCoP (And.intro k1 (And.intro k2 (And.intro u (And.intro y2 (And.intro y4 (And.intro y5 hf)))))))
  repeat' first | (apply Sm.mk; refine Ys ?_) | refine WP.seq fun K hK => ?_ | (apply Ob.mk; exact Yo) | refine And.intro (Ob.out ?_) ?_ | refine Y1CoP ?_ | refine Yc (c := c1) (r := ?_) | refine Yc (c := c2) (r := ?_) | refine Yc (c := c3) (r := ?_) | refine Yc (c := c4) (r := ?_) | refine Yc (c := c5) (r := ?_) | refine Yc (c := cT) (r := ?_) | refine Yc (c := cA) (r := ?_) | refine YzCoP ?_ | (refine WP.cond rfl (fun hc => ?_) (fun hc => ?_) <;> (try simp only [ZC, reduceCtorEq, ZD] at hc) <;> (try exact absurd hc (by decide)) <;> (try (exfalso; omega))) | refine Rt.mk (And.intro (fun hg => Sm.out ?_) fun hg => Sm.out ?_) | (refine Nu.mk ?_; first | (fail_if_success have := nb1); intro nb1 | (fail_if_success have := nb2); intro nb2 | (fail_if_success have := nb3); intro nb3 | (fail_if_success have := nb4); intro nb4 | (fail_if_success have := nb5); intro nb5 | (fail_if_success have := nb6); intro nb6 | (fail_if_success have := nb7); intro nb7 | (fail_if_success have := nb8); intro nb8 | intro nbz) | (apply Yfr; refine Yf FR fun hFRb FR => ?_) | refine Two.mk ?_ ?_ | (apply Yxc; exact Yx) | refine Cs.mk fun hcs => Sm.out ?_ | go_step | omega | (simp only [maxLen_eq]; omega) | exact trivial
  (refine Yg ?_; try exact trivial)
set_option maxRecDepth 8000 in
set_option maxHeartbeats 2000000 in
theorem rread_3f0 (Z : List Int) (A0 : Int) 
    (c1 : NumGood Z 0 3 A0) (c2 : GetBad Z A0 1 0) : RdsTo Z o0 false := by
  have k1 : decide ((3 : Int) < 1) = false := by decide
  have k2 : decide ((3 : Int) > 9) = false := by decide
  have u : IntKind.i64.wrap 3 = 3 := by decide
  have cT : ACt Tryd.prog 25 [iv .i64 3] [] (Fn (bv false)) := rtext_ct 3
  have cA : ACt Tryd.prog 26 [iv .i64 3] [] (Fn (bv true)) := rat_ct 3
  have y2 : ((3 : Int) == 2) = false := rfl
  have y4 : ((3 : Int) == 4) = false := rfl
  have y5 : ((3 : Int) == 5) = false := rfl
  refine ACt.intro Tryd.func15 rfl (by kernel_rfl) (by simp [Tryd.ntmps15]) (fun cx => ?_)
  simp only [argE, Tryd.ntmps15, Tryd.results15]
  first | (have FRx := FR; clear FRx) | have FR := fr0S
  have FA := Sm.mk (And.intro TFCoP (And.intro k1 (And.intro k2 (And.intro u (And.intro y2 (And.intro y4 y5))))))
  repeat' first | (apply Sm.mk; refine Ys ?_) | refine WP.seq fun K hK => ?_ | (apply Ob.mk; exact Yo) | refine And.intro (Ob.out ?_) ?_ | refine Y1CoP ?_ | (first | refine CallV.fn (c1) (Sm.out ?_) | refine ExF.mk (c1) (Sm.out ?_) | refine ExG.mk (fun _ => c1) (Sm.out ?_) | refine ExG.mkJ (fun _ => c1) (Sm.out ?_) | refine ExG.mkI (Ob.out ?_) (fun _ => c1) (Sm.out ?_)) | (refine CallV.ex (F := []) (List.Perm.refl _) (c2) (fun g => Sm.out ?_)) | (first | refine CallV.fn (cT) (Sm.out ?_) | refine ExF.mk (cT) (Sm.out ?_) | refine ExG.mk (fun _ => cT) (Sm.out ?_) | refine ExG.mkJ (fun _ => cT) (Sm.out ?_) | refine ExG.mkI (Ob.out ?_) (fun _ => cT) (Sm.out ?_)) | (first | refine CallV.fn (cA) (Sm.out ?_) | refine ExF.mk (cA) (Sm.out ?_) | refine ExG.mk (fun _ => cA) (Sm.out ?_) | refine ExG.mkJ (fun _ => cA) (Sm.out ?_) | refine ExG.mkI (Ob.out ?_) (fun _ => cA) (Sm.out ?_)) | refine YzCoP ?_ | (refine WP.cond rfl (fun hc => ?_) (fun hc => ?_) <;> (try simp only [ZC, reduceCtorEq, ZD] at hc) <;> (try exact absurd hc (by decide)) <;> (try (exfalso; omega))) | refine Rt.mk (And.intro (fun hg => Sm.out ?_) fun hg => Sm.out ?_) | (refine Nu.mk ?_; first | (fail_if_success have := nb1); intro nb1 | (fail_if_success have := nb2); intro nb2 | (fail_if_success have := nb3); intro nb3 | (fail_if_success have := nb4); intro nb4 | (fail_if_success have := nb5); intro nb5 | (fail_if_success have := nb6); intro nb6 | (fail_if_success have := nb7); intro nb7 | (fail_if_success have := nb8); intro nb8 | intro nbz) | (apply Yfr; refine Yf FR fun hFRb FR => ?_) | refine Two.mk ?_ ?_ | (apply Yxc; exact Yx) | refine Cs.mk fun hcs => Sm.out ?_ | go_step | omega | (simp only [maxLen_eq]; omega) | exact trivial
  (refine Yg ?_; try exact trivial)
set_option maxRecDepth 8000 in
set_option maxHeartbeats 2000000 in
theorem rread_3 (Z : List Int) (A0 A1 : Int) (a : Int) (f : Bool)
    (c1 : NumGood Z 0 3 A0) (c2 : GetGood Z A0 1 0 ⟨0, a, ⟨#[]⟩, false⟩ A1) (hf : (A1 == (Z.length : Int)) = f) : RdsTo Z ⟨3, ⟨#[]⟩, a, 0, 0, k0, s0⟩ f := by
  have k1 : decide ((3 : Int) < 1) = false := by decide
  have k2 : decide ((3 : Int) > 9) = false := by decide
  have u : IntKind.i64.wrap 3 = 3 := by decide
  have cT : ACt Tryd.prog 25 [iv .i64 3] [] (Fn (bv false)) := rtext_ct 3
  have cA : ACt Tryd.prog 26 [iv .i64 3] [] (Fn (bv true)) := rat_ct 3
  have y2 : ((3 : Int) == 2) = false := rfl
  have y4 : ((3 : Int) == 4) = false := rfl
  have y5 : ((3 : Int) == 5) = false := rfl
  refine ACt.intro Tryd.func15 rfl (by kernel_rfl) (by simp [Tryd.ntmps15]) (fun cx => ?_)
  simp only [argE, Tryd.ntmps15, Tryd.results15]
  first | (have FRx := FR; clear FRx) | have FR := fr0S
  have FA := Sm.mk (And.intro TFCoP (And.intro k1 (And.intro k2 (And.intro u (And.intro y2 (And.intro y4 (And.intro y5 hf)))))))
  repeat' first | (apply Sm.mk; refine Ys ?_) | refine WP.seq fun K hK => ?_ | (apply Ob.mk; exact Yo) | refine And.intro (Ob.out ?_) ?_ | refine Y1CoP ?_ | refine Yc (c := c1) (r := ?_) | refine Yc (c := c2) (r := ?_) | refine Yc (c := cT) (r := ?_) | refine Yc (c := cA) (r := ?_) | refine YzCoP ?_ | (refine WP.cond rfl (fun hc => ?_) (fun hc => ?_) <;> (try simp only [ZC, reduceCtorEq, ZD] at hc) <;> (try exact absurd hc (by decide)) <;> (try (exfalso; omega))) | refine Rt.mk (And.intro (fun hg => Sm.out ?_) fun hg => Sm.out ?_) | (refine Nu.mk ?_; first | (fail_if_success have := nb1); intro nb1 | (fail_if_success have := nb2); intro nb2 | (fail_if_success have := nb3); intro nb3 | (fail_if_success have := nb4); intro nb4 | (fail_if_success have := nb5); intro nb5 | (fail_if_success have := nb6); intro nb6 | (fail_if_success have := nb7); intro nb7 | (fail_if_success have := nb8); intro nb8 | intro nbz) | (apply Yfr; refine Yf FR fun hFRb FR => ?_) | refine Two.mk ?_ ?_ | (apply Yxc; exact Yx) | refine Cs.mk fun hcs => Sm.out ?_ | go_step | omega | (simp only [maxLen_eq]; omega) | exact trivial
  (refine Yg ?_; try exact trivial)
set_option maxRecDepth 8000 in
set_option maxHeartbeats 2000000 in
theorem rread_4 (Z : List Int) (A0 A1 : Int) (k : Ky) (is : Bool) (f : Bool)
    (c1 : NumGood Z 0 4 A0) (c2 : ACt Tryd.prog 44 [.slz .u8 Z, iv .i64 A0] [] (Fn (.tup [kv k, iv .i64 A1, bv is]))) (hf : (A1 == (Z.length : Int)) = f) : RdsTo Z (if is = true then ⟨4, ⟨#[]⟩, 0, 0, 0, k, s0⟩ else o0) (is && f) := by
  obtain ⟨kg, kr, kp, ke, ks⟩ := k
  have k1 : decide ((4 : Int) < 1) = false := by decide
  have k2 : decide ((4 : Int) > 9) = false := by decide
  have u : IntKind.i64.wrap 4 = 4 := by decide
  have cT : ACt Tryd.prog 25 [iv .i64 4] [] (Fn (bv false)) := rtext_ct 4
  have cA : ACt Tryd.prog 26 [iv .i64 4] [] (Fn (bv false)) := rat_ct 4
  have y2 : ((4 : Int) == 2) = false := rfl
  have y4 : ((4 : Int) == 4) = true := rfl
  have y5 : ((4 : Int) == 5) = false := rfl
  cases is
  · rw [show (false && f) = false by cases f <;> rfl]
    have e : (if false = true then ⟨4, ⟨#[]⟩, 0, 0, 0, ⟨kg, kr, kp, ke, ks⟩, s0⟩ else o0) = o0 := rfl
    rw [e]
    refine ACt.intro Tryd.func15 rfl (by kernel_rfl) (by simp [Tryd.ntmps15]) (fun cx => ?_)
    simp only [argE, Tryd.ntmps15, Tryd.results15]
    first | (have FRx := FR; clear FRx) | have FR := fr0S
    have FA := Sm.mk (And.intro TFCoP (And.intro k1 (And.intro k2 (And.intro u (And.intro y2 (And.intro y4 (And.intro y5 hf)))))))
    repeat' first | (apply Sm.mk; refine Ys ?_) | refine WP.seq fun K hK => ?_ | (apply Ob.mk; exact Yo) | refine And.intro (Ob.out ?_) ?_ | refine Y1CoP ?_ | refine Yc (c := c1) (r := ?_) | refine Yc (c := c2) (r := ?_) | refine Yc (c := cT) (r := ?_) | refine Yc (c := cA) (r := ?_) | refine YzCoP ?_ | (refine WP.cond rfl (fun hc => ?_) (fun hc => ?_) <;> (try simp only [ZC, reduceCtorEq, ZD] at hc) <;> (try exact absurd hc (by decide)) <;> (try (exfalso; omega))) | refine Rt.mk (And.intro (fun hg => Sm.out ?_) fun hg => Sm.out ?_) | (refine Nu.mk ?_; first | (fail_if_success have := nb1); intro nb1 | (fail_if_success have := nb2); intro nb2 | (fail_if_success have := nb3); intro nb3 | (fail_if_success have := nb4); intro nb4 | (fail_if_success have := nb5); intro nb5 | (fail_if_success have := nb6); intro nb6 | (fail_if_success have := nb7); intro nb7 | (fail_if_success have := nb8); intro nb8 | intro nbz) | (apply Yfr; refine Yf FR fun hFRb FR => ?_) | refine Two.mk ?_ ?_ | (apply Yxc; exact Yx) | refine Cs.mk fun hcs => Sm.out ?_ | go_step | omega | (simp only [maxLen_eq]; omega) | exact trivial
    (refine Yg ?_; try exact trivial)
  · rw [show (true && f) = f by cases f <;> rfl]
    have e : (if true = true then ⟨4, ⟨#[]⟩, 0, 0, 0, ⟨kg, kr, kp, ke, ks⟩, s0⟩ else o0) = ⟨4, ⟨#[]⟩, 0, 0, 0, ⟨kg, kr, kp, ke, ks⟩, s0⟩ := rfl
    rw [e]
    refine ACt.intro Tryd.func15 rfl (by kernel_rfl) (by simp [Tryd.ntmps15]) (fun cx => ?_)
    simp only [argE, Tryd.ntmps15, Tryd.results15]
    first | (have FRx := FR; clear FRx) | have FR := fr0S
    have FA := Sm.mk (And.intro TFCoP (And.intro k1 (And.intro k2 (And.intro u (And.intro y2 (And.intro y4 (And.intro y5 hf)))))))
    repeat' first | (apply Sm.mk; refine Ys ?_) | refine WP.seq fun K hK => ?_ | (apply Ob.mk; exact Yo) | refine And.intro (Ob.out ?_) ?_ | refine Y1CoP ?_ | refine Yc (c := c1) (r := ?_) | refine Yc (c := c2) (r := ?_) | refine Yc (c := cT) (r := ?_) | refine Yc (c := cA) (r := ?_) | refine YzCoP ?_ | (refine WP.cond rfl (fun hc => ?_) (fun hc => ?_) <;> (try simp only [ZC, reduceCtorEq, ZD] at hc) <;> (try exact absurd hc (by decide)) <;> (try (exfalso; omega))) | refine Rt.mk (And.intro (fun hg => Sm.out ?_) fun hg => Sm.out ?_) | (refine Nu.mk ?_; first | (fail_if_success have := nb1); intro nb1 | (fail_if_success have := nb2); intro nb2 | (fail_if_success have := nb3); intro nb3 | (fail_if_success have := nb4); intro nb4 | (fail_if_success have := nb5); intro nb5 | (fail_if_success have := nb6); intro nb6 | (fail_if_success have := nb7); intro nb7 | (fail_if_success have := nb8); intro nb8 | intro nbz) | (apply Yfr; refine Yf FR fun hFRb FR => ?_) | refine Two.mk ?_ ?_ | (apply Yxc; exact Yx) | refine Cs.mk fun hcs => Sm.out ?_ | go_step | omega | (simp only [maxLen_eq]; omega) | exact trivial
    (refine Yg ?_; try exact trivial)
set_option maxRecDepth 8000 in
set_option maxHeartbeats 2000000 in
theorem rread_5 (Z : List Int) (A0 A1 : Int) (s : Sl) (is : Bool) (f : Bool)
    (c1 : NumGood Z 0 5 A0) (c2 : ACt Tryd.prog 45 [.slz .u8 Z, iv .i64 A0] [] (Fn (.tup [siv s, iv .i64 A1, bv is]))) (hf : (A1 == (Z.length : Int)) = f) : RdsTo Z (if is = true then ⟨5, ⟨#[]⟩, 0, 0, 0, k0, s⟩ else o0) (is && f) := by
  obtain ⟨nm, gl, w, sf, t2⟩ := s
  have k1 : decide ((5 : Int) < 1) = false := by decide
  have k2 : decide ((5 : Int) > 9) = false := by decide
  have u : IntKind.i64.wrap 5 = 5 := by decide
  have cT : ACt Tryd.prog 25 [iv .i64 5] [] (Fn (bv false)) := rtext_ct 5
  have cA : ACt Tryd.prog 26 [iv .i64 5] [] (Fn (bv false)) := rat_ct 5
  have y2 : ((5 : Int) == 2) = false := rfl
  have y4 : ((5 : Int) == 4) = false := rfl
  have y5 : ((5 : Int) == 5) = true := rfl
  cases is
  · rw [show (false && f) = false by cases f <;> rfl]
    have e : (if false = true then ⟨5, ⟨#[]⟩, 0, 0, 0, k0, ⟨nm, gl, w, sf, t2⟩⟩ else o0) = o0 := rfl
    rw [e]
    refine ACt.intro Tryd.func15 rfl (by kernel_rfl) (by simp [Tryd.ntmps15]) (fun cx => ?_)
    simp only [argE, Tryd.ntmps15, Tryd.results15]
    first | (have FRx := FR; clear FRx) | have FR := fr0S
    have FA := Sm.mk (And.intro TFCoP (And.intro k1 (And.intro k2 (And.intro u (And.intro y2 (And.intro y4 (And.intro y5 hf)))))))
    repeat' first | (apply Sm.mk; refine Ys ?_) | refine WP.seq fun K hK => ?_ | (apply Ob.mk; exact Yo) | refine And.intro (Ob.out ?_) ?_ | refine Y1CoP ?_ | refine Yc (c := c1) (r := ?_) | refine Yc (c := c2) (r := ?_) | refine Yc (c := cT) (r := ?_) | refine Yc (c := cA) (r := ?_) | refine YzCoP ?_ | (refine WP.cond rfl (fun hc => ?_) (fun hc => ?_) <;> (try simp only [ZC, reduceCtorEq, ZD] at hc) <;> (try exact absurd hc (by decide)) <;> (try (exfalso; omega))) | refine Rt.mk (And.intro (fun hg => Sm.out ?_) fun hg => Sm.out ?_) | (refine Nu.mk ?_; first | (fail_if_success have := nb1); intro nb1 | (fail_if_success have := nb2); intro nb2 | (fail_if_success have := nb3); intro nb3 | (fail_if_success have := nb4); intro nb4 | (fail_if_success have := nb5); intro nb5 | (fail_if_success have := nb6); intro nb6 | (fail_if_success have := nb7); intro nb7 | (fail_if_success have := nb8); intro nb8 | intro nbz) | (apply Yfr; refine Yf FR fun hFRb FR => ?_) | refine Two.mk ?_ ?_ | (apply Yxc; exact Yx) | refine Cs.mk fun hcs => Sm.out ?_ | go_step | omega | (simp only [maxLen_eq]; omega) | exact trivial
    (refine Yg ?_; try exact trivial)
  · rw [show (true && f) = f by cases f <;> rfl]
    have e : (if true = true then ⟨5, ⟨#[]⟩, 0, 0, 0, k0, ⟨nm, gl, w, sf, t2⟩⟩ else o0) = ⟨5, ⟨#[]⟩, 0, 0, 0, k0, ⟨nm, gl, w, sf, t2⟩⟩ := rfl
    rw [e]
    refine ACt.intro Tryd.func15 rfl (by kernel_rfl) (by simp [Tryd.ntmps15]) (fun cx => ?_)
    simp only [argE, Tryd.ntmps15, Tryd.results15]
    first | (have FRx := FR; clear FRx) | have FR := fr0S
    have FA := Sm.mk (And.intro TFCoP (And.intro k1 (And.intro k2 (And.intro u (And.intro y2 (And.intro y4 (And.intro y5 hf)))))))
    repeat' first | (apply Sm.mk; refine Ys ?_) | refine WP.seq fun K hK => ?_ | (apply Ob.mk; exact Yo) | refine And.intro (Ob.out ?_) ?_ | refine Y1CoP ?_ | refine Yc (c := c1) (r := ?_) | refine Yc (c := c2) (r := ?_) | refine Yc (c := cT) (r := ?_) | refine Yc (c := cA) (r := ?_) | refine YzCoP ?_ | (refine WP.cond rfl (fun hc => ?_) (fun hc => ?_) <;> (try simp only [ZC, reduceCtorEq, ZD] at hc) <;> (try exact absurd hc (by decide)) <;> (try (exfalso; omega))) | refine Rt.mk (And.intro (fun hg => Sm.out ?_) fun hg => Sm.out ?_) | (refine Nu.mk ?_; first | (fail_if_success have := nb1); intro nb1 | (fail_if_success have := nb2); intro nb2 | (fail_if_success have := nb3); intro nb3 | (fail_if_success have := nb4); intro nb4 | (fail_if_success have := nb5); intro nb5 | (fail_if_success have := nb6); intro nb6 | (fail_if_success have := nb7); intro nb7 | (fail_if_success have := nb8); intro nb8 | intro nbz) | (apply Yfr; refine Yf FR fun hFRb FR => ?_) | refine Two.mk ?_ ?_ | (apply Yxc; exact Yx) | refine Cs.mk fun hcs => Sm.out ?_ | go_step | omega | (simp only [maxLen_eq]; omega) | exact trivial
    (refine Yg ?_; try exact trivial)
set_option maxRecDepth 8000 in
set_option maxHeartbeats 2000000 in
theorem rread_6f0 (Z : List Int) (A0 : Int) 
    (c1 : NumGood Z 0 6 A0) (c2 : GetBad Z A0 2 40000) : RdsTo Z o0 false := by
  have k1 : decide ((6 : Int) < 1) = false := by decide
  have k2 : decide ((6 : Int) > 9) = false := by decide
  have u : IntKind.i64.wrap 6 = 6 := by decide
  have cT : ACt Tryd.prog 25 [iv .i64 6] [] (Fn (bv true)) := rtext_ct 6
  have cA : ACt Tryd.prog 26 [iv .i64 6] [] (Fn (bv false)) := rat_ct 6
  have y2 : ((6 : Int) == 2) = false := rfl
  have y4 : ((6 : Int) == 4) = false := rfl
  have y5 : ((6 : Int) == 5) = false := rfl
  refine ACt.intro Tryd.func15 rfl (by kernel_rfl) (by simp [Tryd.ntmps15]) (fun cx => ?_)
  simp only [argE, Tryd.ntmps15, Tryd.results15]
  first | (have FRx := FR; clear FRx) | have FR := fr0S
  have FA := Sm.mk (And.intro TFCoP (And.intro k1 (And.intro k2 (And.intro u (And.intro y2 (And.intro y4 y5))))))
  repeat' first | (apply Sm.mk; refine Ys ?_) | refine WP.seq fun K hK => ?_ | (apply Ob.mk; exact Yo) | refine And.intro (Ob.out ?_) ?_ | refine Y1CoP ?_ | (first | refine CallV.fn (c1) (Sm.out ?_) | refine ExF.mk (c1) (Sm.out ?_) | refine ExG.mk (fun _ => c1) (Sm.out ?_) | refine ExG.mkJ (fun _ => c1) (Sm.out ?_) | refine ExG.mkI (Ob.out ?_) (fun _ => c1) (Sm.out ?_)) | (refine CallV.ex (F := []) (List.Perm.refl _) (c2) (fun g => Sm.out ?_)) | (first | refine CallV.fn (cT) (Sm.out ?_) | refine ExF.mk (cT) (Sm.out ?_) | refine ExG.mk (fun _ => cT) (Sm.out ?_) | refine ExG.mkJ (fun _ => cT) (Sm.out ?_) | refine ExG.mkI (Ob.out ?_) (fun _ => cT) (Sm.out ?_)) | (first | refine CallV.fn (cA) (Sm.out ?_) | refine ExF.mk (cA) (Sm.out ?_) | refine ExG.mk (fun _ => cA) (Sm.out ?_) | refine ExG.mkJ (fun _ => cA) (Sm.out ?_) | refine ExG.mkI (Ob.out ?_) (fun _ => cA) (Sm.out ?_)) | refine YzCoP ?_ | (refine WP.cond rfl (fun hc => ?_) (fun hc => ?_) <;> (try simp only [ZC, reduceCtorEq, ZD] at hc) <;> (try exact absurd hc (by decide)) <;> (try (exfalso; omega))) | refine Rt.mk (And.intro (fun hg => Sm.out ?_) fun hg => Sm.out ?_) | (refine Nu.mk ?_; first | (fail_if_success have := nb1); intro nb1 | (fail_if_success have := nb2); intro nb2 | (fail_if_success have := nb3); intro nb3 | (fail_if_success have := nb4); intro nb4 | (fail_if_success have := nb5); intro nb5 | (fail_if_success have := nb6); intro nb6 | (fail_if_success have := nb7); intro nb7 | (fail_if_success have := nb8); intro nb8 | intro nbz) | (apply Yfr; refine Yf FR fun hFRb FR => ?_) | refine Two.mk ?_ ?_ | (apply Yxc; exact Yx) | refine Cs.mk fun hcs => Sm.out ?_ | go_step | omega | (simp only [maxLen_eq]; omega) | exact trivial
  (refine Yg ?_; try exact trivial)
set_option maxRecDepth 8000 in
set_option maxHeartbeats 2000000 in
theorem rread_6 (Z : List Int) (A0 A1 : Int) (tx : ByteArray) (f : Bool)
    (c1 : NumGood Z 0 6 A0) (c2 : GetGood Z A0 2 40000 ⟨0, 0, tx, false⟩ A1) (hf : (A1 == (Z.length : Int)) = f) : RdsTo Z ⟨6, tx, 0, 0, 0, k0, s0⟩ f := by
  have k1 : decide ((6 : Int) < 1) = false := by decide
  have k2 : decide ((6 : Int) > 9) = false := by decide
  have u : IntKind.i64.wrap 6 = 6 := by decide
  have cT : ACt Tryd.prog 25 [iv .i64 6] [] (Fn (bv true)) := rtext_ct 6
  have cA : ACt Tryd.prog 26 [iv .i64 6] [] (Fn (bv false)) := rat_ct 6
  have y2 : ((6 : Int) == 2) = false := rfl
  have y4 : ((6 : Int) == 4) = false := rfl
  have y5 : ((6 : Int) == 5) = false := rfl
  refine ACt.intro Tryd.func15 rfl (by kernel_rfl) (by simp [Tryd.ntmps15]) (fun cx => ?_)
  simp only [argE, Tryd.ntmps15, Tryd.results15]
  first | (have FRx := FR; clear FRx) | have FR := fr0S
  have FA := Sm.mk (And.intro TFCoP (And.intro k1 (And.intro k2 (And.intro u (And.intro y2 (And.intro y4 (And.intro y5 hf)))))))
  repeat' first | (apply Sm.mk; refine Ys ?_) | refine WP.seq fun K hK => ?_ | (apply Ob.mk; exact Yo) | refine And.intro (Ob.out ?_) ?_ | refine Y1CoP ?_ | refine Yc (c := c1) (r := ?_) | refine Yc (c := c2) (r := ?_) | refine Yc (c := cT) (r := ?_) | refine Yc (c := cA) (r := ?_) | refine YzCoP ?_ | (refine WP.cond rfl (fun hc => ?_) (fun hc => ?_) <;> (try simp only [ZC, reduceCtorEq, ZD] at hc) <;> (try exact absurd hc (by decide)) <;> (try (exfalso; omega))) | refine Rt.mk (And.intro (fun hg => Sm.out ?_) fun hg => Sm.out ?_) | (refine Nu.mk ?_; first | (fail_if_success have := nb1); intro nb1 | (fail_if_success have := nb2); intro nb2 | (fail_if_success have := nb3); intro nb3 | (fail_if_success have := nb4); intro nb4 | (fail_if_success have := nb5); intro nb5 | (fail_if_success have := nb6); intro nb6 | (fail_if_success have := nb7); intro nb7 | (fail_if_success have := nb8); intro nb8 | intro nbz) | (apply Yfr; refine Yf FR fun hFRb FR => ?_) | refine Two.mk ?_ ?_ | (apply Yxc; exact Yx) | refine Cs.mk fun hcs => Sm.out ?_ | go_step | omega | (simp only [maxLen_eq]; omega) | exact trivial
  (refine Yg ?_; try exact trivial)
set_option maxRecDepth 8000 in
set_option maxHeartbeats 2000000 in
theorem rread_7f0 (Z : List Int) (A0 : Int) 
    (c1 : NumGood Z 0 7 A0) (c2 : GetBad Z A0 2 40000) : RdsTo Z o0 false := by
  have k1 : decide ((7 : Int) < 1) = false := by decide
  have k2 : decide ((7 : Int) > 9) = false := by decide
  have u : IntKind.i64.wrap 7 = 7 := by decide
  have cT : ACt Tryd.prog 25 [iv .i64 7] [] (Fn (bv true)) := rtext_ct 7
  have cA : ACt Tryd.prog 26 [iv .i64 7] [] (Fn (bv false)) := rat_ct 7
  have y2 : ((7 : Int) == 2) = false := rfl
  have y4 : ((7 : Int) == 4) = false := rfl
  have y5 : ((7 : Int) == 5) = false := rfl
  refine ACt.intro Tryd.func15 rfl (by kernel_rfl) (by simp [Tryd.ntmps15]) (fun cx => ?_)
  simp only [argE, Tryd.ntmps15, Tryd.results15]
  first | (have FRx := FR; clear FRx) | have FR := fr0S
  have FA := Sm.mk (And.intro TFCoP (And.intro k1 (And.intro k2 (And.intro u (And.intro y2 (And.intro y4 y5))))))
  repeat' first | (apply Sm.mk; refine Ys ?_) | refine WP.seq fun K hK => ?_ | (apply Ob.mk; exact Yo) | refine And.intro (Ob.out ?_) ?_ | refine Y1CoP ?_ | (first | refine CallV.fn (c1) (Sm.out ?_) | refine ExF.mk (c1) (Sm.out ?_) | refine ExG.mk (fun _ => c1) (Sm.out ?_) | refine ExG.mkJ (fun _ => c1) (Sm.out ?_) | refine ExG.mkI (Ob.out ?_) (fun _ => c1) (Sm.out ?_)) | (refine CallV.ex (F := []) (List.Perm.refl _) (c2) (fun g => Sm.out ?_)) | (first | refine CallV.fn (cT) (Sm.out ?_) | refine ExF.mk (cT) (Sm.out ?_) | refine ExG.mk (fun _ => cT) (Sm.out ?_) | refine ExG.mkJ (fun _ => cT) (Sm.out ?_) | refine ExG.mkI (Ob.out ?_) (fun _ => cT) (Sm.out ?_)) | (first | refine CallV.fn (cA) (Sm.out ?_) | refine ExF.mk (cA) (Sm.out ?_) | refine ExG.mk (fun _ => cA) (Sm.out ?_) | refine ExG.mkJ (fun _ => cA) (Sm.out ?_) | refine ExG.mkI (Ob.out ?_) (fun _ => cA) (Sm.out ?_)) | refine YzCoP ?_ | (refine WP.cond rfl (fun hc => ?_) (fun hc => ?_) <;> (try simp only [ZC, reduceCtorEq, ZD] at hc) <;> (try exact absurd hc (by decide)) <;> (try (exfalso; omega))) | refine Rt.mk (And.intro (fun hg => Sm.out ?_) fun hg => Sm.out ?_) | (refine Nu.mk ?_; first | (fail_if_success have := nb1); intro nb1 | (fail_if_success have := nb2); intro nb2 | (fail_if_success have := nb3); intro nb3 | (fail_if_success have := nb4); intro nb4 | (fail_if_success have := nb5); intro nb5 | (fail_if_success have := nb6); intro nb6 | (fail_if_success have := nb7); intro nb7 | (fail_if_success have := nb8); intro nb8 | intro nbz) | (apply Yfr; refine Yf FR fun hFRb FR => ?_) | refine Two.mk ?_ ?_ | (apply Yxc; exact Yx) | refine Cs.mk fun hcs => Sm.out ?_ | go_step | omega | (simp only [maxLen_eq]; omega) | exact trivial
  (refine Yg ?_; try exact trivial)
set_option maxRecDepth 8000 in
set_option maxHeartbeats 2000000 in
theorem rread_7 (Z : List Int) (A0 A1 : Int) (tx : ByteArray) (f : Bool)
    (c1 : NumGood Z 0 7 A0) (c2 : GetGood Z A0 2 40000 ⟨0, 0, tx, false⟩ A1) (hf : (A1 == (Z.length : Int)) = f) : RdsTo Z ⟨7, tx, 0, 0, 0, k0, s0⟩ f := by
  have k1 : decide ((7 : Int) < 1) = false := by decide
  have k2 : decide ((7 : Int) > 9) = false := by decide
  have u : IntKind.i64.wrap 7 = 7 := by decide
  have cT : ACt Tryd.prog 25 [iv .i64 7] [] (Fn (bv true)) := rtext_ct 7
  have cA : ACt Tryd.prog 26 [iv .i64 7] [] (Fn (bv false)) := rat_ct 7
  have y2 : ((7 : Int) == 2) = false := rfl
  have y4 : ((7 : Int) == 4) = false := rfl
  have y5 : ((7 : Int) == 5) = false := rfl
  refine ACt.intro Tryd.func15 rfl (by kernel_rfl) (by simp [Tryd.ntmps15]) (fun cx => ?_)
  simp only [argE, Tryd.ntmps15, Tryd.results15]
  first | (have FRx := FR; clear FRx) | have FR := fr0S
  have FA := Sm.mk (And.intro TFCoP (And.intro k1 (And.intro k2 (And.intro u (And.intro y2 (And.intro y4 (And.intro y5 hf)))))))
  repeat' first | (apply Sm.mk; refine Ys ?_) | refine WP.seq fun K hK => ?_ | (apply Ob.mk; exact Yo) | refine And.intro (Ob.out ?_) ?_ | refine Y1CoP ?_ | refine Yc (c := c1) (r := ?_) | refine Yc (c := c2) (r := ?_) | refine Yc (c := cT) (r := ?_) | refine Yc (c := cA) (r := ?_) | refine YzCoP ?_ | (refine WP.cond rfl (fun hc => ?_) (fun hc => ?_) <;> (try simp only [ZC, reduceCtorEq, ZD] at hc) <;> (try exact absurd hc (by decide)) <;> (try (exfalso; omega))) | refine Rt.mk (And.intro (fun hg => Sm.out ?_) fun hg => Sm.out ?_) | (refine Nu.mk ?_; first | (fail_if_success have := nb1); intro nb1 | (fail_if_success have := nb2); intro nb2 | (fail_if_success have := nb3); intro nb3 | (fail_if_success have := nb4); intro nb4 | (fail_if_success have := nb5); intro nb5 | (fail_if_success have := nb6); intro nb6 | (fail_if_success have := nb7); intro nb7 | (fail_if_success have := nb8); intro nb8 | intro nbz) | (apply Yfr; refine Yf FR fun hFRb FR => ?_) | refine Two.mk ?_ ?_ | (apply Yxc; exact Yx) | refine Cs.mk fun hcs => Sm.out ?_ | go_step | omega | (simp only [maxLen_eq]; omega) | exact trivial
  (refine Yg ?_; try exact trivial)
set_option maxRecDepth 8000 in
set_option maxHeartbeats 2000000 in
theorem rread_8 (Z : List Int) (A0 : Int)  (f : Bool)
    (c1 : NumGood Z 0 8 A0) (hf : (A0 == (Z.length : Int)) = f) : RdsTo Z ⟨8, ⟨#[]⟩, 0, 0, 0, k0, s0⟩ f := by
  have k1 : decide ((8 : Int) < 1) = false := by decide
  have k2 : decide ((8 : Int) > 9) = false := by decide
  have u : IntKind.i64.wrap 8 = 8 := by decide
  have cT : ACt Tryd.prog 25 [iv .i64 8] [] (Fn (bv false)) := rtext_ct 8
  have cA : ACt Tryd.prog 26 [iv .i64 8] [] (Fn (bv false)) := rat_ct 8
  have y2 : ((8 : Int) == 2) = false := rfl
  have y4 : ((8 : Int) == 4) = false := rfl
  have y5 : ((8 : Int) == 5) = false := rfl
  refine ACt.intro Tryd.func15 rfl (by kernel_rfl) (by simp [Tryd.ntmps15]) (fun cx => ?_)
  simp only [argE, Tryd.ntmps15, Tryd.results15]
  first | (have FRx := FR; clear FRx) | have FR := fr0S
  have FA := Sm.mk (And.intro TFCoP (And.intro k1 (And.intro k2 (And.intro u (And.intro y2 (And.intro y4 (And.intro y5 hf)))))))
  repeat' first | (apply Sm.mk; refine Ys ?_) | refine WP.seq fun K hK => ?_ | (apply Ob.mk; exact Yo) | refine And.intro (Ob.out ?_) ?_ | refine Y1CoP ?_ | refine Yc (c := c1) (r := ?_) | refine Yc (c := cT) (r := ?_) | refine Yc (c := cA) (r := ?_) | refine YzCoP ?_ | (refine WP.cond rfl (fun hc => ?_) (fun hc => ?_) <;> (try simp only [ZC, reduceCtorEq, ZD] at hc) <;> (try exact absurd hc (by decide)) <;> (try (exfalso; omega))) | refine Rt.mk (And.intro (fun hg => Sm.out ?_) fun hg => Sm.out ?_) | (refine Nu.mk ?_; first | (fail_if_success have := nb1); intro nb1 | (fail_if_success have := nb2); intro nb2 | (fail_if_success have := nb3); intro nb3 | (fail_if_success have := nb4); intro nb4 | (fail_if_success have := nb5); intro nb5 | (fail_if_success have := nb6); intro nb6 | (fail_if_success have := nb7); intro nb7 | (fail_if_success have := nb8); intro nb8 | intro nbz) | (apply Yfr; refine Yf FR fun hFRb FR => ?_) | refine Two.mk ?_ ?_ | (apply Yxc; exact Yx) | refine Cs.mk fun hcs => Sm.out ?_ | go_step | omega | (simp only [maxLen_eq]; omega) | exact trivial
  (refine Yg ?_; try exact trivial)
set_option maxRecDepth 8000 in
set_option maxHeartbeats 2000000 in
theorem rread_9 (Z : List Int) (A0 : Int)  (f : Bool)
    (c1 : NumGood Z 0 9 A0) (hf : (A0 == (Z.length : Int)) = f) : RdsTo Z ⟨9, ⟨#[]⟩, 0, 0, 0, k0, s0⟩ f := by
  have k1 : decide ((9 : Int) < 1) = false := by decide
  have k2 : decide ((9 : Int) > 9) = false := by decide
  have u : IntKind.i64.wrap 9 = 9 := by decide
  have cT : ACt Tryd.prog 25 [iv .i64 9] [] (Fn (bv false)) := rtext_ct 9
  have cA : ACt Tryd.prog 26 [iv .i64 9] [] (Fn (bv false)) := rat_ct 9
  have y2 : ((9 : Int) == 2) = false := rfl
  have y4 : ((9 : Int) == 4) = false := rfl
  have y5 : ((9 : Int) == 5) = false := rfl
  refine ACt.intro Tryd.func15 rfl (by kernel_rfl) (by simp [Tryd.ntmps15]) (fun cx => ?_)
  simp only [argE, Tryd.ntmps15, Tryd.results15]
  first | (have FRx := FR; clear FRx) | have FR := fr0S
  have FA := Sm.mk (And.intro TFCoP (And.intro k1 (And.intro k2 (And.intro u (And.intro y2 (And.intro y4 (And.intro y5 hf)))))))
  repeat' first | (apply Sm.mk; refine Ys ?_) | refine WP.seq fun K hK => ?_ | (apply Ob.mk; exact Yo) | refine And.intro (Ob.out ?_) ?_ | refine Y1CoP ?_ | refine Yc (c := c1) (r := ?_) | refine Yc (c := cT) (r := ?_) | refine Yc (c := cA) (r := ?_) | refine YzCoP ?_ | (refine WP.cond rfl (fun hc => ?_) (fun hc => ?_) <;> (try simp only [ZC, reduceCtorEq, ZD] at hc) <;> (try exact absurd hc (by decide)) <;> (try (exfalso; omega))) | refine Rt.mk (And.intro (fun hg => Sm.out ?_) fun hg => Sm.out ?_) | (refine Nu.mk ?_; first | (fail_if_success have := nb1); intro nb1 | (fail_if_success have := nb2); intro nb2 | (fail_if_success have := nb3); intro nb3 | (fail_if_success have := nb4); intro nb4 | (fail_if_success have := nb5); intro nb5 | (fail_if_success have := nb6); intro nb6 | (fail_if_success have := nb7); intro nb7 | (fail_if_success have := nb8); intro nb8 | intro nbz) | (apply Yfr; refine Yf FR fun hFRb FR => ?_) | refine Two.mk ?_ ?_ | (apply Yxc; exact Yx) | refine Cs.mk fun hcs => Sm.out ?_ | go_step | omega | (simp only [maxLen_eq]; omega) | exact trivial
  (refine Yg ?_; try exact trivial)
end Go.Proofs.YtpidkkgjgichdaaDoor
