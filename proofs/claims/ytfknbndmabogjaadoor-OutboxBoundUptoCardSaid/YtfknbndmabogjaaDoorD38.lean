/-
  The walks and the laws that the statement leans on, part 38.
-/
import Derived.Test.YtfknbndmabogjaaDoorD9
import Derived.Test.YtfknbndmabogjaaDoorD33
namespace Go.Proofs.YtfknbndmabogjaaDoor
open Go
set_option linter.unusedVariables false
set_option linter.unusedSimpArgs false
set_option linter.defProp false
def TFOuBA :=
  And.intro (And.intro (And.intro (And.intro (And.intro tyc0 tyc2) (And.intro zmb2 tyc3)) (And.intro (And.intro zmb3 tyc4) (And.intro zmb4 tyc25))) (And.intro (And.intro (And.intro zmb25 tyc34) (And.intro zmb34 tyc66)) (And.intro (And.intro foff66_0 fpart66_0) (And.intro foff66_1 fpart66_1)))) (And.intro (And.intro (And.intro (And.intro fe66 zmb66) (And.intro bldT66 tyc67)) (And.intro (And.intro tyc135 tyc150) (And.intro zmb150 Tryd.underlying0))) (And.intro (And.intro (And.intro Tryd.underlying2 Tryd.underlying3) (And.intro Tryd.underlying4 Tryd.underlying25)) (And.intro (And.intro Tryd.underlying34 Tryd.underlying66) (And.intro Tryd.underlying67 (And.intro Tryd.underlying135 Tryd.underlying150)))))
theorem Y1OuBA {G R : Prop} (r : R) (h : R → G := by intro r; first | (apply WP.region; exact rvc_sound _ _ (Sm.out r)) | exact WP.drawP (ia := 10) (is := 11) (k := 13) mixed (by decide +kernel) (by decide +kernel) (Sm.out r) | exact WP.drawP (ia := 12) (is := 13) (k := 15) mixed (by decide +kernel) (by decide +kernel) (Sm.out r) | exact WP.drawK rfl mixed (by decide +kernel) (Sm.out r) | (apply WP.block; exact r) | (apply WP.skip; exact Yq r) | (apply WP.exit; exact Yq r) | (apply WP.ret; exact Sm.out r) | exact WP.cond rfl (fun _ => r) (fun hg => absurd hg (by decide)) | exact WP.cond rfl (fun hg => absurd hg (by decide)) (fun _ => r) | exact Rt.mk (And.intro (fun _ => Sm.out r) fun hg => absurd hg (by decide)) | exact Rt.mk (And.intro (fun hg => absurd hg (by decide)) fun _ => Sm.out r)) : G := h r
theorem YzOuBA {G R : Prop} (r : R) (h : R → G := by intro r; first | (apply ExG.no; exact Sm.out r) | (apply Or.inl; apply ExG.no; exact Sm.out r) | exact Or.inl (And.intro (fun hg => absurd hg (by decide)) (ExG.no (Sm.out r)))) : G := h r
def totN (f m : Nat) : Nat → Nat
  | 0 => 0
  | n + 1 => totN f m n + waitN f m n
theorem totN_closed {f m : Nat} (hf : 1 ≤ f) (hm : 1 ≤ m) : ∀ n, totN f m n = f * (2 ^ min n (dub f m) - 1) + (n - min n (dub f m)) * m
  | 0 => by simp [totN]
  | n + 1 => by
    rw [totN, totN_closed hf hm n, waitN_dub hf hm]
    by_cases h : dub f m ≤ n
    · rw [if_pos h, show min n (dub f m) = dub f m by omega, show min (n + 1) (dub f m) = dub f m by omega, show n + 1 - dub f m = (n - dub f m) + 1 by omega, Nat.add_mul]; omega
    · rw [if_neg h, show min n (dub f m) = n by omega, show min (n + 1) (dub f m) = n + 1 by omega, Nat.sub_self, Nat.sub_self, Nat.pow_succ]
      have := Nat.two_pow_pos n
      have e : f * (2 ^ n * 2 - 1) = f * (2 ^ n - 1) + f * 2 ^ n := by rw [← Nat.mul_add]; congr 1; omega
      omega
theorem totN_bd {f m : Nat} : ∀ n, totN f m n ≤ n * m
  | 0 => by simp [totN]
  | n + 1 => by
    have := totN_bd (f := f) (m := m) n
    have h : waitN f m n ≤ m := by unfold waitN; split <;> omega
    rw [totN, Nat.add_mul]; omega
theorem ofInt_nat (n : Nat) : BitVec.ofInt 64 (n : Int) = BitVec.ofNat 64 n := by
  apply BitVec.eq_of_toNat_eq; simp
theorem and_low32 (x : Nat) (h : x < 18446744073709551616) : ibit .and .u64 (x : Int) 4294967295 = ((x % 4294967296 : Nat) : Int) := by
  have e : ibit .and .u64 (x : Int) 4294967295 = IntKind.u64.wrap ((BitVec.ofInt 64 (x : Int) &&& BitVec.ofInt 64 ((4294967295 : Nat) : Int)).toNat : Int) := rfl
  rw [e, ofInt_nat, ofInt_nat, BitVec.toNat_and, BitVec.toNat_ofNat, BitVec.toNat_ofNat, Nat.mod_eq_of_lt h, show (4294967295 : Nat) % 2 ^ 64 = 2 ^ 32 - 1 from by decide, Nat.and_two_pow_sub_one_eq_mod]
  exact wrap_u64_nat (by omega)
theorem mul_le_sq {a b : Nat} (ha : a ≤ 4294967295) (hb : b ≤ 4294967295) : a * b ≤ 18446744065119617025 := Nat.mul_le_mul ha hb
theorem mul_parts (x y : Nat) (hx : x < 18446744073709551616) (hy : y < 18446744073709551616) :
    let x0 := x % 4294967296; let x1 := x / 4294967296; let y0 := y % 4294967296; let y1 := y / 4294967296
    let t := x1 * y0 + x0 * y0 / 4294967296
    let w1 := t % 4294967296 + x0 * y1
    x0 * y0 < 18446744073709551616 ∧ x1 * y0 < 18446744073709551616 ∧ t < 18446744073709551616 ∧ x0 * y1 < 18446744073709551616 ∧ w1 < 18446744073709551616 ∧ x1 * y1 < 18446744073709551616 ∧ x1 * y1 + t / 4294967296 < 18446744073709551616 ∧
    x1 * y1 + t / 4294967296 + w1 / 4294967296 = x * y / 18446744073709551616 ∧ x * y / 18446744073709551616 < 18446744073709551616 := by
  intro x0 x1 y0 y1 t w1
  have b1 : x0 * y0 ≤ _ := mul_le_sq (show x0 ≤ 4294967295 by omega) (show y0 ≤ 4294967295 by omega)
  have b2 : x1 * y0 ≤ _ := mul_le_sq (show x1 ≤ 4294967295 by omega) (show y0 ≤ 4294967295 by omega)
  have b3 : x0 * y1 ≤ _ := mul_le_sq (show x0 ≤ 4294967295 by omega) (show y1 ≤ 4294967295 by omega)
  have b4 : x1 * y1 ≤ _ := mul_le_sq (show x1 ≤ 4294967295 by omega) (show y1 ≤ 4294967295 by omega)
  have e : x * y = x1 * y1 * 18446744073709551616 + (x1 * y0 + x0 * y1) * 4294967296 + x0 * y0 := by
    have ex : x = x1 * 4294967296 + x0 := by omega
    have ey : y = y1 * 4294967296 + y0 := by omega
    conv => lhs; rw [ex, ey]
    rw [Nat.add_mul, Nat.mul_add, Nat.mul_add, Nat.add_mul]
    have c1 : x1 * 4294967296 * (y1 * 4294967296) = x1 * y1 * 18446744073709551616 := by
      rw [Nat.mul_mul_mul_comm]
    have c2 : x1 * 4294967296 * y0 = x1 * y0 * 4294967296 := by rw [Nat.mul_right_comm]
    have c3 : x0 * (y1 * 4294967296) = x0 * y1 * 4294967296 := by rw [Nat.mul_assoc]
    omega
  have ht : t = x1 * y0 + x0 * y0 / 4294967296 := rfl
  have hw : w1 = t % 4294967296 + x0 * y1 := rfl
  clear_value x0 x1 y0 y1 t w1
  generalize x0 * y0 = p at *
  generalize x1 * y0 = q at *
  generalize x0 * y1 = r at *
  generalize x1 * y1 = s at *
  generalize x * y = z at *
  refine ⟨?_, ?_, ?_, ?_, ?_, ?_, ?_, ?_, ?_⟩ <;> omega
abbrev wideA (n : Nat) : AV := .agg [nu (n / 18446744073709551616), nu (n % 18446744073709551616)]
theorem add64_ct (x y c : Nat) (hc : c ≤ 1) : ACt Tryd.prog 95 [nu x, nu y, nu c] [] (Fn (.tup [nu ((x + y + c) % 18446744073709551616), nu ((x + y + c) / 18446744073709551616)])) := by
  refine ACt.outer (ls := [.int .u64 x, .int .u64 y, .int .u64 c]) (e := add64Entry) Tryd.func95 (by kernel_rfl) rfl (by kernel_rfl) (by kernel_rfl) fun w => ?_
  refine ⟨_, run_add64 x y c (by omega) (by omega) (by omega) (by omega) w, fun I => ?_⟩
  have e1 : ((x : Int) + y + c) % 18446744073709551616 = (((x + y + c) % 18446744073709551616 : Nat) : Int) := by omega
  have e2 : ((x : Int) + y + c) / 18446744073709551616 = (((x + y + c) / 18446744073709551616 : Nat) : Int) := by omega
  rw [e1, e2]
  exact Rep.tup _ _ rfl (fun j hj => by match j, hj with | 0, _ => exact Rep.lit _ | 1, _ => exact Rep.lit _)
set_option maxHeartbeats 1000000 in
set_option maxRecDepth 8000 in
theorem mul64_ct (x y : Nat) (hx : x < 18446744073709551616) (hy : y < 18446744073709551616) : ACt Tryd.prog 96 [nu x, nu y] [] (Fn (.tup [nu (x * y / 18446744073709551616), nu (x * y % 18446744073709551616)])) := by
  refine ACt.intro Tryd.func96 rfl (by kernel_rfl) (by simp [Tryd.ntmps96]) (fun cx => ?_)
  simp only [argE, Tryd.ntmps96, Tryd.results96]
  obtain ⟨h1, h2, h3, h4, h5, h6, h7, h8, h9⟩ := mul_parts x y hx hy
  have c0 := and_low32 x hx
  have c1 := and_low32 y hy
  have s : ∀ n : Nat, (n : Int).fdiv 4294967296 = ((n / 4294967296 : Nat) : Int) := fun n => by rw [Int.fdiv_eq_ediv_of_nonneg _ (by omega)]; simp
  have m1 : IntKind.u64.wrap (((x % 4294967296 : Nat) : Int) * ((y % 4294967296 : Nat) : Int)) = ((x % 4294967296 * (y % 4294967296) : Nat) : Int) := by rw [← Int.natCast_mul, wrap_u64_nat h1]
  have m2 : IntKind.u64.wrap (((x / 4294967296 : Nat) : Int) * ((y % 4294967296 : Nat) : Int)) = ((x / 4294967296 * (y % 4294967296) : Nat) : Int) := by rw [← Int.natCast_mul, wrap_u64_nat h2]
  have m3 : IntKind.u64.wrap (((x % 4294967296 : Nat) : Int) * ((y / 4294967296 : Nat) : Int)) = ((x % 4294967296 * (y / 4294967296) : Nat) : Int) := by rw [← Int.natCast_mul, wrap_u64_nat h4]
  have m4 : IntKind.u64.wrap (((x / 4294967296 : Nat) : Int) * ((y / 4294967296 : Nat) : Int)) = ((x / 4294967296 * (y / 4294967296) : Nat) : Int) := by rw [← Int.natCast_mul, wrap_u64_nat h6]
  have m5 : IntKind.u64.wrap ((x : Int) * (y : Int)) = ((x * y % 18446744073709551616 : Nat) : Int) := by rw [← Int.natCast_mul, wrap_u64_big]
  first | (have FRx := FR; clear FRx) | have FR := fr0S
  have FA := Sm.mk (And.intro TFOuBA (And.intro c0 (And.intro c1 (And.intro s m1))))
  repeat' first | (apply Sm.mk; refine Ys ?_) | refine WP.seq fun K hK => ?_ | (apply Ob.mk; exact Yo) | refine And.intro (Ob.out ?_) ?_ | ((fail_if_success (show WP _ _ _ (.region 6 _ _) _ _)); refine Y1OuBA ?_) | refine YzOuBA ?_ | (refine WP.cond rfl (fun hc => ?_) (fun hc => ?_) <;> (try simp only [ZC, reduceCtorEq, ZD] at hc) <;> (try exact absurd hc (by decide)) <;> (try (exfalso; omega))) | refine Rt.mk (And.intro (fun hg => Sm.out ?_) fun hg => Sm.out ?_) | (refine Nu.mk ?_; first | (fail_if_success have := nb1); intro nb1 | (fail_if_success have := nb2); intro nb2 | (fail_if_success have := nb3); intro nb3 | (fail_if_success have := nb4); intro nb4 | (fail_if_success have := nb5); intro nb5 | (fail_if_success have := nb6); intro nb6 | intro nbz) | (apply Yfr; refine Yf FR fun hFRb FR => ?_) | refine Two.mk ?_ ?_ | (apply Yxc; exact Yx) | refine Cs.mk fun hcs => Sm.out ?_ | go_step | omega | (simp only [maxLen_eq]; omega) | exact trivial
  have a1 : IntKind.u64.wrap (((x / 4294967296 * (y % 4294967296) : Nat) : Int) + ((x % 4294967296 * (y % 4294967296) / 4294967296 : Nat) : Int)) = ((x / 4294967296 * (y % 4294967296) + x % 4294967296 * (y % 4294967296) / 4294967296 : Nat) : Int) := by rw [← Int.natCast_add, wrap_u64_nat h3]
  have c2 := and_low32 _ h3
  first | (have FRx := FR; clear FRx) | have FR := fr0S
  have FA := Sm.mk (And.intro TFOuBA (And.intro s (And.intro m2 (And.intro a1 c2))))
  repeat' first | (apply Sm.mk; refine Ys ?_) | refine WP.seq fun K hK => ?_ | (apply Ob.mk; exact Yo) | refine And.intro (Ob.out ?_) ?_ | ((fail_if_success (show WP _ _ _ (.region 9 _ _) _ _)); refine Y1OuBA ?_) | refine YzOuBA ?_ | (refine WP.cond rfl (fun hc => ?_) (fun hc => ?_) <;> (try simp only [ZC, reduceCtorEq, ZD] at hc) <;> (try exact absurd hc (by decide)) <;> (try (exfalso; omega))) | refine Rt.mk (And.intro (fun hg => Sm.out ?_) fun hg => Sm.out ?_) | (refine Nu.mk ?_; first | (fail_if_success have := nb1); intro nb1 | (fail_if_success have := nb2); intro nb2 | (fail_if_success have := nb3); intro nb3 | (fail_if_success have := nb4); intro nb4 | (fail_if_success have := nb5); intro nb5 | (fail_if_success have := nb6); intro nb6 | intro nbz) | (apply Yfr; refine Yf FR fun hFRb FR => ?_) | refine Two.mk ?_ ?_ | (apply Yxc; exact Yx) | refine Cs.mk fun hcs => Sm.out ?_ | go_step | omega | (simp only [maxLen_eq]; omega) | exact trivial
  have a2 : IntKind.u64.wrap ((((x / 4294967296 * (y % 4294967296) + x % 4294967296 * (y % 4294967296) / 4294967296) % 4294967296 : Nat) : Int) + ((x % 4294967296 * (y / 4294967296) : Nat) : Int)) = (((x / 4294967296 * (y % 4294967296) + x % 4294967296 * (y % 4294967296) / 4294967296) % 4294967296 + x % 4294967296 * (y / 4294967296) : Nat) : Int) := by rw [← Int.natCast_add, wrap_u64_nat h5]
  have a3 : IntKind.u64.wrap (((x / 4294967296 * (y / 4294967296) : Nat) : Int) + (((x / 4294967296 * (y % 4294967296) + x % 4294967296 * (y % 4294967296) / 4294967296) / 4294967296 : Nat) : Int)) = ((x / 4294967296 * (y / 4294967296) + (x / 4294967296 * (y % 4294967296) + x % 4294967296 * (y % 4294967296) / 4294967296) / 4294967296 : Nat) : Int) := by rw [← Int.natCast_add, wrap_u64_nat h7]
  have a4 : IntKind.u64.wrap (((x / 4294967296 * (y / 4294967296) + (x / 4294967296 * (y % 4294967296) + x % 4294967296 * (y % 4294967296) / 4294967296) / 4294967296 : Nat) : Int) + ((((x / 4294967296 * (y % 4294967296) + x % 4294967296 * (y % 4294967296) / 4294967296) % 4294967296 + x % 4294967296 * (y / 4294967296)) / 4294967296 : Nat) : Int)) = ((x * y / 18446744073709551616 : Nat) : Int) := by
    rw [← Int.natCast_add, h8, wrap_u64_nat h9]
  first | (have FRx := FR; clear FRx) | have FR := fr0S
  have FA := Sm.mk (And.intro TFOuBA (And.intro s (And.intro m3 (And.intro m4 (And.intro m5 (And.intro a2 (And.intro a3 a4)))))))
  repeat' first | (apply Sm.mk; refine Ys ?_) | refine WP.seq fun K hK => ?_ | (apply Ob.mk; exact Yo) | refine And.intro (Ob.out ?_) ?_ | refine Y1OuBA ?_ | refine YzOuBA ?_ | (refine WP.cond rfl (fun hc => ?_) (fun hc => ?_) <;> (try simp only [ZC, reduceCtorEq, ZD] at hc) <;> (try exact absurd hc (by decide)) <;> (try (exfalso; omega))) | refine Rt.mk (And.intro (fun hg => Sm.out ?_) fun hg => Sm.out ?_) | (refine Nu.mk ?_; first | (fail_if_success have := nb1); intro nb1 | (fail_if_success have := nb2); intro nb2 | (fail_if_success have := nb3); intro nb3 | (fail_if_success have := nb4); intro nb4 | (fail_if_success have := nb5); intro nb5 | (fail_if_success have := nb6); intro nb6 | intro nbz) | (apply Yfr; refine Yf FR fun hFRb FR => ?_) | refine Two.mk ?_ ?_ | (apply Yxc; exact Yx) | refine Cs.mk fun hcs => Sm.out ?_ | (apply Yog; refine Yg ?_; exact trivial) | go_step | omega | (simp only [maxLen_eq]; omega) | exact trivial
set_option maxRecDepth 8000 in
theorem times_ct (x y : Nat) (hx : x < 18446744073709551616) (hy : y < 18446744073709551616) : ACt Tryd.prog 73 [nu x, nu y] [] (Fn (wideA (x * y))) := by
  have cM := mul64_ct x y hx hy
  refine ACt.intro Tryd.func73 rfl (by kernel_rfl) (by simp [Tryd.ntmps73]) (fun cx => ?_)
  simp only [argE, Tryd.ntmps73, Tryd.results73]
  first | (have FRx := FR; clear FRx) | have FR := fr0S
  have FA := Sm.mk (TFOuBA)
  repeat' first | (apply Sm.mk; refine Ys ?_) | refine WP.seq fun K hK => ?_ | (apply Ob.mk; exact Yo) | refine And.intro (Ob.out ?_) ?_ | refine Y1OuBA ?_ | refine Yc (c := cM) (r := ?_) | refine YzOuBA ?_ | (refine WP.cond rfl (fun hc => ?_) (fun hc => ?_) <;> (try simp only [ZC, reduceCtorEq, ZD] at hc) <;> (try exact absurd hc (by decide)) <;> (try (exfalso; omega))) | refine Rt.mk (And.intro (fun hg => Sm.out ?_) fun hg => Sm.out ?_) | (refine Nu.mk ?_; first | (fail_if_success have := nb1); intro nb1 | (fail_if_success have := nb2); intro nb2 | (fail_if_success have := nb3); intro nb3 | (fail_if_success have := nb4); intro nb4 | (fail_if_success have := nb5); intro nb5 | (fail_if_success have := nb6); intro nb6 | intro nbz) | (apply Yfr; refine Yf FR fun hFRb FR => ?_) | refine Two.mk ?_ ?_ | (apply Yxc; exact Yx) | refine Cs.mk fun hcs => Sm.out ?_ | (apply Yog; refine Yg ?_; exact trivial) | go_step | omega | (simp only [maxLen_eq]; omega) | exact trivial
set_option maxRecDepth 8000 in
theorem add_ct (ah al bh bl : Nat) (h1 : ah < 18446744073709551616) (h2 : al < 18446744073709551616) (h3 : bh < 18446744073709551616) (h4 : bl < 18446744073709551616)
    (hn : ah * 18446744073709551616 + al + (bh * 18446744073709551616 + bl) < 340282366920938463463374607431768211456) :
    ACt Tryd.prog 72 [.agg [nu ah, nu al], .agg [nu bh, nu bl]] [] (Fn (.tup [wideA (ah * 18446744073709551616 + al + (bh * 18446744073709551616 + bl)), iv .i64 0])) := by
  refine ACt.intro Tryd.func72 rfl (by kernel_rfl) (by simp [Tryd.ntmps72]) (fun cx => ?_)
  simp only [argE, Tryd.ntmps72, Tryd.results72]
  have c1 := add64_ct al bl 0 (by omega)
  have c2 := add64_ct ah bh ((al + bl + 0) / 18446744073709551616) (by omega)
  have z : (((ah + bh + (al + bl + 0) / 18446744073709551616) / 18446744073709551616 : Nat) : Int) = 0 := by omega
  have e1 : (ah * 18446744073709551616 + al + (bh * 18446744073709551616 + bl)) / 18446744073709551616 = (ah + bh + (al + bl + 0) / 18446744073709551616) % 18446744073709551616 := by omega
  have e2 : (ah * 18446744073709551616 + al + (bh * 18446744073709551616 + bl)) % 18446744073709551616 = (al + bl + 0) % 18446744073709551616 := by omega
  have zz : ((0 : Int) != 0) = false := by decide
  first | (have FRx := FR; clear FRx) | have FR := fr0S
  have FA := Sm.mk (And.intro TFOuBA (And.intro z (And.intro zz (And.intro e1 e2))))
  repeat' first | (apply Sm.mk; refine Ys ?_) | refine WP.seq fun K hK => ?_ | (apply Ob.mk; exact Yo) | refine And.intro (Ob.out ?_) ?_ | refine Y1OuBA ?_ | refine Yc (c := c1) (r := ?_) | refine Yc (c := c2) (r := ?_) | refine YzOuBA ?_ | (refine WP.cond rfl (fun hc => ?_) (fun hc => ?_) <;> (try simp only [ZC, reduceCtorEq, ZD] at hc) <;> (try exact absurd hc (by decide)) <;> (try (exfalso; omega))) | refine Rt.mk (And.intro (fun hg => Sm.out ?_) fun hg => Sm.out ?_) | (refine Nu.mk ?_; first | (fail_if_success have := nb1); intro nb1 | (fail_if_success have := nb2); intro nb2 | (fail_if_success have := nb3); intro nb3 | (fail_if_success have := nb4); intro nb4 | (fail_if_success have := nb5); intro nb5 | (fail_if_success have := nb6); intro nb6 | intro nbz) | (apply Yfr; refine Yf FR fun hFRb FR => ?_) | refine Two.mk ?_ ?_ | (apply Yxc; exact Yx) | refine Cs.mk fun hcs => Sm.out ?_ | (apply Yog; refine Yg ?_; exact trivial) | go_step | omega | (simp only [maxLen_eq]; omega) | exact trivial
theorem dub_small (f m : Nat) (hf : 1 ≤ f) (hm : 1 ≤ m) (hm2 : m < 9223372036854775808) : dub f m ≤ 63 :=
  (dub_le hf hm).2 (by have := Nat.mul_le_mul_right (2 ^ 63) hf; omega)
theorem head_bd {f m k : Nat} (hf : 1 ≤ f) (hm : f ≤ m) (hm2 : m < 9223372036854775808) (hk : k ≤ 63) : 2 ^ k - 1 < 9223372036854775808 ∧ f * (2 ^ k - 1) ≤ 85070591730234615847396907784232501249 := by
  have h1 : 2 ^ k ≤ 2 ^ 63 := Nat.pow_le_pow_right (by omega) hk
  have h2 : f * (2 ^ k - 1) ≤ 9223372036854775807 * 9223372036854775807 := Nat.mul_le_mul (by omega) (by omega)
  omega
set_option maxHeartbeats 1000000 in
set_option maxRecDepth 8000 in
theorem total_ct (f m n : Nat) (hf : 1 ≤ f) (hm : f ≤ m) (hm2 : m < 9223372036854775808) (hn2 : n < 9223372036854775808) :
    ACt Tryd.prog 71 [iv .i64 f, iv .i64 m, iv .i64 n] [] (Fn (.tup [wideA (totN f m n), iv .i64 0])) := by
  refine ACt.intro Tryd.func71 rfl (by kernel_rfl) (by simp [Tryd.ntmps71]) (fun cx => ?_)
  simp only [argE, Tryd.ntmps71, Tryd.results71]
  have k1 : (decide ((f : Int) ≥ 1) && decide ((m : Int) ≥ f)) = true := by simp; omega
  have k2 : decide ((n : Int) < 0) = false := by simp
  have hd := dub_small f m hf (by omega) hm2
  obtain ⟨k, hk⟩ : ∃ k, k = min n (dub f m) := ⟨_, rfl⟩
  have hmin : (if ((dub f m : Nat) : Int) < (n : Int) then ((dub f m : Nat) : Int) else (n : Int)) = (k : Int) := by rw [hk]; split <;> omega
  have hk63 : k ≤ 63 := by omega
  obtain ⟨b1, b2⟩ := head_bd hf hm hm2 hk63
  have hp := Nat.two_pow_pos k
  have e0 : IntKind.u64.wrap (f : Int) = f := wrap_u64_nat (by omega)
  have e1 : IntKind.u64.wrap (m : Int) = m := wrap_u64_nat (by omega)
  have e2 : IntKind.u64.wrap (1 * 2 ^ (min (k : Int).toNat 64)) = ((2 ^ k : Nat) : Int) := by
    rw [Int.toNat_natCast, Nat.min_eq_left (by omega), Int.one_mul]
    have : (2 : Int) ^ k = ((2 ^ k : Nat) : Int) := by simp
    rw [this, wrap_u64_nat (by omega)]
  have e2' : IntKind.u64.wrap (1 * 2 ^ k) = ((2 ^ k : Nat) : Int) := by rw [← e2, Int.toNat_natCast, Nat.min_eq_left (by omega)]
  have e2'' : IntKind.u64.wrap (2 ^ k) = ((2 ^ k : Nat) : Int) := by rw [← e2', Int.one_mul]
  have e3 : IntKind.u64.wrap (((2 ^ k : Nat) : Int) - 1) = ((2 ^ k - 1 : Nat) : Int) := by rw [wrap_u64 (by omega) (by omega)]; omega
  have e4 : IntKind.i64.wrap ((n : Int) - k) = ((n - k : Nat) : Int) := by rw [wrap_i64 (by omega) (by omega)]; omega
  have e5 : IntKind.u64.wrap ((n - k : Nat) : Int) = ((n - k : Nat) : Int) := wrap_u64_nat (by omega)
  have hk64 : k ≤ 64 := by omega
  have b3 : (n - k) * m ≤ 9223372036854775807 * 9223372036854775807 := Nat.mul_le_mul (by omega) (by omega)
  have hadd := add_ct (f * (2 ^ k - 1) / 18446744073709551616) (f * (2 ^ k - 1) % 18446744073709551616) ((n - k) * m / 18446744073709551616) ((n - k) * m % 18446744073709551616) (by omega) (by omega) (by omega) (by omega) (by omega)
  have hs : f * (2 ^ k - 1) / 18446744073709551616 * 18446744073709551616 + f * (2 ^ k - 1) % 18446744073709551616 + ((n - k) * m / 18446744073709551616 * 18446744073709551616 + (n - k) * m % 18446744073709551616) = totN f m n := by
    rw [totN_closed hf (by omega), ← hk]; omega
  rw [hs] at hadd
  have cT := together_ct f m
  have cU := dub_ct f m hf (by omega) (by omega) hm2
  have cM1 := times_ct f (2 ^ k - 1) (by omega) (by omega)
  have cM2 := times_ct (n - k) m (by omega) (by omega)
  first | (have FRx := FR; clear FRx) | have FR := fr0S
  have FA := Sm.mk (And.intro TFOuBA (And.intro k1 (And.intro k2 (And.intro hmin (And.intro hk64 (And.intro e0 (And.intro e1 (And.intro e2 (And.intro e2' (And.intro e2'' (And.intro e3 (And.intro e4 e5))))))))))))
  repeat' first | (apply Sm.mk; refine Ys ?_) | refine WP.seq fun K hK => ?_ | (apply Ob.mk; exact Yo) | refine And.intro (Ob.out ?_) ?_ | refine Y1OuBA ?_ | refine Yc (c := cT) (r := ?_) | refine Yc (c := cU) (r := ?_) | refine Yc (c := cM1) (r := ?_) | refine Yc (c := cM2) (r := ?_) | refine Yc (c := hadd) (r := ?_) | refine YzOuBA ?_ | (refine WP.cond rfl (fun hc => ?_) (fun hc => ?_) <;> (try simp only [ZC, reduceCtorEq, ZD] at hc) <;> (try exact absurd hc (by decide)) <;> (try (exfalso; omega))) | refine Rt.mk (And.intro (fun hg => Sm.out ?_) fun hg => Sm.out ?_) | (refine Nu.mk ?_; first | (fail_if_success have := nb1); intro nb1 | (fail_if_success have := nb2); intro nb2 | (fail_if_success have := nb3); intro nb3 | (fail_if_success have := nb4); intro nb4 | (fail_if_success have := nb5); intro nb5 | (fail_if_success have := nb6); intro nb6 | intro nbz) | (apply Yfr; refine Yf FR fun hFRb FR => ?_) | refine Two.mk ?_ ?_ | (apply Yxc; exact Yx) | refine Cs.mk fun hcs => Sm.out ?_ | (apply Yog; refine Yg ?_; exact trivial) | go_step | omega | (simp only [maxLen_eq]; omega) | exact trivial
set_option maxHeartbeats 1000000 in
set_option maxRecDepth 8000 in
theorem bound_ct (f m n s : Nat) (hf : 1 ≤ f) (hm : f ≤ m) (hm2 : m < 9223372036854775808) (hn2 : n < 9223372036854775808) (hs : 1 ≤ s) (hs2 : s < 9223372036854775808) :
    ACt Tryd.prog 38 [iv .i64 f, iv .i64 m, iv .i64 n, iv .i64 s] [] (Fn (.tup [wideA (totN f m n + n * s), iv .i64 0])) := by
  refine ACt.intro Tryd.func38 rfl (by kernel_rfl) (by simp [Tryd.ntmps38]) (fun cx => ?_)
  simp only [argE, Tryd.ntmps38, Tryd.results38]
  have z0 : ((0 : Int) != 0) = false := by decide
  have k2 : decide ((s : Int) < 1) = false := by simp; omega
  have b1 : n * m ≤ 9223372036854775807 * 9223372036854775807 := Nat.mul_le_mul (by omega) (by omega)
  have b2 : n * s ≤ 9223372036854775807 * 9223372036854775807 := Nat.mul_le_mul (by omega) (by omega)
  have b3 := @totN_bd f m n
  have e1 : IntKind.u64.wrap (n : Int) = n := wrap_u64_nat (by omega)
  have e2 : IntKind.u64.wrap (s : Int) = s := wrap_u64_nat (by omega)
  have hadd := add_ct (totN f m n / 18446744073709551616) (totN f m n % 18446744073709551616) (n * s / 18446744073709551616) (n * s % 18446744073709551616) (by omega) (by omega) (by omega) (by omega) (by omega)
  have hs : totN f m n / 18446744073709551616 * 18446744073709551616 + totN f m n % 18446744073709551616 + (n * s / 18446744073709551616 * 18446744073709551616 + n * s % 18446744073709551616) = totN f m n + n * s := by omega
  rw [hs] at hadd
  have cT := total_ct f m n hf hm hm2 hn2
  have cM := times_ct n s (by omega) (by omega)
  first | (have FRx := FR; clear FRx) | have FR := fr0S
  have FA := Sm.mk (And.intro TFOuBA (And.intro k2 (And.intro z0 (And.intro e1 e2))))
  repeat' first | (apply Sm.mk; refine Ys ?_) | refine WP.seq fun K hK => ?_ | (apply Ob.mk; exact Yo) | refine And.intro (Ob.out ?_) ?_ | refine Y1OuBA ?_ | refine Yc (c := cT) (r := ?_) | refine Yc (c := cM) (r := ?_) | refine Yc (c := hadd) (r := ?_) | refine YzOuBA ?_ | (refine WP.cond rfl (fun hc => ?_) (fun hc => ?_) <;> (try simp only [ZC, reduceCtorEq, ZD] at hc) <;> (try exact absurd hc (by decide)) <;> (try (exfalso; omega))) | refine Rt.mk (And.intro (fun hg => Sm.out ?_) fun hg => Sm.out ?_) | (refine Nu.mk ?_; first | (fail_if_success have := nb1); intro nb1 | (fail_if_success have := nb2); intro nb2 | (fail_if_success have := nb3); intro nb3 | (fail_if_success have := nb4); intro nb4 | (fail_if_success have := nb5); intro nb5 | (fail_if_success have := nb6); intro nb6 | intro nbz) | (apply Yfr; refine Yf FR fun hFRb FR => ?_) | refine Two.mk ?_ ?_ | (apply Yxc; exact Yx) | refine Cs.mk fun hcs => Sm.out ?_ | (apply Yog; refine Yg ?_; exact trivial) | go_step | omega | (simp only [maxLen_eq]; omega) | exact trivial
end Go.Proofs.YtfknbndmabogjaaDoor
