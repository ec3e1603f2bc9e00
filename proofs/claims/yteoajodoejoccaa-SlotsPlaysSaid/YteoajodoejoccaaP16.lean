/-
  The walks and the laws that the statement leans on, part 16.
-/
import Derived.Test.YteoajodoejoccaaP7
import Derived.Test.YteoajodoejoccaaP9
import Derived.Test.YteoajodoejoccaaP10
namespace Go.Proofs.Yteoajodoejoccaa
open Go
def poly : BitVec 32 := 0x82F63B78#32
def st1 (c : BitVec 32) : BitVec 32 := (c >>> 1) ^^^ (if c.getLsbD 0 then poly else 0#32)
def st4 (c : BitVec 32) : BitVec 32 := st1 (st1 (st1 (st1 c)))
def tabI (i : Nat) : BitVec 32 := st4 (BitVec.ofNat 32 i)
def X (b : UInt8) : BitVec 32 := BitVec.ofNat 32 b.toNat
theorem X_eq (b : UInt8) : (b.toNat : Int) = U (X b) := U_ofNat _ (by have := b.toNat_lt; omega)
theorem wrap_X (b : UInt8) : IntKind.u32.wrap (b.toNat : Int) = U (X b) := by rw [wrap_u32 (by omega) (by have := b.toNat_lt; omega), X_eq]
theorem ibit_and_1 (a : BitVec 32) : ibit .and .u32 (U a) 1 = U (a &&& 1#32) := ibit_and_U a 1#32
theorem ibit_and_15 (a : BitVec 32) : ibit .and .u32 (U a) 15 = U (a &&& 15#32) := ibit_and_U a 15#32
theorem and1 (c : BitVec 32) : c &&& 1#32 = if c.getLsbD 0 then 1#32 else 0#32 := by
  apply BitVec.eq_of_toNat_eq
  simp only [BitVec.toNat_and, BitVec.getLsbD, Nat.testBit_zero]
  rw [show (1#32).toNat = 1 from rfl, Nat.and_one_is_mod]
  by_cases h : c.toNat % 2 = 1
  · simp [h]
  · have : c.toNat % 2 = 0 := by omega
    simp [this]
theorem st1_code (c : BitVec 32) : ibit .xor .u32 ((U c).fdiv (2 ^ 1)) (IntKind.u32.wrap (2197175160 * ibit .and .u32 (U c) 1)) = U (st1 c) := by
  rw [ibit_and_1, U_shr, and1]
  unfold st1
  split
  · rw [show IntKind.u32.wrap (2197175160 * U 1#32) = U poly from by decide +kernel, ibit_xor_U]
  · rw [show IntKind.u32.wrap (2197175160 * U 0#32) = U 0#32 from by decide +kernel, ibit_xor_U]
/-! One step is additive -/
theorem st1_xor (a b : BitVec 32) : st1 (a ^^^ b) = st1 a ^^^ st1 b := by
  unfold st1
  have h : (a ^^^ b).getLsbD 0 = (a.getLsbD 0 ^^ b.getLsbD 0) := by simp
  rw [h, BitVec.ushiftRight_xor_distrib]
  cases a.getLsbD 0 <;> cases b.getLsbD 0 <;> simp only [Bool.false_bne, Bool.true_bne, Bool.not_false, Bool.not_true, Bool.false_eq_true, if_true, if_false, BitVec.xor_zero]
  · rw [BitVec.xor_assoc]
  · rw [BitVec.xor_assoc, BitVec.xor_assoc, BitVec.xor_comm poly]
  · rw [BitVec.xor_assoc (a >>> 1) poly, ← BitVec.xor_assoc poly, BitVec.xor_comm poly (b >>> 1), BitVec.xor_assoc (b >>> 1), BitVec.xor_self, BitVec.xor_zero]
theorem st1_even (a : BitVec 32) (h : a.getLsbD 0 = false) : st1 a = a >>> 1 := by unfold st1; rw [h]; simp
theorem st4_xor (a b : BitVec 32) : st4 (a ^^^ b) = st4 a ^^^ st4 b := by unfold st4; rw [st1_xor, st1_xor, st1_xor, st1_xor]
theorem st4_high (a : BitVec 32) (h : ∀ i, i < 4 → a.getLsbD i = false) : st4 a = a >>> 4 := by
  unfold st4
  have g : ∀ k i, (a >>> k).getLsbD i = a.getLsbD (k + i) := fun k i => by simp
  rw [st1_even a (h 0 (by omega)), st1_even (a >>> 1) (by rw [g]; exact h 1 (by omega)), ← BitVec.shiftRight_add, st1_even (a >>> (1 + 1)) (by rw [g]; exact h 2 (by omega)), ← BitVec.shiftRight_add,
    st1_even (a >>> (1 + 1 + 1)) (by rw [g]; exact h 3 (by omega)), ← BitVec.shiftRight_add]
theorem and15 (i : Nat) : (15#32).getLsbD i = decide (i < 4) := by
  by_cases h : i < 4
  · rcases (by omega : i = 0 ∨ i = 1 ∨ i = 2 ∨ i = 3) with rfl | rfl | rfl | rfl <;> rfl
  · have h15 : (15#32).toNat < 2 ^ i := Nat.lt_of_lt_of_le (show 15 < 2 ^ 4 by omega) (Nat.pow_le_pow_right (by omega) (by omega))
    simp only [BitVec.getLsbD, Nat.testBit_lt_two_pow h15, h, decide_false]
theorem nib (c : BitVec 32) : st4 c = (c >>> 4) ^^^ tabI (c &&& 15#32).toNat := by
  have h1 : c = (c &&& ~~~15#32) ^^^ (c &&& 15#32) := by
    apply BitVec.eq_of_getLsbD_eq
    intro i hi
    simp only [BitVec.getLsbD_xor, BitVec.getLsbD_and, BitVec.getLsbD_not, hi, decide_true, Bool.true_and]
    cases c.getLsbD i <;> cases (15#32).getLsbD i <;> rfl
  have h2 : st4 (c &&& ~~~15#32) = (c &&& ~~~15#32) >>> 4 := st4_high _ fun i hi => by
    simp only [BitVec.getLsbD_and, BitVec.getLsbD_not, and15]
    simp [hi]
  have h3 : (c &&& ~~~15#32) >>> 4 = c >>> 4 := by
    apply BitVec.eq_of_getLsbD_eq
    intro i hi
    simp only [BitVec.getLsbD_ushiftRight, BitVec.getLsbD_and, BitVec.getLsbD_not, and15]
    by_cases h : 4 + i < 32
    · have : ¬ (4 + i < 4) := by omega
      simp [h]
    · have : c.getLsbD (4 + i) = false := BitVec.getLsbD_of_ge c (4 + i) (by omega)
      simp [this]
  have h4 : tabI (c &&& 15#32).toNat = st4 (c &&& 15#32) := by
    unfold tabI
    rw [BitVec.ofNat_toNat, BitVec.setWidth_eq]
  calc st4 c = st4 ((c &&& ~~~15#32) ^^^ (c &&& 15#32)) := by rw [← h1]
    _ = _ := by rw [st4_xor, h2, h3, h4]
def byteP (c : BitVec 32) (x : UInt8) : BitVec 32 := st4 (st4 (c ^^^ X x))
def onS (s : BitVec 32) (bs : List UInt8) : BitVec 32 := ~~~ (bs.foldl byteP (~~~ s))
def ofS (bs : List UInt8) : BitVec 32 := onS 0#32 bs
def bitR (c : BitVec 32) (x : UInt8) (k : Nat) : BitVec 32 := (c >>> 1) ^^^ (if c.getLsbD 0 ^^ (X x).getLsbD k then poly else 0#32)
def bitsR (c : BitVec 32) (x : UInt8) : Nat → BitVec 32
  | 0 => c
  | k + 1 => bitR (bitsR c x k) x k
def byteR (c : BitVec 32) (x : UInt8) : BitVec 32 := bitsR c x 8
def st1n (c : BitVec 32) : Nat → BitVec 32
  | 0 => c
  | k + 1 => st1 (st1n c k)
theorem bits_eq (c : BitVec 32) (x : UInt8) : ∀ k, st1n (c ^^^ X x) k = bitsR c x k ^^^ (X x >>> k)
  | 0 => by simp [st1n, bitsR]
  | k + 1 => by
    simp only [st1n, bitsR, bits_eq c x k, bitR]
    unfold st1
    have h : (bitsR c x k ^^^ X x >>> k).getLsbD 0 = ((bitsR c x k).getLsbD 0 ^^ (X x).getLsbD k) := by simp
    rw [h, BitVec.ushiftRight_xor_distrib, ← BitVec.shiftRight_add, BitVec.xor_assoc, BitVec.xor_assoc]
    congr 1
    rw [BitVec.xor_comm]
theorem byte_eq (c : BitVec 32) (x : UInt8) : byteP c x = byteR c x := by
  have h : byteP c x = st1n (c ^^^ X x) 8 := rfl
  rw [h, bits_eq]
  have h2 : X x >>> 8 = 0#32 := by
    apply BitVec.eq_of_toNat_eq
    have := x.toNat_lt
    simp only [X, BitVec.toNat_ushiftRight, BitVec.toNat_ofNat, Nat.shiftRight_eq_div_pow]
    have h3 : x.toNat % 2 ^ 32 = x.toNat := Nat.mod_eq_of_lt (by omega)
    rw [h3]
    simp
    omega
  rw [h2]
  simp [byteR]
def ofR (bs : List UInt8) : BitVec 32 := ~~~ (bs.foldl byteR (~~~ 0#32))
theorem of_eq (bs : List UInt8) : ofS bs = ofR bs := by
  unfold ofS onS ofR
  have : byteP = byteR := by funext c x; exact byte_eq c x
  rw [this]
theorem not_code (c : BitVec 32) : ibit .xor .u32 (if IntKind.u32.signed then -1 else IntKind.u32.max) (U c) = U (~~~ c) := by
  have h : (if IntKind.u32.signed then -1 else IntKind.u32.max) = U (BitVec.allOnes 32) := by decide +kernel
  rw [h, ibit_xor_U]
  congr 1
set_option linter.unusedVariables false
set_option linter.unusedSimpArgs false
set_option linter.defProp false
def TFCrcW1 :=
  And.intro (And.intro (And.intro (And.intro tyc0 tyc3) (And.intro zmb3 (And.intro tyc4 zmb4))) (And.intro (And.intro tyc95 zmb95) (And.intro tyc104 (And.intro zmb104 tyc110)))) (And.intro (And.intro (And.intro elt110 zmb110) (And.intro bldT110 (And.intro arr1110 Try.underlying0))) (And.intro (And.intro Try.underlying3 Try.underlying4) (And.intro Try.underlying95 (And.intro Try.underlying104 Try.underlying110))))
theorem Y1CrcW1 {G R : Prop} (r : R) (h : R → G := by intro r; first | (apply WP.region; exact rvc_sound _ _ (Sm.out r)) | exact WP.drawK rfl mixed (by decide +kernel) (Sm.out r) | (apply WP.block; exact r) | (apply WP.skip; exact Yq r) | (apply WP.exit; exact Yq r) | (apply WP.ret; exact Sm.out r) | exact WP.cond rfl (fun _ => r) (fun hg => absurd hg (by decide)) | exact WP.cond rfl (fun hg => absurd hg (by decide)) (fun _ => r) | exact Rt.mk (And.intro (fun _ => Sm.out r) fun hg => absurd hg (by decide)) | exact Rt.mk (And.intro (fun hg => absurd hg (by decide)) fun _ => Sm.out r)) : G := h r
theorem YzCrcW1 {G R : Prop} (r : R) (h : R → G := by intro r; first | (apply ExG.no; exact Sm.out r) | (apply Or.inl; apply ExG.no; exact Sm.out r) | exact Or.inl (And.intro (fun hg => absurd hg (by decide)) (ExG.no (Sm.out r)))) : G := h r
def tabL (i : Nat) : List Int := (List.range i).map fun j => U (tabI j)
theorem tab_set (i : Nat) (h : i < 16) : (tabL i ++ List.replicate (16 - i) 0).set i (U (tabI i)) = tabL (i + 1) ++ List.replicate (16 - (i + 1)) 0 := by
  have e : 16 - i = (16 - (i + 1)) + 1 := by omega
  have hl : (tabL i).length = i := by simp [tabL]
  rw [e, List.replicate_succ, List.set_append_right _ _ (by omega), hl, Nat.sub_self, List.set_cons_zero]
  unfold tabL
  rw [List.range_succ, List.map_append, List.append_assoc]
  rfl
set_option maxHeartbeats 1000000 in
set_option maxRecDepth 20000 in
theorem nibbles_ct : ACt Try.prog 69 [] [] (Fn (.agg ((tabL 16).map (iv .u32)))) := by
  refine ACt.intro Try.func69 rfl (by kernel_rfl) (by simp [Try.ntmps69]) (fun cx => ?_)
  simp only [argE, Try.ntmps69, Try.results69]
  first | (have FRx := FR; clear FRx) | have FR := fr0S
  have FA := Sm.mk (TFCrcW1)
  repeat' first | (apply Sm.mk; refine Ys ?_) | refine WP.seq fun K hK => ?_ | (apply Ob.mk; exact Yo) | refine And.intro (Ob.out ?_) ?_ | refine Y1CrcW1 ?_ | refine YzCrcW1 ?_ | (refine WP.cond rfl (fun hc => ?_) (fun hc => ?_) <;> (try simp only [ZC, reduceCtorEq, ZD] at hc) <;> (try exact absurd hc (by decide)) <;> (try (exfalso; omega))) | refine Rt.mk (And.intro (fun hg => Sm.out ?_) fun hg => Sm.out ?_) | (refine Nu.mk ?_; first | (fail_if_success have := nb1); intro nb1 | (fail_if_success have := nb2); intro nb2 | (fail_if_success have := nb3); intro nb3 | (fail_if_success have := nb4); intro nb4 | (fail_if_success have := nb5); intro nb5 | (fail_if_success have := nb6); intro nb6 | intro nbz) | (apply Yfr; refine Yf FR fun hFRb FR => ?_) | refine Two.mk ?_ ?_ | (apply Yxc; exact Yx) | refine Cs.mk fun hcs => Sm.out ?_ | go_step | omega | (simp only [maxLen_eq]; omega) | exact trivial
  refine WP.loop (Γ := Nat) (fun i => ⟨[(4, iv .i64 i), (1, pt nb2 0), (0, pt nb1 0)], [(nb2, .zs .u32 (tabL i ++ List.replicate (16 - i) 0) 16 110), (nb1, .zs .u32 (List.replicate 16 0) 16 110)]⟩)
    (fun i => i ≤ 16) (fun i => 16 - i) 0 (by omega) (Sub.of_env [] (by simp [tabL]) (by simp [look])) ?_
  intro i hi
  have hne : nb2 ≠ nb1 ∧ nb1 ≠ nb2 := by simp [FR.out]
  have FR : Sm (¬ ((1 : Nat) = 0)) := Sm.mk Nat.one_ne_zero
  have hl : (tabL i).length = i := by simp [tabL]
  by_cases h16 : i < 16
  · have ki : decide ((i : Int) < 16) = true := decide_eq_true (by omega)
    have q1 : i < i + (16 - i) := by omega
    first | (have FRx := FR; clear FRx) | have FR := fr0S
    have FA := Sm.mk (And.intro TFCrcW1 (And.intro ki hne))
    repeat' first | (apply Sm.mk; refine Ys ?_) | refine WP.seq fun K hK => ?_ | (apply Ob.mk; exact Yo) | refine And.intro (Ob.out ?_) ?_ | refine Y1CrcW1 ?_ | refine YzCrcW1 ?_ | (refine WP.cond rfl (fun hc => ?_) (fun hc => ?_) <;> (try simp only [ZC, reduceCtorEq, ZD] at hc) <;> (try exact absurd hc (by decide)) <;> (try (exfalso; omega))) | refine Rt.mk (And.intro (fun hg => Sm.out ?_) fun hg => Sm.out ?_) | (refine Nu.mk ?_; first | (fail_if_success have := nb1); intro nb1 | (fail_if_success have := nb2); intro nb2 | (fail_if_success have := nb3); intro nb3 | (fail_if_success have := nb4); intro nb4 | (fail_if_success have := nb5); intro nb5 | (fail_if_success have := nb6); intro nb6 | intro nbz) | (apply Yfr; refine Yf FR fun hFRb FR => ?_) | refine Two.mk ?_ ?_ | (apply Yxc; exact Yx) | refine Cs.mk fun hcs => Sm.out ?_ | go_step | omega | (simp only [maxLen_eq]; omega) | exact trivial
    refine WP.loop (Γ := Nat) (fun k => ⟨[(9, iv .i64 k), (3, iv .u32 (U (st1n (BitVec.ofNat 32 i) k))), (2, iv .i64 i), (4, iv .i64 i), (1, pt nb2 0), (0, pt nb1 0)],
        [(nb2, .zs .u32 (tabL i ++ List.replicate (16 - i) 0) 16 110), (nb1, .zs .u32 (List.replicate 16 0) 16 110)]⟩) (fun k => k ≤ 4) (fun k => 4 - k) 0 (by omega)
      (Sub.of_env [] (by simp) (by simp [look, st1n]; rw [wrap_u32 (by omega) (by omega), U_ofNat i (by omega)])) ?_
    intro k hk
    have FR : Sm (¬ ((1 : Nat) = 0)) := Sm.mk Nat.one_ne_zero
    by_cases h4 : k < 4
    · have kk : decide ((k : Int) < 4) = true := decide_eq_true (by omega)
      first | (have FRx := FR; clear FRx) | have FR := fr0S
      have FA := Sm.mk (And.intro TFCrcW1 (And.intro kk hne))
      repeat' first | (apply Sm.mk; refine Ys ?_) | refine WP.seq fun K hK => ?_ | (apply Ob.mk; exact Yo) | refine And.intro (Ob.out ?_) ?_ | refine Y1CrcW1 ?_ | refine YzCrcW1 ?_ | (refine WP.cond rfl (fun hc => ?_) (fun hc => ?_) <;> (try simp only [ZC, reduceCtorEq, ZD] at hc) <;> (try exact absurd hc (by decide)) <;> (try (exfalso; omega))) | refine Rt.mk (And.intro (fun hg => Sm.out ?_) fun hg => Sm.out ?_) | (refine Nu.mk ?_; first | (fail_if_success have := nb1); intro nb1 | (fail_if_success have := nb2); intro nb2 | (fail_if_success have := nb3); intro nb3 | (fail_if_success have := nb4); intro nb4 | (fail_if_success have := nb5); intro nb5 | (fail_if_success have := nb6); intro nb6 | intro nbz) | (apply Yfr; refine Yf FR fun hFRb FR => ?_) | refine Two.mk ?_ ?_ | (apply Yxc; exact Yx) | refine Cs.mk fun hcs => Sm.out ?_ | go_step | omega | (simp only [maxLen_eq]; omega) | exact trivial
      refine ⟨k + 1, by omega, by omega, Sub.of_env [] (by simp) ?_⟩
      have e1 : IntKind.i64.wrap ((k : Int) + 1) = ((k + 1 : Nat) : Int) := by rw [wrap_i64 (by omega) (by omega)]; omega
      have e2 := st1_code (st1n (BitVec.ofNat 32 i) k)
      rw [show (2 : Int) ^ 1 = 2 from rfl] at e2
      simp [look, e1, e2, st1n]
    · obtain rfl : k = 4 := by omega
      have kk : decide (((4 : Nat) : Int) < 4) = false := by decide
      have e : st1n (BitVec.ofNat 32 i) 4 = tabI i := rfl
      have ts := tab_set i h16
      have e1 : IntKind.i64.wrap ((i : Int) + 1) = ((i + 1 : Nat) : Int) := by rw [wrap_i64 (by omega) (by omega)]; omega
      rw [e]
      obtain ⟨Y, hY⟩ : ∃ Y, Y = U (tabI i) := ⟨_, rfl⟩
      rw [← hY] at ts ⊢
      obtain ⟨A, hA⟩ : ∃ A, A = tabL i ++ List.replicate (16 - i) 0 := ⟨_, rfl⟩
      rw [← hA] at ts ⊢
      have hA2 : A.length = 16 := by rw [hA]; simp [hl]; omega
      have q2 : i < 16 := h16
      first | (have FRx := FR; clear FRx) | have FR := fr0S
      have FA := Sm.mk (And.intro TFCrcW1 (And.intro kk (And.intro hne (And.intro hA2 q2))))
      repeat' first | (apply Sm.mk; refine Ys ?_) | refine WP.seq fun K hK => ?_ | (apply Ob.mk; exact Yo) | refine And.intro (Ob.out ?_) ?_ | refine Y1CrcW1 ?_ | refine YzCrcW1 ?_ | (refine WP.cond rfl (fun hc => ?_) (fun hc => ?_) <;> (try simp only [ZC, reduceCtorEq, ZD] at hc) <;> (try exact absurd hc (by decide)) <;> (try (exfalso; omega))) | refine Rt.mk (And.intro (fun hg => Sm.out ?_) fun hg => Sm.out ?_) | (refine Nu.mk ?_; first | (fail_if_success have := nb1); intro nb1 | (fail_if_success have := nb2); intro nb2 | (fail_if_success have := nb3); intro nb3 | (fail_if_success have := nb4); intro nb4 | (fail_if_success have := nb5); intro nb5 | (fail_if_success have := nb6); intro nb6 | intro nbz) | (apply Yfr; refine Yf FR fun hFRb FR => ?_) | refine Two.mk ?_ ?_ | (apply Yxc; exact Yx) | refine Cs.mk fun hcs => Sm.out ?_ | go_step | omega | (simp only [maxLen_eq]; omega) | exact trivial
      exact ⟨i + 1, by omega, by omega, (Sub.pick (by simp [pickB, hget, hdel, FR.out, hne, ts, e1]) (by simp [look, hne, ts, e1]))⟩
  · obtain rfl : i = 16 := by omega
    have ki : decide (((16 : Nat) : Int) < 16) = false := by decide
    have e0 : tabL 16 ++ List.replicate (16 - 16) 0 = tabL 16 := by simp
    rw [e0]
    have ht : (tabL 16).take 16 = tabL 16 := List.take_of_length_le (by omega)
    obtain ⟨A, hA⟩ : ∃ A, A = tabL 16 := ⟨_, rfl⟩
    rw [← hA] at hl ht ⊢
    first | (have FRx := FR; clear FRx) | have FR := fr0S
    have FA := Sm.mk (And.intro TFCrcW1 (And.intro ki (And.intro hne (And.intro hl ht))))
    repeat' first | (apply Sm.mk; refine Ys ?_) | refine WP.seq fun K hK => ?_ | (apply Ob.mk; exact Yo) | refine And.intro (Ob.out ?_) ?_ | refine Y1CrcW1 ?_ | refine YzCrcW1 ?_ | (refine WP.cond rfl (fun hc => ?_) (fun hc => ?_) <;> (try simp only [ZC, reduceCtorEq, ZD] at hc) <;> (try exact absurd hc (by decide)) <;> (try (exfalso; omega))) | refine Rt.mk (And.intro (fun hg => Sm.out ?_) fun hg => Sm.out ?_) | (refine Nu.mk ?_; first | (fail_if_success have := nb1); intro nb1 | (fail_if_success have := nb2); intro nb2 | (fail_if_success have := nb3); intro nb3 | (fail_if_success have := nb4); intro nb4 | (fail_if_success have := nb5); intro nb5 | (fail_if_success have := nb6); intro nb6 | intro nbz) | (apply Yfr; refine Yf FR fun hFRb FR => ?_) | refine Two.mk ?_ ?_ | (apply Yxc; exact Yx) | refine Cs.mk fun hcs => Sm.out ?_ | go_step | omega | (simp only [maxLen_eq]; omega) | exact trivial
    (have FA := Sm.mk (And.intro hl (And.intro ht (And.intro hne FA.out))); refine Yg ?_; try exact trivial)
    rw [hA]
def TFCrcW2 :=
  And.intro (And.intro (And.intro (And.intro tyc0 (And.intro tyc3 zmb3)) (And.intro tyc5 (And.intro zmb5 tyc36))) (And.intro (And.intro elt36 (And.intro mkz36 apT36)) (And.intro (And.intro elk36 zmb36) (And.intro tyc95 zmb95)))) (And.intro (And.intro (And.intro tyc104 (And.intro zmb104 tyc110)) (And.intro (And.intro elt110 zmb110) (And.intro bldT110 arr1110))) (And.intro (And.intro Try.underlying0 (And.intro Try.underlying3 Try.underlying5)) (And.intro (And.intro Try.underlying36 Try.underlying95) (And.intro Try.underlying104 Try.underlying110))))
theorem Y1CrcW2 {G R : Prop} (r : R) (h : R → G := by intro r; first | (apply WP.region; exact rvc_sound _ _ (Sm.out r)) | exact WP.drawK rfl mixed (by decide +kernel) (Sm.out r) | (apply WP.block; exact r) | (apply WP.skip; exact Yq r) | (apply WP.exit; exact Yq r) | (apply WP.ret; exact Sm.out r) | exact WP.cond rfl (fun _ => r) (fun hg => absurd hg (by decide)) | exact WP.cond rfl (fun hg => absurd hg (by decide)) (fun _ => r) | exact Rt.mk (And.intro (fun _ => Sm.out r) fun hg => absurd hg (by decide)) | exact Rt.mk (And.intro (fun hg => absurd hg (by decide)) fun _ => Sm.out r)) : G := h r
theorem YzCrcW2 {G R : Prop} (r : R) (h : R → G := by intro r; first | (apply ExG.no; exact Sm.out r) | (apply Or.inl; apply ExG.no; exact Sm.out r) | exact Or.inl (And.intro (fun hg => absurd hg (by decide)) (ExG.no (Sm.out r)))) : G := h r
theorem YsCrcW20 {P Q : Prop} (q : Q) (h : P = Q := by (try (conv => lhs; simp -dsimp only [ZK, rvc, capA, appA, litL, mkfv, drawF, headN, pureH, stp, dvc, calleeOf, gcall, pev, eff, newB, okd, og, ogs, ogo, ogp, slv, bltv, opd, litv, strip, one, both, putE, St.put, look, gdOf, gdv, picka, pickv, pickw, binv, bini, bins, binb, binp, binq, isSlT, bina, shp, eqCells, unv, convv, nilv, faddv, addp, idxav, idxp, load1, load1m, loadn, loadnm, loadv, hget, hset, hrep, hdel, slicev, slice3v, bnd, shift1, lenv, capv, IntKind.bits, extractv, fieldv, indexv, min2v, max2v, mkiv, tasv, tasz, cellsA, fillA, buildv, stC, oneC, rowMB, intsA, plN, appE, appZ, appC, appS, srcB, appNZ, appNC, VwL, srcC, srcZ, srcM, isBoolT, isPtrT, isSliceT, uOk, Value.oneCell', Nat.reducePow, Int.reducePow, Nat.reduceAdd, Nat.reduceMul, Nat.reduceSub, Nat.reduceLT, Nat.reduceLeDiff, Nat.reduceEqDiff, Nat.reduceBEq, Nat.reduceDiv, Nat.reduceMod, ↓reduceIte, reduceCtorEq, Int.reduceToNat, Int.reduceLT, Int.reduceLE, TFCrcW2, SeqQ, BlkQ, LoopQ, BodyQ, not_code, ub_len, tabL_len, FA.out, FR.out])) <;> exact rfl) : P := h.mpr q
theorem YsCrcW21 {P Q : Prop} (q : Q) (h : P = Q := by (try (conv => lhs; simp -dsimp only [ZK, rvc, capA, appA, litL, mkfv, drawF, headN, pureH, stp, dvc, calleeOf, gcall, pev, eff, newB, okd, og, ogs, ogo, ogp, slv, bltv, opd, litv, strip, one, both, putE, St.put, look, gdOf, gdv, picka, pickv, pickw, binv, bini, bins, binb, binp, binq, isSlT, bina, shp, eqCells, unv, convv, nilv, faddv, addp, idxav, idxp, load1, load1m, loadn, loadnm, loadv, hget, hset, hrep, hdel, slicev, slice3v, bnd, shift1, lenv, capv, IntKind.bits, extractv, fieldv, indexv, min2v, max2v, mkiv, tasv, tasz, cellsA, fillA, buildv, stC, oneC, rowMB, intsA, plN, appE, appZ, appC, appS, srcB, appNZ, appNC, VwL, srcC, srcZ, srcM, isBoolT, isPtrT, isSliceT, uOk, Value.oneCell', Nat.reducePow, Int.reducePow, Nat.reduceAdd, Nat.reduceMul, Nat.reduceSub, Nat.reduceLT, Nat.reduceLeDiff, Nat.reduceEqDiff, Nat.reduceBEq, Nat.reduceDiv, Nat.reduceMod, ↓reduceIte, reduceCtorEq, Int.reduceToNat, Int.reduceLT, Int.reduceLE, TFCrcW2, SeqQ, BlkQ, LoopQ, BodyQ, not_code, ub_len, tabL_len, ub_getD, wrap_X, ibit_xor_U, ibit_and_15, shr4, tab_get, nib', U15_0, U15_16, U15_n, Int.cast_ofNat_Int, FA.out, FR.out])) <;> exact rfl) : P := h.mpr q
theorem tabL_len (i : Nat) : (tabL i).length = i := by simp [tabL]
theorem shr4 (c : BitVec 32) : (U c).fdiv 16 = U (c >>> 4) := U_shr c 4
theorem lt15 (c : BitVec 32) : (c &&& 15#32).toNat < 16 := by
  rw [BitVec.toNat_and]
  exact Nat.lt_of_le_of_lt Nat.and_le_right (by decide)
theorem U15_0 (c : BitVec 32) : (0 ≤ U (c &&& 15#32)) = True := eq_true (U_bd _).1
theorem U15_16 (c : BitVec 32) : (U (c &&& 15#32) < 16) = True := eq_true (by unfold U; have := lt15 c; omega)
theorem U15_n (c : BitVec 32) : ((U (c &&& 15#32)).toNat < 16) = True := eq_true (by unfold U; have := lt15 c; omega)
theorem tab_get (c : BitVec 32) : (tabL 16).getD (U (c &&& 15#32)).toNat 0 = U (tabI (c &&& 15#32).toNat) := by
  have h := lt15 c
  have e : (U (c &&& 15#32)).toNat = (c &&& 15#32).toNat := by unfold U; simp
  rw [e]
  unfold tabL
  rw [getD_map_lt _ _ _ _ (by simpa using h)]
  simp
theorem nib' (c : BitVec 32) : (c >>> 4) ^^^ tabI (c &&& 15#32).toNat = st4 c := (nib c).symm
theorem take_fold (bs : List UInt8) (k : Nat) (h : k < bs.length) (c : BitVec 32) : (bs.take (k + 1)).foldl byteP c = st4 (st4 ((bs.take k).foldl byteP c ^^^ X (bs.getD k 0))) := by
  rw [List.take_succ_eq_append_getElem h, List.foldl_append]
  simp [List.getD, h, byteP]
set_option maxHeartbeats 1000000 in
set_option maxRecDepth 20000 in
theorem on_ct (s : BitVec 32) (bs : List UInt8) (hb : bs.length ≤ 1000000000) : ACt Try.prog 63 [iv .u32 (U s), .slz .u8 (ub bs)] [] (Fn (iv .u32 (U (onS s bs)))) := by
  refine ACt.intro Try.func63 rfl (by kernel_rfl) (by simp [Try.ntmps63]) (fun cx => ?_)
  simp only [argE, Try.ntmps63, Try.results63]
  first | (have FRx := FR; clear FRx) | have FR := fr0S
  have FA := Sm.mk (TFCrcW2)
  repeat' first | (apply Sm.mk; refine YsCrcW20 ?_) | refine WP.seq fun K hK => ?_ | (apply Ob.mk; exact Yo) | refine And.intro (Ob.out ?_) ?_ | refine Y1CrcW2 ?_ | refine Yc (c := nibbles_ct) (r := ?_) | refine YzCrcW2 ?_ | (refine WP.cond rfl (fun hc => ?_) (fun hc => ?_) <;> (try simp only [ZC, reduceCtorEq, ZD] at hc) <;> (try exact absurd hc (by decide)) <;> (try (exfalso; omega))) | refine Rt.mk (And.intro (fun hg => Sm.out ?_) fun hg => Sm.out ?_) | (refine Nu.mk ?_; first | (fail_if_success have := nb1); intro nb1 | (fail_if_success have := nb2); intro nb2 | (fail_if_success have := nb3); intro nb3 | (fail_if_success have := nb4); intro nb4 | (fail_if_success have := nb5); intro nb5 | (fail_if_success have := nb6); intro nb6 | intro nbz) | (apply Yfr; refine Yf FR fun hFRb FR => ?_) | refine Two.mk ?_ ?_ | (apply Yxc; exact Yx) | refine Cs.mk fun hcs => Sm.out ?_ | go_step | omega | (simp only [maxLen_eq]; omega) | exact trivial
  refine WP.loop (Γ := Nat) (fun k => ⟨[(14, iv .i64 k), (13, iv .i64 bs.length), (12, .slz .u8 (ub bs)), (6, iv .u32 (U ((bs.take k).foldl byteP (~~~ s)))), (5, pt nb1 0)], [(nb1, .zs .u32 (tabL 16) 16 110)]⟩)
    (fun k => k ≤ bs.length) (fun k => bs.length - k) 0 (by omega) (Sub.of_env [] (by simp) (by simp [look])) ?_
  intro k hk
  first | (have FRx := FR; clear FRx) | have FR := fr0S
  have FA := Sm.mk (TFCrcW2)
  repeat' first | (apply Sm.mk; refine YsCrcW21 ?_) | refine WP.seq fun K hK => ?_ | (apply Ob.mk; exact Yo) | refine And.intro (Ob.out ?_) ?_ | refine Y1CrcW2 ?_ | refine YzCrcW2 ?_ | (refine WP.cond rfl (fun hc => ?_) (fun hc => ?_) <;> (try simp only [ZC, reduceCtorEq, ZD] at hc) <;> (try exact absurd hc (by decide)) <;> (try (exfalso; omega))) | refine Rt.mk (And.intro (fun hg => Sm.out ?_) fun hg => Sm.out ?_) | (refine Nu.mk ?_; first | (fail_if_success have := nb1); intro nb1 | (fail_if_success have := nb2); intro nb2 | (fail_if_success have := nb3); intro nb3 | (fail_if_success have := nb4); intro nb4 | (fail_if_success have := nb5); intro nb5 | (fail_if_success have := nb6); intro nb6 | intro nbz) | (apply Yfr; refine Yf FR fun hFRb FR => ?_) | refine Two.mk ?_ ?_ | (apply Yxc; exact Yx) | refine Cs.mk fun hcs => Sm.out ?_ | go_step | omega | (simp only [maxLen_eq]; omega) | exact trivial
  · refine ⟨k + 1, by omega, by omega, Sub.of_env [] (by simp) ?_⟩
    have e1 : IntKind.i64.wrap ((k : Int) + 1) = ((k + 1 : Nat) : Int) := by rw [wrap_i64 (by omega) (by omega)]; omega
    have e2 := take_fold bs k (by omega) (~~~ s)
    simp [look, e1, e2]
  · obtain rfl : k = bs.length := by omega
    refine OutQ.all ?_ ?_
    · simp only [resv, ZK, rvc, capA, appA, litL, mkfv, drawF, headN, pureH, stp, dvc, calleeOf, gcall, pev, eff, newB, okd, og, ogs, ogo, ogp, slv, bltv, opd, litv, strip, one, both, putE, St.put, look, gdOf, gdv, picka, pickv, pickw, binv, bini, bins, binb, binp, binq, isSlT, bina, shp, eqCells, unv, convv, nilv, faddv, addp, idxav, idxp, load1, load1m, loadn, loadnm, loadv, hget, hset, hrep, hdel, slicev, slice3v, bnd, shift1, lenv, capv, IntKind.bits, extractv, fieldv, indexv, min2v, max2v, mkiv, tasv, tasz, cellsA, fillA, buildv, stC, oneC, rowMB, intsA, plN, appE, appZ, appC, appS, srcB, appNZ, appNC, VwL, srcC, srcZ, srcM, isBoolT, isPtrT, isSliceT, uOk, Value.oneCell', Nat.reducePow, Int.reducePow, Nat.reduceAdd, Nat.reduceMul, Nat.reduceSub, Nat.reduceLT, Nat.reduceLeDiff, Nat.reduceEqDiff, Nat.reduceBEq, Nat.reduceDiv, Nat.reduceMod, ↓reduceIte, reduceCtorEq, Int.reduceToNat, Int.reduceLT, Int.reduceLE, TFCrcW2, SeqQ, BlkQ, LoopQ, BodyQ]
    · simp [resv, resA, Fn, look, onS]
set_option maxRecDepth 20000 in
theorem of_ct (bs : List UInt8) (hb : bs.length ≤ 1000000000) : ACt Try.prog 56 [.slz .u8 (ub bs)] [] (Fn (iv .u32 (U (ofS bs)))) := by
  refine ACt.intro Try.func56 rfl (by kernel_rfl) (by simp [Try.ntmps56]) (fun cx => ?_)
  simp only [argE, Try.ntmps56, Try.results56]
  have h := on_ct 0#32 bs hb
  rw [show U 0#32 = 0 from rfl] at h
  first | (have FRx := FR; clear FRx) | have FR := fr0S
  have FA := Sm.mk (TFCrcW2)
  repeat' first | (apply Sm.mk; refine Ys ?_) | refine WP.seq fun K hK => ?_ | (apply Ob.mk; exact Yo) | refine And.intro (Ob.out ?_) ?_ | refine Y1CrcW2 ?_ | refine Yc (c := h) (r := ?_) | refine YzCrcW2 ?_ | (refine WP.cond rfl (fun hc => ?_) (fun hc => ?_) <;> (try simp only [ZC, reduceCtorEq, ZD] at hc) <;> (try exact absurd hc (by decide)) <;> (try (exfalso; omega))) | refine Rt.mk (And.intro (fun hg => Sm.out ?_) fun hg => Sm.out ?_) | (refine Nu.mk ?_; first | (fail_if_success have := nb1); intro nb1 | (fail_if_success have := nb2); intro nb2 | (fail_if_success have := nb3); intro nb3 | (fail_if_success have := nb4); intro nb4 | (fail_if_success have := nb5); intro nb5 | (fail_if_success have := nb6); intro nb6 | intro nbz) | (apply Yfr; refine Yf FR fun hFRb FR => ?_) | refine Two.mk ?_ ?_ | (apply Yxc; exact Yx) | refine Cs.mk fun hcs => Sm.out ?_ | go_step | omega | (simp only [maxLen_eq]; omega) | exact trivial
  refine OutQ.all ?_ ?_
  · simp only [resv, ZK, rvc, capA, appA, litL, mkfv, drawF, headN, pureH, stp, dvc, calleeOf, gcall, pev, eff, newB, okd, og, ogs, ogo, ogp, slv, bltv, opd, litv, strip, one, both, putE, St.put, look, gdOf, gdv, picka, pickv, pickw, binv, bini, bins, binb, binp, binq, isSlT, bina, shp, eqCells, unv, convv, nilv, faddv, addp, idxav, idxp, load1, load1m, loadn, loadnm, loadv, hget, hset, hrep, hdel, slicev, slice3v, bnd, shift1, lenv, capv, IntKind.bits, extractv, fieldv, indexv, min2v, max2v, mkiv, tasv, tasz, cellsA, fillA, buildv, stC, oneC, rowMB, intsA, plN, appE, appZ, appC, appS, srcB, appNZ, appNC, VwL, srcC, srcZ, srcM, isBoolT, isPtrT, isSliceT, uOk, Value.oneCell', Nat.reducePow, Int.reducePow, Nat.reduceAdd, Nat.reduceMul, Nat.reduceSub, Nat.reduceLT, Nat.reduceLeDiff, Nat.reduceEqDiff, Nat.reduceBEq, Nat.reduceDiv, Nat.reduceMod, ↓reduceIte, reduceCtorEq, Int.reduceToNat, Int.reduceLT, Int.reduceLE, TFCrcW2, SeqQ, BlkQ, LoopQ, BodyQ]
  · simp [resv, resA, Fn, look, ofS]
end Go.Proofs.Yteoajodoejoccaa
