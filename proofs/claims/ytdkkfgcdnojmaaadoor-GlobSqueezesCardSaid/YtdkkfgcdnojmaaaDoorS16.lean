/-
  The walks and the laws that the statement leans on, part 16.
-/
import Derived.Test.YtdkkfgcdnojmaaaDoorS13
import Derived.Test.YtdkkfgcdnojmaaaDoorS15
namespace Go.Proofs.YtdkkfgcdnojmaaaDoor
open Go
set_option linter.unusedVariables false
set_option linter.unusedSimpArgs false
set_option linter.defProp false
def TFTxK :=
  And.intro (And.intro (And.intro tyc5 (And.intro zmb5 tyc9)) (And.intro (And.intro zmb9 tyc12) (And.intro zmb12 tyc53))) (And.intro (And.intro (And.intro zmb53 tyc74) (And.intro zmb74 Tryd.underlying5)) (And.intro (And.intro Tryd.underlying9 Tryd.underlying12) (And.intro Tryd.underlying53 Tryd.underlying74)))
theorem Y1TxK {G R : Prop} (r : R) (h : R → G := by intro r; first | (apply WP.region; exact rvc_sound _ _ (Sm.out r)) | exact WP.drawK rfl mixed (by decide +kernel) (Sm.out r) | (apply WP.block; exact r) | (apply WP.skip; exact Yq r) | (apply WP.exit; exact Yq r) | (apply WP.ret; exact Sm.out r) | exact WP.cond rfl (fun _ => r) (fun hg => absurd hg (by decide)) | exact WP.cond rfl (fun hg => absurd hg (by decide)) (fun _ => r) | exact Rt.mk (And.intro (fun _ => Sm.out r) fun hg => absurd hg (by decide)) | exact Rt.mk (And.intro (fun hg => absurd hg (by decide)) fun _ => Sm.out r)) : G := h r
theorem YzTxK {G R : Prop} (r : R) (h : R → G := by intro r; first | (apply ExG.no; exact Sm.out r) | (apply Or.inl; apply ExG.no; exact Sm.out r) | exact Or.inl (And.intro (fun hg => absurd hg (by decide)) (ExG.no (Sm.out r)))) : G := h r
theorem land_split (a x m y : Nat) (ha : a < 256) (hm : m < 256) : (256 * x + a) &&& (256 * y + m) = 256 * (x &&& y) + (a &&& m) := by
  have e8 : (256 : Nat) = 2 ^ 8 := rfl
  have hlt : a &&& m < 2 ^ 8 := Nat.and_lt_two_pow a (by rw [← e8]; exact hm)
  apply Nat.eq_of_testBit_eq
  intro i
  rw [Nat.testBit_and, e8, Nat.testBit_two_pow_mul_add x ha, Nat.testBit_two_pow_mul_add y hm, Nat.testBit_two_pow_mul_add (x &&& y) hlt]
  split
  · rw [Nat.testBit_and]
  · rw [Nat.testBit_and]
theorem and128 : ∀ a, a < 256 → (a &&& 128 = 0 ↔ a < 128) := by decide +kernel
def w8 : List Nat → Nat
  | [] => 0
  | a :: r => 256 * w8 r + a
def m8 : Nat → Nat
  | 0 => 0
  | k + 1 => 256 * m8 k + 128
theorem w8_hi : ∀ l : List Nat, (∀ a ∈ l, a < 256) → (w8 l &&& m8 l.length = 0 ↔ ∀ a ∈ l, a < 128) := by
  intro l
  induction l with
  | nil => intro _; simp [w8, m8]
  | cons a r ih =>
    intro h
    have ha := h a (by simp)
    have ih := ih fun b hb => h b (by simp [hb])
    have h1 := and128 a ha
    show (256 * w8 r + a) &&& (256 * m8 r.length + 128) = 0 ↔ _
    rw [land_split a _ 128 _ ha (by decide)]
    constructor
    · intro h0
      have e1 : w8 r &&& m8 r.length = 0 := by omega
      have e2 : a &&& 128 = 0 := by omega
      intro b hb
      rcases List.mem_cons.1 hb with rfl | hb
      · exact h1.1 e2
      · exact ih.1 e1 b hb
    · intro hall
      have e1 := ih.2 fun b hb => hall b (by simp [hb])
      have e2 := h1.2 (hall a (by simp))
      rw [e1, e2]
theorem m8_8 : m8 8 = 9259542123273814144 := by decide
theorem or_zero (x y m : Nat) : (x ||| y) &&& m = 0 ↔ x &&& m = 0 ∧ y &&& m = 0 := by
  constructor
  · intro h
    constructor
    · apply Nat.eq_of_testBit_eq
      intro i
      have := congrArg (fun n => n.testBit i) h
      simp only [Nat.testBit_and, Nat.testBit_or, Nat.zero_testBit] at this ⊢
      cases hx : x.testBit i <;> cases hm : m.testBit i <;> simp_all
    · apply Nat.eq_of_testBit_eq
      intro i
      have := congrArg (fun n => n.testBit i) h
      simp only [Nat.testBit_and, Nat.testBit_or, Nat.zero_testBit] at this ⊢
      cases hx : y.testBit i <;> cases hm : m.testBit i <;> simp_all
  · rintro ⟨h1, h2⟩
    apply Nat.eq_of_testBit_eq
    intro i
    have a1 := congrArg (fun n => n.testBit i) h1
    have a2 := congrArg (fun n => n.testBit i) h2
    simp only [Nat.testBit_and, Nat.testBit_or, Nat.zero_testBit] at a1 a2 ⊢
    cases hx : x.testBit i <;> cases hy : y.testBit i <;> cases hm : m.testBit i <;> simp_all
theorem or_add (a b s : Nat) (ha : a < 2 ^ s) : a ||| (b * 2 ^ s) = b * 2 ^ s + a := by
  rw [Nat.or_comm, Nat.mul_comm]
  exact (Nat.two_pow_add_eq_or_of_lt ha b).symm
theorem ibit_or (a b : Nat) (ha : a < 18446744073709551616) (hb : b < 18446744073709551616) : ibit .or .u64 (a : Int) (b : Int) = ((a ||| b : Nat) : Int) := by
  have e : ibit .or .u64 (a : Int) (b : Int) = IntKind.u64.wrap ((BitVec.ofInt 64 (a : Int) ||| BitVec.ofInt 64 (b : Int)).toNat : Int) := rfl
  rw [e, BitVec.toNat_or, BitVec.ofInt_natCast, BitVec.ofInt_natCast, BitVec.toNat_ofNat, BitVec.toNat_ofNat, Nat.mod_eq_of_lt ha, Nat.mod_eq_of_lt hb]
  have : a ||| b < 2 ^ 64 := Nat.or_lt_two_pow ha hb
  rw [wrap_u64 (by omega) (by omega)]
theorem ibit_and (a b : Nat) (ha : a < 18446744073709551616) (hb : b < 18446744073709551616) : ibit .and .u64 (a : Int) (b : Int) = ((a &&& b : Nat) : Int) := by
  have e : ibit .and .u64 (a : Int) (b : Int) = IntKind.u64.wrap ((BitVec.ofInt 64 (a : Int) &&& BitVec.ofInt 64 (b : Int)).toNat : Int) := rfl
  rw [e, BitVec.toNat_and, BitVec.ofInt_natCast, BitVec.ofInt_natCast, BitVec.toNat_ofNat, BitVec.toNat_ofNat, Nat.mod_eq_of_lt ha, Nat.mod_eq_of_lt hb]
  have : a &&& b ≤ a := Nat.and_le_left
  rw [wrap_u64 (by omega) (by omega)]
def wrd (zs : List Int) (i : Nat) : Nat := w8 ((List.range 8).map fun k => (zs.getD (i + k) 0).toNat)
theorem wrd_eq (zs : List Int) (i : Nat) : wrd zs i = 256 * (256 * (256 * (256 * (256 * (256 * (256 * (256 * 0 + (zs.getD (i + 7) 0).toNat) + (zs.getD (i + 6) 0).toNat) + (zs.getD (i + 5) 0).toNat) + (zs.getD (i + 4) 0).toNat) + (zs.getD (i + 3) 0).toNat) + (zs.getD (i + 2) 0).toNat) + (zs.getD (i + 1) 0).toNat) + (zs.getD (i + 0) 0).toNat := rfl
theorem wrd_hi {zs : List Int} (hb : By zs) {i : Nat} (h : i + 8 ≤ zs.length) : wrd zs i &&& 9259542123273814144 = 0 ↔ ∀ k, k < 8 → zs.getD (i + k) 0 < 128 := by
  have h1 : ∀ a ∈ (List.range 8).map fun k => (zs.getD (i + k) 0).toNat, a < 256 := fun a ha => by
    obtain ⟨k, hk, rfl⟩ := List.mem_map.1 ha
    have := hb (i + k) (by have := List.mem_range.1 hk; omega)
    omega
  have h2 := w8_hi _ h1
  rw [List.length_map, List.length_range, m8_8] at h2
  unfold wrd
  rw [h2]
  constructor
  · intro h3 k hk
    have := h3 _ (List.mem_map.2 ⟨k, List.mem_range.2 hk, rfl⟩)
    have := hb (i + k) (by omega)
    omega
  · intro h3 a ha
    obtain ⟨k, hk, rfl⟩ := List.mem_map.1 ha
    have := h3 k (List.mem_range.1 hk)
    have := hb (i + k) (by have := List.mem_range.1 hk; omega)
    omega
theorem wrd_lt {zs : List Int} (hb : By zs) {i : Nat} (h : i + 8 ≤ zs.length) : wrd zs i < 18446744073709551616 := by
  rw [wrd_eq]
  have b0 := hb (i + 0) (by omega); have b1 := hb (i + 1) (by omega); have b2 := hb (i + 2) (by omega); have b3 := hb (i + 3) (by omega)
  have b4 := hb (i + 4) (by omega); have b5 := hb (i + 5) (by omega); have b6 := hb (i + 6) (by omega); have b7 := hb (i + 7) (by omega)
  omega
theorem orsh (a x s c : Nat) (hc : c = 2 ^ s) (ha : a < c) (hx : x < 256) (hs : 256 * c ≤ 18446744073709551616) : ibit .or .u64 (a : Int) (IntKind.u64.wrap (IntKind.u64.wrap (x : Int) * (c : Int))) = ((c * x + a : Nat) : Int) := by
  have h1 : c * x + c ≤ 256 * c := by
    rw [show c * x + c = (x + 1) * c by rw [Nat.add_mul, Nat.mul_comm c x, Nat.one_mul]]
    exact Nat.mul_le_mul_right c (by omega)
  rw [wrap_u64 (n := (x : Int)) (by omega) (by omega)]
  have e : (x : Int) * (c : Int) = ((c * x : Nat) : Int) := by rw [Int.natCast_mul, Int.mul_comm]
  rw [e, wrap_u64 (by omega) (by omega), ibit_or a (c * x) (by omega) (by omega), hc, Nat.mul_comm (2 ^ s) x, or_add a x s (by rw [← hc]; exact ha)]
theorem word_nest (x0 x1 x2 x3 x4 x5 x6 x7 : Nat) (d0 : x0 < 256) (d1 : x1 < 256) (d2 : x2 < 256) (d3 : x3 < 256) (d4 : x4 < 256) (d5 : x5 < 256) (d6 : x6 < 256) (d7 : x7 < 256) :
    ibit .or .u64 (ibit .or .u64 (ibit .or .u64 (ibit .or .u64 (ibit .or .u64 (ibit .or .u64 (ibit .or .u64 (IntKind.u64.wrap (x0 : Int)) (IntKind.u64.wrap (IntKind.u64.wrap (x1 : Int) * 256))) (IntKind.u64.wrap (IntKind.u64.wrap (x2 : Int) * 65536))) (IntKind.u64.wrap (IntKind.u64.wrap (x3 : Int) * 16777216))) (IntKind.u64.wrap (IntKind.u64.wrap (x4 : Int) * 4294967296))) (IntKind.u64.wrap (IntKind.u64.wrap (x5 : Int) * 1099511627776))) (IntKind.u64.wrap (IntKind.u64.wrap (x6 : Int) * 281474976710656))) (IntKind.u64.wrap (IntKind.u64.wrap (x7 : Int) * 72057594037927936))
    = ((256 * (256 * (256 * (256 * (256 * (256 * (256 * (256 * 0 + x7) + x6) + x5) + x4) + x3) + x2) + x1) + x0 : Nat) : Int) := by
  rw [wrap_u64 (n := (x0 : Int)) (by omega) (by omega)]
  rw [show (256 : Int) = ((256 : Nat) : Int) from rfl, orsh x0 x1 8 256 rfl (by omega) d1 (by omega)]
  rw [show (65536 : Int) = ((65536 : Nat) : Int) from rfl, orsh _ x2 16 65536 rfl (by omega) d2 (by omega)]
  rw [show (16777216 : Int) = ((16777216 : Nat) : Int) from rfl, orsh _ x3 24 16777216 rfl (by omega) d3 (by omega)]
  rw [show (4294967296 : Int) = ((4294967296 : Nat) : Int) from rfl, orsh _ x4 32 4294967296 rfl (by omega) d4 (by omega)]
  rw [show (1099511627776 : Int) = ((1099511627776 : Nat) : Int) from rfl, orsh _ x5 40 1099511627776 rfl (by omega) d5 (by omega)]
  rw [show (281474976710656 : Int) = ((281474976710656 : Nat) : Int) from rfl, orsh _ x6 48 281474976710656 rfl (by omega) d6 (by omega)]
  rw [show (72057594037927936 : Int) = ((72057594037927936 : Nat) : Int) from rfl, orsh _ x7 56 72057594037927936 rfl (by omega) d7 (by omega)]
  congr 1
  omega
set_option maxHeartbeats 2000000 in
theorem word_ct (zs : List Int) (hb : By zs) (i : Nat) (h : i + 8 ≤ zs.length) (hl : zs.length ≤ 5000) : ACt Tryd.prog 43 [stz (zs.drop i)] [] (Fn (iv .u64 ((wrd zs i : Nat) : Int))) := by
  have hat : ∀ k, k < 8 → (((bstr (zs.drop i)).data.toList.getD k 0).toNat : Int) = (((zs.getD (i + k) 0).toNat : Nat) : Int) := fun k hk => by
    have := bstr_at (hb.drop i) (show k < (zs.drop i).length by rw [List.length_drop]; omega)
    rw [this]
    have e : (zs.drop i).getD k 0 = zs.getD (i + k) 0 := by simp [List.getD_eq_getElem?_getD, List.getElem?_drop]
    rw [e]
    have := hb (i + k) (by omega)
    omega
  have hs := bstr_size (zs.drop i)
  rw [List.length_drop] at hs
  have hbn : ∀ k, k < 8 → (zs.getD (i + k) 0).toNat < 256 := fun k hk => by have := hb (i + k) (by omega); omega
  rw [wrd_eq]
  have c0 := hat 0 (by omega); have c1 := hat 1 (by omega); have c2 := hat 2 (by omega); have c3 := hat 3 (by omega)
  have c4 := hat 4 (by omega); have c5 := hat 5 (by omega); have c6 := hat 6 (by omega); have c7 := hat 7 (by omega)
  have d0 := hbn 0 (by omega); have d1 := hbn 1 (by omega); have d2 := hbn 2 (by omega); have d3 := hbn 3 (by omega)
  have d4 := hbn 4 (by omega); have d5 := hbn 5 (by omega); have d6 := hbn 6 (by omega); have d7 := hbn 7 (by omega)
  obtain ⟨S, hS⟩ : ∃ S, S = bstr (zs.drop i) := ⟨_, rfl⟩
  unfold stz
  rw [← hS] at hs c0 c1 c2 c3 c4 c5 c6 c7 ⊢
  generalize (zs.getD (i + 0) 0).toNat = x0 at *
  generalize (zs.getD (i + 1) 0).toNat = x1 at *
  generalize (zs.getD (i + 2) 0).toNat = x2 at *
  generalize (zs.getD (i + 3) 0).toNat = x3 at *
  generalize (zs.getD (i + 4) 0).toNat = x4 at *
  generalize (zs.getD (i + 5) 0).toNat = x5 at *
  generalize (zs.getD (i + 6) 0).toNat = x6 at *
  generalize (zs.getD (i + 7) 0).toNat = x7 at *
  obtain ⟨m, hm⟩ : ∃ m, m = zs.length - i := ⟨_, rfl⟩
  rw [← hm] at hs
  have im : 8 ≤ m := by omega
  have i0 : 0 < m := by omega
  have i1 : 1 < m := by omega
  have i2 : 2 < m := by omega
  have i3 : 3 < m := by omega
  have i4 : 4 < m := by omega
  have i5 : 5 < m := by omega
  have i6 : 6 < m := by omega
  have i7 : 7 < m := by omega
  refine ACt.intro Tryd.func43 rfl (by kernel_rfl) (by simp [Tryd.ntmps43]) (fun cx => ?_)
  simp only [argE, Tryd.ntmps43, Tryd.results43]
  have e := word_nest x0 x1 x2 x3 x4 x5 x6 x7 d0 d1 d2 d3 d4 d5 d6 d7
  obtain ⟨V, hV⟩ : ∃ V : Nat, V = 256 * (256 * (256 * (256 * (256 * (256 * (256 * (256 * 0 + x7) + x6) + x5) + x4) + x3) + x2) + x1) + x0 := ⟨_, rfl⟩
  rw [← hV] at e ⊢
  first | (have FRx := FR; clear FRx) | have FR := fr0S
  have FA := Sm.mk (And.intro TFTxK (And.intro hs (And.intro c0 (And.intro c1 (And.intro c2 (And.intro c3 (And.intro c4 (And.intro c5 (And.intro c6 (And.intro c7 (And.intro i0 (And.intro i1 (And.intro i2 (And.intro i3 (And.intro i4 (And.intro i5 (And.intro i6 i7)))))))))))))))))
  repeat' first | (apply Sm.mk; refine Ys ?_) | refine WP.seq fun K hK => ?_ | (apply Ob.mk; exact Yo) | refine And.intro (Ob.out ?_) ?_ | refine Y1TxK ?_ | refine YzTxK ?_ | (refine WP.cond rfl (fun hc => ?_) (fun hc => ?_) <;> (try simp only [ZC, reduceCtorEq, ZD] at hc) <;> (try exact absurd hc (by decide)) <;> (try (exfalso; omega))) | refine Rt.mk (And.intro (fun hg => Sm.out ?_) fun hg => Sm.out ?_) | (refine Nu.mk ?_; first | (fail_if_success have := nb1); intro nb1 | (fail_if_success have := nb2); intro nb2 | (fail_if_success have := nb3); intro nb3 | intro nbz) | (apply Yfr; refine Yf FR fun hFRb FR => ?_) | refine Two.mk ?_ ?_ | (apply Yxc; exact Yx) | refine Cs.mk fun hcs => Sm.out ?_ | go_step | omega | (simp only [maxLen_eq]; omega) | exact trivial
  (have FA := Sm.mk (And.intro e FA.out); refine Yg ?_; try exact trivial)
theorem drop_at (zs : List Int) (i : Nat) : (zs.drop i).getD 0 0 = zs.getD i 0 := by simp [List.getD_eq_getElem?_getD, List.getElem?_drop]
theorem elR_w (zs : List Int) (i : Nat) : 1 ≤ (elR zs i).2 := by
  unfold elR
  split
  · simp
  · split <;> simp
theorem rnF_more (zs : List Int) : ∀ f i f', zs.length - i ≤ f → zs.length - i ≤ f' → rnF zs f i = rnF zs f' i := by
  intro f
  induction f with
  | zero =>
    intro i f' h h'
    cases f' with
    | zero => rfl
    | succ f' => rw [rnF_succ, if_neg (by omega)]; rfl
  | succ f ih =>
    intro i f' h h'
    cases f' with
    | zero => rw [rnF_succ, if_neg (by omega)]; rfl
    | succ f' =>
      rw [rnF_succ, rnF_succ]
      have := elR_w zs i
      rw [ih (i + (elR zs i).2) f' (by omega) (by omega)]
def Gd (zs : List Int) (i : Nat) : Prop := ∀ r ∈ rnF zs (zs.length - i) i, r ≠ -1
theorem Gd_end {zs : List Int} {i : Nat} (h : zs.length ≤ i) : Gd zs i := by
  unfold Gd
  rw [show zs.length - i = 0 by omega]
  intro r hr; cases hr
theorem Gd_step {zs : List Int} {i : Nat} (h : i < zs.length) : Gd zs i ↔ ((elR zs i).1 ≠ -1 ∧ Gd zs (i + (elR zs i).2)) := by
  unfold Gd
  obtain ⟨f, hf⟩ : ∃ f, zs.length - i = f + 1 := ⟨zs.length - i - 1, by omega⟩
  rw [hf, rnF_succ, if_pos h]
  have := elR_w zs i
  rw [rnF_more zs f (i + (elR zs i).2) (zs.length - (i + (elR zs i).2)) (by omega) (by omega)]
  simp only [List.mem_cons, forall_eq_or_imp]
theorem Gd_lo {zs : List Int} (hb : By zs) {i : Nat} (h : i < zs.length) (h0 : zs.getD i 0 < 128) : Gd zs i ↔ Gd zs (i + 1) := by
  rw [Gd_step h]
  have e : elR zs i = (zs.getD i 0, 1) := by unfold elR; rw [if_pos h0]
  rw [e]
  have := hb i h
  constructor
  · exact fun h => h.2
  · exact fun h => ⟨by simp only; omega, h⟩
theorem Gd_los {zs : List Int} (hb : By zs) : ∀ (k i : Nat), i + k ≤ zs.length → (∀ j, j < k → zs.getD (i + j) 0 < 128) → (Gd zs i ↔ Gd zs (i + k)) := by
  intro k
  induction k with
  | zero => intro i _ _; exact Iff.rfl
  | succ k ih =>
    intro i h hj
    rw [ih i (by omega) fun j h => hj j (by omega), Gd_lo hb (by omega) (hj k (by omega))]
    exact Iff.rfl
def szB (b : Int) : Nat := if b < 194 then 1 else if b < 224 then 2 else if b < 240 then 3 else if b < 245 then 4 else 1
def acB (b : Int) : Nat := if b < 194 then 15 else if b = 224 then 1 else if b = 237 then 2 else if b = 240 then 3 else if b = 244 then 4 else if b < 245 then 0 else 15
def loB (b : Int) : Int := if b = 224 then 160 else if b = 240 then 144 else 128
def hiB (b : Int) : Int := if b = 237 then 159 else if b = 244 then 143 else 191
theorem el_one {zs : List Int} (hb : By zs) {i : Nat} (h : i < zs.length) (h0 : 128 ≤ zs.getD i 0) (h1 : szB (zs.getD i 0) = 1) : ¬ Gd zs i := by
  rw [Gd_step h]
  have hx := hb i h
  have e : elR zs i = (-1, 1) := by
    unfold elR
    rw [if_neg (by omega), if_neg]
    rintro ⟨a1, a2, a3⟩
    unfold szB at h1
    have hz : zs.getD i 0 < 194 ∨ 245 ≤ zs.getD i 0 := by
      by_cases c1 : zs.getD i 0 < 194
      · exact .inl c1
      · rw [if_neg c1] at h1
        by_cases c2 : zs.getD i 0 < 224
        · rw [if_pos c2] at h1; cases h1
        · rw [if_neg c2] at h1
          by_cases c3 : zs.getD i 0 < 240
          · rw [if_pos c3] at h1; cases h1
          · rw [if_neg c3] at h1
            by_cases c4 : zs.getD i 0 < 245
            · rw [if_pos c4] at h1; cases h1
            · exact .inr (by omega)
    rcases hz with hz | hz
    · by_cases c : 192 ≤ zs.getD i 0
      · have hn : nB (zs.getD i 0) = 1 := by unfold nB; rw [if_pos (by omega)]
        rw [hn] at a2 a3
        have a4 := a2 1 (by omega) (by omega)
        have a5 : (128 : Int) ≤ 64 * (zs.getD i 0 - 192) + zs.getD (i + 1) 0 - 128 := a3.1
        have := a4.2
        omega
      · exact a1 (by unfold nB; rw [if_neg (by omega), if_neg (by omega), if_neg (by omega)])
    · by_cases c : zs.getD i 0 < 248
      · have hn : nB (zs.getD i 0) = 3 := by unfold nB; rw [if_neg (by omega), if_neg (by omega), if_pos (by omega)]
        rw [hn] at a2 a3
        have a4 := a2 1 (by omega) (by omega)
        have a5 := a2 2 (by omega) (by omega)
        have a6 := a2 3 (by omega) (by omega)
        have a7 : 64 * (64 * (64 * (zs.getD i 0 - 240) + zs.getD (i + 1) 0 - 128) + zs.getD (i + 2) 0 - 128) + zs.getD (i + 3) 0 - 128 ≤ 1114111 := a3.2.1
        have := a4.2; have := a5.2; have := a6.2
        omega
      · exact a1 (by unfold nB; rw [if_neg (by omega), if_neg (by omega), if_neg (by omega)])
  rw [e]
  exact fun hh => hh.1 rfl
def rest (zs : List Int) (i : Nat) : Prop := i + szB (zs.getD i 0) ≤ zs.length ∧ (loB (zs.getD i 0) ≤ zs.getD (i + 1) 0 ∧ zs.getD (i + 1) 0 ≤ hiB (zs.getD i 0)) ∧ (3 ≤ szB (zs.getD i 0) → 128 ≤ zs.getD (i + 2) 0 ∧ zs.getD (i + 2) 0 ≤ 191) ∧ (4 ≤ szB (zs.getD i 0) → 128 ≤ zs.getD (i + 3) 0 ∧ zs.getD (i + 3) 0 ≤ 191)
theorem el_rest {zs : List Int} (hb : By zs) {i : Nat} (h : i < zs.length) (h0 : 128 ≤ zs.getD i 0) (h1 : szB (zs.getD i 0) ≠ 1) : Gd zs i ↔ (rest zs i ∧ Gd zs (i + szB (zs.getD i 0))) := by
  rw [Gd_step h]
  have hx := hb i h
  suffices key : (rest zs i → (elR zs i).1 ≠ -1 ∧ (elR zs i).2 = szB (zs.getD i 0)) ∧ (¬ rest zs i → (elR zs i).1 = -1) by
    by_cases hr : rest zs i
    · obtain ⟨k1, k2⟩ := key.1 hr
      rw [k2]
      exact ⟨fun hh => ⟨hr, hh.2⟩, fun hh => ⟨k1, hh.2⟩⟩
    · exact ⟨fun hh => absurd (key.2 hr) hh.1, fun hh => absurd hh.1 hr⟩
  unfold elR
  rw [if_neg (by omega)]
  unfold rest
  generalize hz : zs.getD i 0 = z at *
  have hc0 : ∀ n, cP zs i n 0 = z - bsR n := fun n => by rw [← hz]; rfl
  by_cases n1 : z < 224
  · have hlo : 194 ≤ z := by
      unfold szB at h1
      by_cases c : z < 194
      · rw [if_pos c] at h1; exact absurd rfl h1
      · omega
    have hs : szB z = 2 := by unfold szB; rw [if_neg (by omega), if_pos n1]
    have hn : nB z = 1 := by unfold nB; rw [if_pos (by omega)]
    have hl : loB z = 128 := by unfold loB; rw [if_neg (by omega), if_neg (by omega)]
    have hh : hiB z = 191 := by unfold hiB; rw [if_neg (by omega), if_neg (by omega)]
    have hcp : cP zs i 1 1 = 64 * (z - 192) + zs.getD (i + 1) 0 - 128 := by rw [cP_succ, hc0]; rfl
    rw [hs, hn, hl, hh]
    constructor
    · rintro ⟨a1, a2, -, -⟩
      have ha : allC zs i 1 := fun k k1 k2 => by rcases (show k = 1 by omega) with rfl; exact ⟨by omega, a2.1, a2.2⟩
      have hf : fitR 1 (cP zs i 1 1) := by rw [hcp]; exact ⟨by show (128 : Int) ≤ _; omega, by omega, by omega⟩
      rw [if_pos ⟨by decide, ha, hf⟩]
      exact ⟨by simp only; rw [hcp]; omega, rfl⟩
    · intro hno
      rw [if_neg]
      rintro ⟨-, a2, -⟩
      have a4 := a2 1 (by omega) (by omega)
      exact hno ⟨by have := a4.1; omega, a4.2, by omega, by omega⟩
  by_cases n2 : z < 240
  · have hs : szB z = 3 := by unfold szB; rw [if_neg (by omega), if_neg n1, if_pos n2]
    have hn : nB z = 2 := by unfold nB; rw [if_neg (by omega), if_pos (by omega)]
    have hcp : cP zs i 2 2 = 64 * (64 * (z - 224) + zs.getD (i + 1) 0 - 128) + zs.getD (i + 2) 0 - 128 := by rw [cP_succ, cP_succ, hc0]; rfl
    have hlh : (z = 224 ∧ loB z = 160 ∧ hiB z = 191) ∨ (z = 237 ∧ loB z = 128 ∧ hiB z = 159) ∨ (z ≠ 224 ∧ z ≠ 237 ∧ loB z = 128 ∧ hiB z = 191) := by
      by_cases c1 : z = 224
      · exact .inl ⟨c1, by rw [c1]; rfl, by rw [c1]; rfl⟩
      by_cases c2 : z = 237
      · exact .inr (.inl ⟨c2, by rw [c2]; rfl, by rw [c2]; rfl⟩)
      exact .inr (.inr ⟨c1, c2, by unfold loB; rw [if_neg c1, if_neg (by omega)], by unfold hiB; rw [if_neg c2, if_neg (by omega)]⟩)
    rw [hs, hn]
    constructor
    · rintro ⟨a1, a2, a3, -⟩
      have a3 := a3 (by omega)
      have ha : allC zs i 2 := fun k k1 k2 => by rcases (by omega : k = 1 ∨ k = 2) with rfl | rfl; exact ⟨by omega, by omega, by omega⟩; exact ⟨by omega, a3.1, a3.2⟩
      have hf : fitR 2 (cP zs i 2 2) := by rw [hcp]; exact ⟨by show (2048 : Int) ≤ _; omega, by omega, by omega⟩
      rw [if_pos ⟨by decide, ha, hf⟩]
      exact ⟨by simp only; rw [hcp]; omega, rfl⟩
    · intro hno
      rw [if_neg]
      rintro ⟨-, a2, f1, f2, f3⟩
      have a4 := a2 1 (by omega) (by omega)
      have a5 := a2 2 (by omega) (by omega)
      have f1 : (2048 : Int) ≤ _ := f1
      rw [hcp] at f1 f2 f3
      have b4 := a4.2; have b5 := a5.2
      exact hno ⟨by have := a5.1; omega, ⟨by omega, by omega⟩, fun _ => b5, by omega⟩
  · have hlt : z < 245 := by
      unfold szB at h1
      by_cases c : z < 245
      · exact c
      · rw [if_neg (by omega), if_neg n1, if_neg n2, if_neg c] at h1; exact absurd rfl h1
    have hs : szB z = 4 := by unfold szB; rw [if_neg (by omega), if_neg n1, if_neg n2, if_pos hlt]
    have hn : nB z = 3 := by unfold nB; rw [if_neg (by omega), if_neg (by omega), if_pos (by omega)]
    have hcp : cP zs i 3 3 = 64 * (64 * (64 * (z - 240) + zs.getD (i + 1) 0 - 128) + zs.getD (i + 2) 0 - 128) + zs.getD (i + 3) 0 - 128 := by rw [cP_succ, cP_succ, cP_succ, hc0]; rfl
    have hlh : (z = 240 ∧ loB z = 144 ∧ hiB z = 191) ∨ (z = 244 ∧ loB z = 128 ∧ hiB z = 143) ∨ (z ≠ 240 ∧ z ≠ 244 ∧ loB z = 128 ∧ hiB z = 191) := by
      by_cases c1 : z = 240
      · exact .inl ⟨c1, by rw [c1]; rfl, by rw [c1]; rfl⟩
      by_cases c2 : z = 244
      · exact .inr (.inl ⟨c2, by rw [c2]; rfl, by rw [c2]; rfl⟩)
      exact .inr (.inr ⟨c1, c2, by unfold loB; rw [if_neg (by omega), if_neg c1], by unfold hiB; rw [if_neg (by omega), if_neg c2]⟩)
    rw [hs, hn]
    constructor
    · rintro ⟨a1, a2, a3, a6⟩
      have a3 := a3 (by omega)
      have a6 := a6 (by omega)
      have ha : allC zs i 3 := fun k k1 k2 => by rcases (by omega : k = 1 ∨ k = 2 ∨ k = 3) with rfl | rfl | rfl; exact ⟨by omega, by omega, by omega⟩; exact ⟨by omega, a3.1, a3.2⟩; exact ⟨by omega, a6.1, a6.2⟩
      have hf : fitR 3 (cP zs i 3 3) := by rw [hcp]; exact ⟨by show (65536 : Int) ≤ _; omega, by omega, by omega⟩
      rw [if_pos ⟨by decide, ha, hf⟩]
      exact ⟨by simp only; rw [hcp]; omega, rfl⟩
    · intro hno
      rw [if_neg]
      rintro ⟨-, a2, f1, f2, f3⟩
      have a4 := a2 1 (by omega) (by omega)
      have a5 := a2 2 (by omega) (by omega)
      have a6 := a2 3 (by omega) (by omega)
      have f1 : (65536 : Int) ≤ _ := f1
      rw [hcp] at f1 f2 f3
      have b4 := a4.2; have b5 := a5.2; have b6 := a6.2
      exact hno ⟨by have := a6.1; omega, ⟨by omega, by omega⟩, fun _ => b5, fun _ => b6⟩
def fsZ : List Int := [240, 240, 240, 240, 240, 240, 240, 240, 240, 240, 240, 240, 240, 240, 240, 240, 240, 240, 240, 240, 240, 240, 240, 240, 240, 240, 240, 240, 240, 240, 240, 240, 240, 240, 240, 240, 240, 240, 240, 240, 240, 240, 240, 240, 240, 240, 240, 240, 240, 240, 240, 240, 240, 240, 240, 240, 240, 240, 240, 240, 240, 240, 240, 240, 240, 240, 240, 240, 240, 240, 240, 240, 240, 240, 240, 240, 240, 240, 240, 240, 240, 240, 240, 240, 240, 240, 240, 240, 240, 240, 240, 240, 240, 240, 240, 240, 240, 240, 240, 240, 240, 240, 240, 240, 240, 240, 240, 240, 240, 240, 240, 240, 240, 240, 240, 240, 240, 240, 240, 240, 240, 240, 240, 240, 240, 240, 240, 240, 241, 241, 241, 241, 241, 241, 241, 241, 241, 241, 241, 241, 241, 241, 241, 241, 241, 241, 241, 241, 241, 241, 241, 241, 241, 241, 241, 241, 241, 241, 241, 241, 241, 241, 241, 241, 241, 241, 241, 241, 241, 241, 241, 241, 241, 241, 241, 241, 241, 241, 241, 241, 241, 241, 241, 241, 241, 241, 241, 241, 241, 241, 241, 241, 241, 241, 2, 2, 2, 2, 2, 2, 2, 2, 2, 2, 2, 2, 2, 2, 2, 2, 2, 2, 2, 2, 2, 2, 2, 2, 2, 2, 2, 2, 2, 2, 19, 3, 3, 3, 3, 3, 3, 3, 3, 3, 3, 3, 3, 35, 3, 3, 52, 4, 4, 4, 68, 241, 241, 241, 241, 241, 241, 241, 241, 241, 241, 241]
def acZ : List Int := [128, 191, 160, 191, 128, 159, 144, 191, 128, 143, 0, 0, 0, 0, 0, 0, 0, 0, 0, 0, 0, 0, 0, 0, 0, 0, 0, 0, 0, 0, 0, 0]
theorem fsZ_len : fsZ.length = 256 := by decide +kernel
theorem acZ_len : acZ.length = 32 := by decide +kernel
theorem fs_at : ∀ n : Nat, n < 256 → 128 ≤ n → fsZ.getD n 0 = ((16 * acB (n : Int) + szB (n : Int) : Nat) : Int) := by decide +kernel
theorem and7 : ∀ x : Nat, x < 256 → ibit .and .u8 (x : Int) 7 = ((x % 8 : Nat) : Int) := by decide +kernel
theorem ac_at : ∀ n : Nat, n < 256 → 194 ≤ n → n < 245 → acZ.getD (2 * acB (n : Int)) 0 = loB (n : Int) ∧ acZ.getD (2 * acB (n : Int) + 1) 0 = hiB (n : Int) := by decide +kernel
theorem ac_lt : ∀ n : Nat, n < 256 → 128 ≤ n → acB (n : Int) < 16 ∧ szB (n : Int) < 8 := by decide +kernel
end Go.Proofs.YtdkkfgcdnojmaaaDoor
