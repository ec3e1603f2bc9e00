/-
  The walks and the laws that the statement leans on, part 17.
-/
import Derived.Test.YtdkkfgcdnojmaaaDoorS13
import Derived.Test.YtdkkfgcdnojmaaaDoorS16
namespace Go.Proofs.YtdkkfgcdnojmaaaDoor
open Go
set_option linter.unusedVariables false
set_option linter.unusedSimpArgs false
set_option linter.defProp false
def TFTxM :=
  And.intro (And.intro (And.intro (And.intro (And.intro tyc0 tyc3) (And.intro zmb3 tyc4)) (And.intro (And.intro zmb4 tyc5) (And.intro zmb5 (And.intro tyc9 zmb9)))) (And.intro (And.intro (And.intro tyc12 zmb12) (And.intro tyc53 zmb53)) (And.intro (And.intro elt61 tyc63) (And.intro foff63_0 (And.intro fpart63_0 foff63_1))))) (And.intro (And.intro (And.intro (And.intro fpart63_1 fe63) (And.intro zmb63 bldT63)) (And.intro (And.intro tyc64 elt64) (And.intro zmb64 (And.intro bldT64 arr161)))) (And.intro (And.intro (And.intro Tryd.underlying0 Tryd.underlying3) (And.intro Tryd.underlying4 (And.intro Tryd.underlying5 Tryd.underlying9))) (And.intro (And.intro Tryd.underlying12 Tryd.underlying53) (And.intro Tryd.underlying61 (And.intro Tryd.underlying63 Tryd.underlying64)))))
theorem Y1TxM {G R : Prop} (r : R) (h : R → G := by intro r; first | (apply WP.region; exact rvc_sound _ _ (Sm.out r)) | exact WP.drawK rfl mixed (by decide +kernel) (Sm.out r) | (apply WP.block; exact r) | (apply WP.skip; exact Yq r) | (apply WP.exit; exact Yq r) | (apply WP.ret; exact Sm.out r) | exact WP.cond rfl (fun _ => r) (fun hg => absurd hg (by decide)) | exact WP.cond rfl (fun hg => absurd hg (by decide)) (fun _ => r) | exact Rt.mk (And.intro (fun _ => Sm.out r) fun hg => absurd hg (by decide)) | exact Rt.mk (And.intro (fun hg => absurd hg (by decide)) fun _ => Sm.out r)) : G := h r
theorem YzTxM {G R : Prop} (r : R) (h : R → G := by intro r; first | (apply ExG.no; exact Sm.out r) | (apply Or.inl; apply ExG.no; exact Sm.out r) | exact Or.inl (And.intro (fun hg => absurd hg (by decide)) (ExG.no (Sm.out r)))) : G := h r
open Classical in
noncomputable def gdB (zs : List Int) : Bool := decide (Gd zs 0)
theorem two_at (L : List Int) (k : Nat) (h : k + 2 ≤ L.length) : (L.drop k).take 2 = [L.getD k 0, L.getD (k + 1) 0] := by
  apply List.ext_getElem
  · simp; omega
  · intro i h1 h2
    have : i = 0 ∨ i = 1 := by simp at h2; omega
    rcases this with rfl | rfl <;> simp [List.getD_eq_getElem?_getD, List.getElem?_eq_getElem (show k < L.length by omega), List.getElem?_eq_getElem (show k + 1 < L.length by omega)]
theorem ext_drop (zs : List Int) (i k m : Nat) (hm : m = zs.length - i) (hk : k ≤ m) : (bstr (zs.drop i)).extract k m = bstr (zs.drop (i + k)) := by
  have hx := bstr_ext (zs.drop i) k (zs.drop i).length
  rw [List.take_length, List.drop_drop, List.length_drop, ← hm] at hx
  exact hx
theorem or_lt64 {a b : Nat} (ha : a < 18446744073709551616) (hb : b < 18446744073709551616) : a ||| b < 18446744073709551616 := Nat.or_lt_two_pow (n := 64) ha hb
theorem sz_cases (b : Int) : szB b = 1 ∨ szB b = 2 ∨ szB b = 3 ∨ szB b = 4 := by unfold szB; (repeat' split) <;> omega
theorem ge_of_sz {q s : Nat} (h : szB (q : Int) = s) (hs : s ≠ 1) : 194 ≤ q ∧ q < 245 := by
  unfold szB at h
  by_cases c1 : (q : Int) < 194
  · rw [if_pos c1] at h; omega
  by_cases c2 : (q : Int) < 245
  · omega
  rw [if_neg c1, if_neg (by omega), if_neg (by omega), if_neg c2] at h; omega
set_option maxRecDepth 20000 in
set_option maxHeartbeats 8000000 in
theorem vs_ct (zs : List Int) (hb : By zs) (hl : zs.length ≤ 5000) (n0 n1 : Nat) : ACt Tryd.prog 28 [stz zs] [(0, .zs .u8 fsZ 256 n0), (1, .zs .u8 acZ 32 n1)] (fun r F' => r = bv (gdB zs) ∧ F' = [(0, .zs .u8 fsZ 256 n0), (1, .zs .u8 acZ 32 n1)]) := by
  have hfl := fsZ_len
  have hal := acZ_len
  obtain ⟨FZ, hFZ⟩ : ∃ FZ, FZ = fsZ := ⟨_, rfl⟩
  obtain ⟨AZ, hAZ⟩ : ∃ AZ, AZ = acZ := ⟨_, rfl⟩
  rw [← hFZ] at hfl ⊢
  rw [← hAZ] at hal ⊢
  refine ACt.intro Tryd.func28 rfl (by kernel_rfl) (by simp [Tryd.ntmps28]) (fun cx => ?_)
  simp only [argE, Tryd.ntmps28, Tryd.results28]
  first | (have FRx := FR; clear FRx) | have FR := fr0S
  have FA := Sm.mk (TFTxM)
  repeat' first | (apply Sm.mk; refine Ys ?_) | refine WP.seq fun K hK => ?_ | (apply Ob.mk; exact Yo) | refine And.intro (Ob.out ?_) ?_ | refine Y1TxM ?_ | refine YzTxM ?_ | (refine WP.cond rfl (fun hc => ?_) (fun hc => ?_) <;> (try simp only [ZC, reduceCtorEq, ZD] at hc) <;> (try exact absurd hc (by decide)) <;> (try (exfalso; omega))) | refine Rt.mk (And.intro (fun hg => Sm.out ?_) fun hg => Sm.out ?_) | (refine Nu.mk ?_; first | (fail_if_success have := nb1); intro nb1 | (fail_if_success have := nb2); intro nb2 | (fail_if_success have := nb3); intro nb3 | (fail_if_success have := nb4); intro nb4 | intro nbz) | (apply Yfr; refine Yf FR fun hFRb FR => ?_) | refine Two.mk ?_ ?_ | (apply Yxc; exact Yx) | refine Cs.mk fun hcs => Sm.out ?_ | go_step | omega | (simp only [maxLen_eq]; omega) | exact trivial
  refine WP.loop (Γ := Nat) (fun i => ⟨[(0, stz (zs.drop i))], [(0, .zs .u8 FZ 256 n0), (1, .zs .u8 AZ 32 n1)]⟩) (fun i => i ≤ zs.length ∧ (Gd zs 0 ↔ Gd zs i)) (fun i => zs.length - i) 0 ⟨Nat.zero_le _, Iff.rfl⟩ (Sub.pick (by simp [pickB, hget, hdel, FR.out]) (by simp [look])) ?_
  intro i ⟨hi, hg⟩
  try simp only at hi hg ⊢
  have FR : Sm (¬ ((1 : Nat) = 0)) := Sm.mk Nat.one_ne_zero
  have hs := bstr_size (zs.drop i)
  rw [List.length_drop] at hs
  by_cases hlt : i < zs.length
  · have hat := bstr_at (hb.drop i) (show 0 < (zs.drop i).length by rw [List.length_drop]; omega)
    rw [drop_at] at hat
    have hbi := hb i hlt
    obtain ⟨z, hz0⟩ : ∃ z, z = zs.getD i 0 := ⟨_, rfl⟩
    rw [← hz0] at hat hbi
    obtain ⟨S, hS⟩ : ∃ S, S = bstr (zs.drop i) := ⟨_, rfl⟩
    unfold stz
    rw [← hS] at hs hat ⊢
    obtain ⟨m, hm⟩ : ∃ m, m = zs.length - i := ⟨_, rfl⟩
    rw [← hm] at hs
    have hext : ∀ k, k ≤ m → S.extract k m = bstr (zs.drop (i + k)) := fun k hk => by
      have hx := bstr_ext (zs.drop i) k (zs.drop i).length
      rw [List.take_length, List.drop_drop, List.length_drop, ← hm, ← hS] at hx
      exact hx
    have hatk : ∀ k, k < m → (((S.data.toList.getD k 0).toNat : Nat) : Int) = zs.getD (i + k) 0 := fun k hk => by
      have hx := bstr_at (hb.drop i) (show k < (zs.drop i).length by rw [List.length_drop]; omega)
      rw [← hS, show (zs.drop i).getD k 0 = zs.getD (i + k) 0 by simp [List.getD_eq_getElem?_getD, List.getElem?_drop]] at hx
      exact hx
    have k1 : decide ((m : Int) > 0) = true := decide_eq_true (by omega)
    have i2 : 0 < m := by omega
    by_cases h128 : z < 128
    · have k2 : decide (z < 128) = true := decide_eq_true h128
      have hx1 := hext 1 (by omega)
      have g1 : Gd zs 0 ↔ Gd zs (i + 1) := hg.trans (Gd_lo hb hlt (by rw [← hz0]; exact h128))
      obtain ⟨S1, hS1⟩ : ∃ S, S = bstr (zs.drop (i + 1)) := ⟨_, rfl⟩
      have hS1' : bstr (zs.drop (i + 1)) = S1 := hS1.symm
      rw [← hS1] at hx1
      obtain ⟨m1, hm1⟩ : ∃ x, x = m - 1 := ⟨_, rfl⟩
      have hs1 : S1.size = m1 := by rw [hS1, bstr_size, List.length_drop]; omega
      have im1 : 1 ≤ m := by omega
      by_cases c8 : m1 > 8
      case neg =>
        have k3 : decide ((m1 : Int) > 8) = false := decide_eq_false (by omega)
        first | (have FRx := FR; clear FRx) | have FR := fr0S
        have FA := Sm.mk (And.intro TFTxM (And.intro hs (And.intro hat (And.intro k1 (And.intro k2 (And.intro i2 (And.intro hx1 (And.intro hs1 (And.intro im1 k3)))))))))
        repeat' first | (apply Sm.mk; refine Ys ?_) | refine WP.seq fun K hK => ?_ | (apply Ob.mk; exact Yo) | refine And.intro (Ob.out ?_) ?_ | refine Y1TxM ?_ | refine YzTxM ?_ | (refine WP.cond rfl (fun hc => ?_) (fun hc => ?_) <;> (try simp only [ZC, reduceCtorEq, ZD] at hc) <;> (try exact absurd hc (by decide)) <;> (try (exfalso; omega))) | refine Rt.mk (And.intro (fun hg => Sm.out ?_) fun hg => Sm.out ?_) | (refine Nu.mk ?_; first | (fail_if_success have := nb1); intro nb1 | (fail_if_success have := nb2); intro nb2 | (fail_if_success have := nb3); intro nb3 | (fail_if_success have := nb4); intro nb4 | intro nbz) | (apply Yfr; refine Yf FR fun hFRb FR => ?_) | refine Two.mk ?_ ?_ | (apply Yxc; exact Yx) | refine Cs.mk fun hcs => Sm.out ?_ | go_step | omega | (simp only [maxLen_eq]; omega) | exact trivial
        exact ⟨i + 1, ⟨by omega, g1⟩, by omega, (Sub.pick (by simp [pickB, hget, hdel, FR.out, hS1']) (by simp [look, hS1']))⟩
      have k3 : decide ((m1 : Int) > 8) = true := decide_eq_true (by omega)
      have cW := word_ct zs hb (i + 1) (by omega) hl
      unfold stz at cW
      rw [hS1'] at cW
      have hlw := wrd_lt hb (i := i + 1) (by omega)
      have hwi := wrd_hi hb (i := i + 1) (by omega)
      obtain ⟨W, hW⟩ : ∃ W, W = wrd zs (i + 1) := ⟨_, rfl⟩
      rw [← hW] at cW hlw hwi
      have ea : ibit .and .u64 (W : Int) 9259542123273814144 = ((W &&& 9259542123273814144 : Nat) : Int) := ibit_and W 9259542123273814144 hlw (by omega)
      obtain ⟨A, hA⟩ : ∃ A, A = W &&& 9259542123273814144 := ⟨_, rfl⟩
      rw [← hA] at ea hwi
      by_cases cA : A = 0
      case neg =>
        have k4 : ((A : Int) == 0) = false := beq_eq_false_iff_ne.2 (by omega)
        first | (have FRx := FR; clear FRx) | have FR := fr0S
        have FA := Sm.mk (And.intro TFTxM (And.intro hs (And.intro hat (And.intro k1 (And.intro k2 (And.intro i2 (And.intro hx1 (And.intro hs1 (And.intro im1 (And.intro k3 (And.intro ea k4)))))))))))
        repeat' first | (apply Sm.mk; refine Ys ?_) | refine WP.seq fun K hK => ?_ | (apply Ob.mk; exact Yo) | refine And.intro (Ob.out ?_) ?_ | refine Y1TxM ?_ | refine Yc (c := cW) (r := ?_) | refine YzTxM ?_ | (refine WP.cond rfl (fun hc => ?_) (fun hc => ?_) <;> (try simp only [ZC, reduceCtorEq, ZD] at hc) <;> (try exact absurd hc (by decide)) <;> (try (exfalso; omega))) | refine Rt.mk (And.intro (fun hg => Sm.out ?_) fun hg => Sm.out ?_) | (refine Nu.mk ?_; first | (fail_if_success have := nb1); intro nb1 | (fail_if_success have := nb2); intro nb2 | (fail_if_success have := nb3); intro nb3 | (fail_if_success have := nb4); intro nb4 | intro nbz) | (apply Yfr; refine Yf FR fun hFRb FR => ?_) | refine Two.mk ?_ ?_ | (apply Yxc; exact Yx) | refine Cs.mk fun hcs => Sm.out ?_ | go_step | omega | (simp only [maxLen_eq]; omega) | exact trivial
        exact ⟨i + 1, ⟨by omega, g1⟩, by omega, (Sub.pick (by simp [pickB, hget, hdel, FR.out, hS1']) (by simp [look, hS1']))⟩
      have k4 : ((A : Int) == 0) = true := beq_iff_eq.2 (by omega)
      have g9 : Gd zs 0 ↔ Gd zs (i + 9) := g1.trans (Gd_los hb 8 (i + 1) (by omega) (hwi.1 cA))
      obtain ⟨S9, hS9⟩ : ∃ S, S = bstr (zs.drop (i + 9)) := ⟨_, rfl⟩
      have hS9' : bstr (zs.drop (i + 9)) = S9 := hS9.symm
      have hx9 : S1.extract 8 m1 = S9 := by rw [hS1, hS9]; exact ext_drop zs (i + 1) 8 m1 (by omega) (by omega)
      obtain ⟨m9, hm9⟩ : ∃ x, x = m - 9 := ⟨_, rfl⟩
      have hs9 : S9.size = m9 := by rw [hS9, bstr_size, List.length_drop]; omega
      have im9 : 8 ≤ m1 := by omega
      by_cases c16 : m9 > 16
      case neg =>
        have k5 : decide ((m9 : Int) > 16) = false := decide_eq_false (by omega)
        first | (have FRx := FR; clear FRx) | have FR := fr0S
        have FA := Sm.mk (And.intro TFTxM (And.intro hs (And.intro hat (And.intro k1 (And.intro k2 (And.intro i2 (And.intro hx1 (And.intro hs1 (And.intro im1 (And.intro k3 (And.intro ea (And.intro k4 (And.intro hx9 (And.intro hs9 (And.intro im9 k5)))))))))))))))
        repeat' first | (apply Sm.mk; refine Ys ?_) | refine WP.seq fun K hK => ?_ | (apply Ob.mk; exact Yo) | refine And.intro (Ob.out ?_) ?_ | refine Y1TxM ?_ | refine Yc (c := cW) (r := ?_) | refine YzTxM ?_ | (refine WP.cond rfl (fun hc => ?_) (fun hc => ?_) <;> (try simp only [ZC, reduceCtorEq, ZD] at hc) <;> (try exact absurd hc (by decide)) <;> (try (exfalso; omega))) | refine Rt.mk (And.intro (fun hg => Sm.out ?_) fun hg => Sm.out ?_) | (refine Nu.mk ?_; first | (fail_if_success have := nb1); intro nb1 | (fail_if_success have := nb2); intro nb2 | (fail_if_success have := nb3); intro nb3 | (fail_if_success have := nb4); intro nb4 | intro nbz) | (apply Yfr; refine Yf FR fun hFRb FR => ?_) | refine Two.mk ?_ ?_ | (apply Yxc; exact Yx) | refine Cs.mk fun hcs => Sm.out ?_ | go_step | omega | (simp only [maxLen_eq]; omega) | exact trivial
        exact ⟨i + 9, ⟨by omega, g9⟩, by omega, (Sub.pick (by simp [pickB, hget, hdel, FR.out, hS9']) (by simp [look, hS9']))⟩
      have k5 : decide ((m9 : Int) > 16) = true := decide_eq_true (by omega)
      obtain ⟨S17, hS17⟩ : ∃ S, S = bstr (zs.drop (i + 17)) := ⟨_, rfl⟩
      have hS17' : bstr (zs.drop (i + 17)) = S17 := hS17.symm
      have hx17 : S9.extract 8 m9 = S17 := by rw [hS9, hS17]; exact ext_drop zs (i + 9) 8 m9 (by omega) (by omega)
      have im17 : 8 ≤ m9 := by omega
      have cV1 := word_ct zs hb (i + 9) (by omega) hl
      have cV2 := word_ct zs hb (i + 17) (by omega) hl
      unfold stz at cV1 cV2
      rw [hS9'] at cV1
      rw [hS17'] at cV2
      have lv1 := wrd_lt hb (i := i + 9) (by omega)
      have lv2 := wrd_lt hb (i := i + 17) (by omega)
      have vi1 := wrd_hi hb (i := i + 9) (by omega)
      have vi2 := wrd_hi hb (i := i + 17) (by omega)
      obtain ⟨V1, hV1⟩ : ∃ W, W = wrd zs (i + 9) := ⟨_, rfl⟩
      rw [← hV1] at cV1 lv1 vi1
      obtain ⟨V2, hV2⟩ : ∃ W, W = wrd zs (i + 17) := ⟨_, rfl⟩
      rw [← hV2] at cV2 lv2 vi2
      have eo := ibit_or V1 V2 lv1 lv2
      have ho := or_lt64 lv1 lv2
      have ez := or_zero V1 V2 9259542123273814144
      obtain ⟨O, hO⟩ : ∃ O, O = V1 ||| V2 := ⟨_, rfl⟩
      rw [← hO] at eo ho ez
      have ea2 : ibit .and .u64 (O : Int) 9259542123273814144 = ((O &&& 9259542123273814144 : Nat) : Int) := ibit_and O 9259542123273814144 ho (by omega)
      obtain ⟨A2, hA2⟩ : ∃ A, A = O &&& 9259542123273814144 := ⟨_, rfl⟩
      rw [← hA2] at ea2 ez
      by_cases cA2 : A2 = 0
      case neg =>
        have k6 : ((A2 : Int) == 0) = false := beq_eq_false_iff_ne.2 (by omega)
        first | (have FRx := FR; clear FRx) | have FR := fr0S
        have FA := Sm.mk (And.intro TFTxM (And.intro hs (And.intro hat (And.intro k1 (And.intro k2 (And.intro i2 (And.intro hx1 (And.intro hs1 (And.intro im1 (And.intro k3 (And.intro ea (And.intro k4 (And.intro hx9 (And.intro hs9 (And.intro im9 (And.intro k5 (And.intro hx17 (And.intro im17 (And.intro eo (And.intro ea2 k6))))))))))))))))))))
        repeat' first | (apply Sm.mk; refine Ys ?_) | refine WP.seq fun K hK => ?_ | (apply Ob.mk; exact Yo) | refine And.intro (Ob.out ?_) ?_ | refine Y1TxM ?_ | refine Yc (c := cW) (r := ?_) | refine Yc (c := cV1) (r := ?_) | refine Yc (c := cV2) (r := ?_) | refine YzTxM ?_ | (refine WP.cond rfl (fun hc => ?_) (fun hc => ?_) <;> (try simp only [ZC, reduceCtorEq, ZD] at hc) <;> (try exact absurd hc (by decide)) <;> (try (exfalso; omega))) | refine Rt.mk (And.intro (fun hg => Sm.out ?_) fun hg => Sm.out ?_) | (refine Nu.mk ?_; first | (fail_if_success have := nb1); intro nb1 | (fail_if_success have := nb2); intro nb2 | (fail_if_success have := nb3); intro nb3 | (fail_if_success have := nb4); intro nb4 | intro nbz) | (apply Yfr; refine Yf FR fun hFRb FR => ?_) | refine Two.mk ?_ ?_ | (apply Yxc; exact Yx) | refine Cs.mk fun hcs => Sm.out ?_ | go_step | omega | (simp only [maxLen_eq]; omega) | exact trivial
        exact ⟨i + 9, ⟨by omega, g9⟩, by omega, (Sub.pick (by simp [pickB, hget, hdel, FR.out, hS9']) (by simp [look, hS9']))⟩
      have k6 : ((A2 : Int) == 0) = true := beq_iff_eq.2 (by omega)
      have g17 : Gd zs 0 ↔ Gd zs (i + 17) := g9.trans (Gd_los hb 8 (i + 9) (by omega) (vi1.1 (ez.1 cA2).1))
      have g25 : Gd zs 0 ↔ Gd zs (i + 25) := g17.trans (Gd_los hb 8 (i + 17) (by omega) (vi2.1 (ez.1 cA2).2))
      obtain ⟨S25, hS25⟩ : ∃ S, S = bstr (zs.drop (i + 25)) := ⟨_, rfl⟩
      have hS25' : bstr (zs.drop (i + 25)) = S25 := hS25.symm
      have hx25 : S9.extract 16 m9 = S25 := by rw [hS9, hS25]; exact ext_drop zs (i + 9) 16 m9 (by omega) (by omega)
      have im25 : 16 ≤ m9 := by omega
      first | (have FRx := FR; clear FRx) | have FR := fr0S
      have FA := Sm.mk (And.intro TFTxM (And.intro hs (And.intro hat (And.intro k1 (And.intro k2 (And.intro i2 (And.intro hx1 (And.intro hs1 (And.intro im1 (And.intro k3 (And.intro ea (And.intro k4 (And.intro hx9 (And.intro hs9 (And.intro im9 (And.intro k5 (And.intro hx17 (And.intro im17 (And.intro eo (And.intro ea2 (And.intro k6 (And.intro hx25 im25))))))))))))))))))))))
      repeat' first | (apply Sm.mk; refine Ys ?_) | refine WP.seq fun K hK => ?_ | (apply Ob.mk; exact Yo) | refine And.intro (Ob.out ?_) ?_ | refine Y1TxM ?_ | refine Yc (c := cW) (r := ?_) | refine Yc (c := cV1) (r := ?_) | refine Yc (c := cV2) (r := ?_) | refine YzTxM ?_ | (refine WP.cond rfl (fun hc => ?_) (fun hc => ?_) <;> (try simp only [ZC, reduceCtorEq, ZD] at hc) <;> (try exact absurd hc (by decide)) <;> (try (exfalso; omega))) | refine Rt.mk (And.intro (fun hg => Sm.out ?_) fun hg => Sm.out ?_) | (refine Nu.mk ?_; first | (fail_if_success have := nb1); intro nb1 | (fail_if_success have := nb2); intro nb2 | (fail_if_success have := nb3); intro nb3 | (fail_if_success have := nb4); intro nb4 | intro nbz) | (apply Yfr; refine Yf FR fun hFRb FR => ?_) | refine Two.mk ?_ ?_ | (apply Yxc; exact Yx) | refine Cs.mk fun hcs => Sm.out ?_ | go_step | omega | (simp only [maxLen_eq]; omega) | exact trivial
      clear hs hat hx1 hs1 ea eo ea2 hx9 hx17 hx25
      refine WP.loop (Γ := Nat) (fun j => ⟨[(0, stz (zs.drop j))], [(0, .zs .u8 FZ 256 n0), (1, .zs .u8 AZ 32 n1)]⟩) (fun j => i < j ∧ j ≤ zs.length ∧ (Gd zs 0 ↔ Gd zs j)) (fun j => zs.length - j) (i + 25) ⟨by omega, by omega, g25⟩ (Sub.pick (by simp [pickB, hget, hdel, FR.out, hS25']) (by simp [look, hS25'])) ?_
      intro j ⟨hij, hj, hgj⟩
      try simp only at hij hj hgj ⊢
      have FR : Sm (¬ ((1 : Nat) = 0)) := Sm.mk Nat.one_ne_zero
      obtain ⟨S0, hS0⟩ : ∃ S, S = bstr (zs.drop j) := ⟨_, rfl⟩
      have hS0' : bstr (zs.drop j) = S0 := hS0.symm
      unfold stz
      rw [hS0']
      obtain ⟨n, hn⟩ : ∃ n, n = zs.length - j := ⟨_, rfl⟩
      have hs0 : S0.size = n := by rw [hS0, bstr_size, List.length_drop, hn]
      by_cases c32 : n > 32
      case neg =>
        have k7 : decide ((n : Int) > 32) = false := decide_eq_false (by omega)
        first | (have FRx := FR; clear FRx) | have FR := fr0S
        have FA := Sm.mk (And.intro TFTxM (And.intro hs0 k7))
        repeat' first | (apply Sm.mk; refine Ys ?_) | refine WP.seq fun K hK => ?_ | (apply Ob.mk; exact Yo) | refine And.intro (Ob.out ?_) ?_ | refine Y1TxM ?_ | refine YzTxM ?_ | (refine WP.cond rfl (fun hc => ?_) (fun hc => ?_) <;> (try simp only [ZC, reduceCtorEq, ZD] at hc) <;> (try exact absurd hc (by decide)) <;> (try (exfalso; omega))) | refine Rt.mk (And.intro (fun hg => Sm.out ?_) fun hg => Sm.out ?_) | (refine Nu.mk ?_; first | (fail_if_success have := nb1); intro nb1 | (fail_if_success have := nb2); intro nb2 | (fail_if_success have := nb3); intro nb3 | (fail_if_success have := nb4); intro nb4 | intro nbz) | (apply Yfr; refine Yf FR fun hFRb FR => ?_) | refine Two.mk ?_ ?_ | (apply Yxc; exact Yx) | refine Cs.mk fun hcs => Sm.out ?_ | go_step | omega | (simp only [maxLen_eq]; omega) | exact trivial
        exact ⟨j, ⟨by omega, hgj⟩, by omega, (Sub.pick (by simp [pickB, hget, hdel, FR.out, hS0']) (by simp [look, hS0']))⟩
      have k7 : decide ((n : Int) > 32) = true := decide_eq_true (by omega)
      have cU0 := word_ct zs hb j (by omega) hl
      unfold stz at cU0
      rw [hS0'] at cU0
      have lu0 := wrd_lt hb (i := j) (by omega)
      have ui0 := wrd_hi hb (i := j) (by omega)
      obtain ⟨U0, hU0⟩ : ∃ W, W = wrd zs j := ⟨_, rfl⟩
      rw [← hU0] at cU0 lu0 ui0
      obtain ⟨T1, hT1⟩ : ∃ S, S = bstr (zs.drop (j + 8)) := ⟨_, rfl⟩
      have hT1' : bstr (zs.drop (j + 8)) = T1 := hT1.symm
      have hy1 : S0.extract 8 n = T1 := by rw [hS0, hT1]; exact ext_drop zs j 8 n (by omega) (by omega)
      have in1 : 8 ≤ n := by omega
      have cU1 := word_ct zs hb (j + 8) (by omega) hl
      unfold stz at cU1
      rw [hT1'] at cU1
      have lu1 := wrd_lt hb (i := (j + 8)) (by omega)
      have ui1 := wrd_hi hb (i := (j + 8)) (by omega)
      obtain ⟨U1, hU1⟩ : ∃ W, W = wrd zs (j + 8) := ⟨_, rfl⟩
      rw [← hU1] at cU1 lu1 ui1
      obtain ⟨T2, hT2⟩ : ∃ S, S = bstr (zs.drop (j + 16)) := ⟨_, rfl⟩
      have hT2' : bstr (zs.drop (j + 16)) = T2 := hT2.symm
      have hy2 : S0.extract 16 n = T2 := by rw [hS0, hT2]; exact ext_drop zs j 16 n (by omega) (by omega)
      have in2 : 16 ≤ n := by omega
      have cU2 := word_ct zs hb (j + 16) (by omega) hl
      unfold stz at cU2
      rw [hT2'] at cU2
      have lu2 := wrd_lt hb (i := (j + 16)) (by omega)
      have ui2 := wrd_hi hb (i := (j + 16)) (by omega)
      obtain ⟨U2, hU2⟩ : ∃ W, W = wrd zs (j + 16) := ⟨_, rfl⟩
      rw [← hU2] at cU2 lu2 ui2
      obtain ⟨T3, hT3⟩ : ∃ S, S = bstr (zs.drop (j + 24)) := ⟨_, rfl⟩
      have hT3' : bstr (zs.drop (j + 24)) = T3 := hT3.symm
      have hy3 : S0.extract 24 n = T3 := by rw [hS0, hT3]; exact ext_drop zs j 24 n (by omega) (by omega)
      have in3 : 24 ≤ n := by omega
      have cU3 := word_ct zs hb (j + 24) (by omega) hl
      unfold stz at cU3
      rw [hT3'] at cU3
      have lu3 := wrd_lt hb (i := (j + 24)) (by omega)
      have ui3 := wrd_hi hb (i := (j + 24)) (by omega)
      obtain ⟨U3, hU3⟩ : ∃ W, W = wrd zs (j + 24) := ⟨_, rfl⟩
      rw [← hU3] at cU3 lu3 ui3
      have eo1 := ibit_or U0 U1 lu0 lu1
      have ho1 := or_lt64 lu0 lu1
      have ez1 := or_zero U0 U1 9259542123273814144
      obtain ⟨O1, hO1⟩ : ∃ O, O = U0 ||| U1 := ⟨_, rfl⟩
      rw [← hO1] at eo1 ho1 ez1
      have eo2 := ibit_or U2 U3 lu2 lu3
      have ho2 := or_lt64 lu2 lu3
      have ez2 := or_zero U2 U3 9259542123273814144
      obtain ⟨O2, hO2⟩ : ∃ O, O = U2 ||| U3 := ⟨_, rfl⟩
      rw [← hO2] at eo2 ho2 ez2
      have eo3 := ibit_or O1 O2 ho1 ho2
      have ho3 := or_lt64 ho1 ho2
      have ez3 := or_zero O1 O2 9259542123273814144
      obtain ⟨O3, hO3⟩ : ∃ O, O = O1 ||| O2 := ⟨_, rfl⟩
      rw [← hO3] at eo3 ho3 ez3
      have ea3 : ibit .and .u64 (O3 : Int) 9259542123273814144 = ((O3 &&& 9259542123273814144 : Nat) : Int) := ibit_and O3 9259542123273814144 ho3 (by omega)
      obtain ⟨A3, hA3⟩ : ∃ A, A = O3 &&& 9259542123273814144 := ⟨_, rfl⟩
      rw [← hA3] at ea3 ez3
      by_cases cA3 : A3 = 0
      case neg =>
        have k8 : ((A3 : Int) == 0) = false := beq_eq_false_iff_ne.2 (by omega)
        first | (have FRx := FR; clear FRx) | have FR := fr0S
        have FA := Sm.mk (And.intro TFTxM (And.intro hs0 (And.intro k7 (And.intro hy1 (And.intro hy2 (And.intro hy3 (And.intro in1 (And.intro in2 (And.intro in3 (And.intro eo1 (And.intro eo2 (And.intro eo3 (And.intro ea3 k8)))))))))))))
        repeat' first | (apply Sm.mk; refine Ys ?_) | refine WP.seq fun K hK => ?_ | (apply Ob.mk; exact Yo) | refine And.intro (Ob.out ?_) ?_ | refine Y1TxM ?_ | refine Yc (c := cU0) (r := ?_) | refine Yc (c := cU1) (r := ?_) | refine Yc (c := cU2) (r := ?_) | refine Yc (c := cU3) (r := ?_) | refine YzTxM ?_ | (refine WP.cond rfl (fun hc => ?_) (fun hc => ?_) <;> (try simp only [ZC, reduceCtorEq, ZD] at hc) <;> (try exact absurd hc (by decide)) <;> (try (exfalso; omega))) | refine Rt.mk (And.intro (fun hg => Sm.out ?_) fun hg => Sm.out ?_) | (refine Nu.mk ?_; first | (fail_if_success have := nb1); intro nb1 | (fail_if_success have := nb2); intro nb2 | (fail_if_success have := nb3); intro nb3 | (fail_if_success have := nb4); intro nb4 | intro nbz) | (apply Yfr; refine Yf FR fun hFRb FR => ?_) | refine Two.mk ?_ ?_ | (apply Yxc; exact Yx) | refine Cs.mk fun hcs => Sm.out ?_ | go_step | omega | (simp only [maxLen_eq]; omega) | exact trivial
        exact ⟨j, ⟨by omega, hgj⟩, by omega, (Sub.pick (by simp [pickB, hget, hdel, FR.out, hS0']) (by simp [look, hS0']))⟩
      have k8 : ((A3 : Int) == 0) = true := beq_iff_eq.2 (by omega)
      obtain ⟨z12, z34⟩ := ez3.1 cA3
      have y1 : Gd zs 0 ↔ Gd zs (j + 8) := hgj.trans (Gd_los hb 8 j (by omega) (ui0.1 (ez1.1 z12).1))
      have y2 : Gd zs 0 ↔ Gd zs (j + 16) := y1.trans (Gd_los hb 8 (j + 8) (by omega) (ui1.1 (ez1.1 z12).2))
      have y3 : Gd zs 0 ↔ Gd zs (j + 24) := y2.trans (Gd_los hb 8 (j + 16) (by omega) (ui2.1 (ez2.1 z34).1))
      have y4 : Gd zs 0 ↔ Gd zs (j + 32) := y3.trans (Gd_los hb 8 (j + 24) (by omega) (ui3.1 (ez2.1 z34).2))
      obtain ⟨T4, hT4⟩ : ∃ S, S = bstr (zs.drop (j + 32)) := ⟨_, rfl⟩
      have hT4' : bstr (zs.drop (j + 32)) = T4 := hT4.symm
      have hy4 : S0.extract 32 n = T4 := by rw [hS0, hT4]; exact ext_drop zs j 32 n (by omega) (by omega)
      have in4 : 32 ≤ n := by omega
      first | (have FRx := FR; clear FRx) | have FR := fr0S
      have FA := Sm.mk (And.intro TFTxM (And.intro hs0 (And.intro k7 (And.intro hy1 (And.intro hy2 (And.intro hy3 (And.intro in1 (And.intro in2 (And.intro in3 (And.intro eo1 (And.intro eo2 (And.intro eo3 (And.intro ea3 (And.intro k8 (And.intro hy4 in4)))))))))))))))
      repeat' first | (apply Sm.mk; refine Ys ?_) | refine WP.seq fun K hK => ?_ | (apply Ob.mk; exact Yo) | refine And.intro (Ob.out ?_) ?_ | refine Y1TxM ?_ | refine Yc (c := cU0) (r := ?_) | refine Yc (c := cU1) (r := ?_) | refine Yc (c := cU2) (r := ?_) | refine Yc (c := cU3) (r := ?_) | refine YzTxM ?_ | (refine WP.cond rfl (fun hc => ?_) (fun hc => ?_) <;> (try simp only [ZC, reduceCtorEq, ZD] at hc) <;> (try exact absurd hc (by decide)) <;> (try (exfalso; omega))) | refine Rt.mk (And.intro (fun hg => Sm.out ?_) fun hg => Sm.out ?_) | (refine Nu.mk ?_; first | (fail_if_success have := nb1); intro nb1 | (fail_if_success have := nb2); intro nb2 | (fail_if_success have := nb3); intro nb3 | (fail_if_success have := nb4); intro nb4 | intro nbz) | (apply Yfr; refine Yf FR fun hFRb FR => ?_) | refine Two.mk ?_ ?_ | (apply Yxc; exact Yx) | refine Cs.mk fun hcs => Sm.out ?_ | go_step | omega | (simp only [maxLen_eq]; omega) | exact trivial
      exact ⟨j + 32, ⟨by omega, by omega, y4⟩, by omega, (Sub.pick (by simp [pickB, hget, hdel, FR.out, hT4']) (by simp [look, hT4']))⟩
    · have k2 : decide (z < 128) = false := decide_eq_false h128
      obtain ⟨q, hq⟩ : ∃ q : Nat, (q : Int) = z := ⟨z.toNat, by omega⟩
      have hX := fs_at q (by omega) (by omega)
      rw [← hFZ] at hX
      have t1 : ∀ k : Nat, ((k : Nat) : Int).toNat = k := fun k => by omega
      obtain ⟨a1, a2⟩ := ac_lt q (by omega) (by omega)
      obtain ⟨sz, hsz⟩ : ∃ s, s = szB (q : Int) := ⟨_, rfl⟩
      obtain ⟨ac, hac⟩ : ∃ s, s = acB (q : Int) := ⟨_, rfl⟩
      rw [← hsz] at hX a2
      rw [← hac] at hX a1
      obtain ⟨X, hXX⟩ : ∃ X, X = 16 * ac + sz := ⟨_, rfl⟩
      rw [← hXX] at hX
      have a7 := and7 X (by omega)
      rw [show X % 8 = sz by omega] at a7
      rw [← hq] at hat hbi k2
      have q1 : q < 256 := by omega
      have a16 : ac < 16 := a1
      have xd : (X : Int).fdiv 16 = (ac : Int) := by rw [Int.fdiv_eq_ediv_of_nonneg _ (by omega)]; omega
      obtain ⟨lo, hlo⟩ : ∃ lo, lo = AZ.getD (ac * 2) 0 := ⟨_, rfl⟩
      obtain ⟨hi', hhi⟩ : ∃ hi', hi' = AZ.getD (ac * 2 + 1) 0 := ⟨_, rfl⟩
      have pr : (AZ.drop (ac * 2)).take 2 = [lo, hi'] := by rw [hlo, hhi]; exact two_at AZ (ac * 2) (by omega)
      have kk2 : (2 ≤ 32 - ac * 2) = True := eq_true (by omega)
      have wsz : IntKind.i64.wrap (sz : Int) = (sz : Int) := wrap_i64 (by omega) (by omega)
      have hqz : ((q : Nat) : Int) = zs.getD i 0 := by rw [hq, hz0]
      have hSz : sz = szB (zs.getD i 0) := by rw [hsz, hqz]
      have gF : ¬ Gd zs i → gdB zs = false := fun h => by unfold gdB; exact @decide_eq_false _ (Classical.propDecidable _) fun h0 => h (hg.1 h0)
      by_cases h1 : sz = 1
      · subst h1
        have gf := gF (el_one hb hlt (by omega) hSz.symm)
        first | (have FRx := FR; clear FRx) | have FR := fr0S
        have FA := Sm.mk (And.intro TFTxM (And.intro hs (And.intro hat (And.intro k1 (And.intro k2 (And.intro i2 (And.intro hX (And.intro t1 (And.intro a7 (And.intro hfl (And.intro hal (And.intro q1 (And.intro xd (And.intro pr (And.intro kk2 wsz)))))))))))))))
        repeat' first | (apply Sm.mk; refine Ys ?_) | refine WP.seq fun K hK => ?_ | (apply Ob.mk; exact Yo) | refine And.intro (Ob.out ?_) ?_ | refine Y1TxM ?_ | refine YzTxM ?_ | (refine WP.cond rfl (fun hc => ?_) (fun hc => ?_) <;> (try simp only [ZC, reduceCtorEq, ZD] at hc) <;> (try exact absurd hc (by decide)) <;> (try (exfalso; omega))) | refine Rt.mk (And.intro (fun hg => Sm.out ?_) fun hg => Sm.out ?_) | (refine Nu.mk ?_; first | (fail_if_success have := nb1); intro nb1 | (fail_if_success have := nb2); intro nb2 | (fail_if_success have := nb3); intro nb3 | (fail_if_success have := nb4); intro nb4 | intro nbz) | (apply Yfr; refine Yf FR fun hFRb FR => ?_) | refine Two.mk ?_ ?_ | (apply Yxc; exact Yx) | refine Cs.mk fun hcs => Sm.out ?_ | go_step | omega | (simp only [maxLen_eq]; omega) | exact trivial
        (refine OutQ.drop _ _ (perm2 (by simp only [hget, hdel, ↓reduceIte, if_true, if_false, FR.out, gf]; first | done | rfl) (by simp only [hget, hdel, ↓reduceIte, if_true, if_false, FR.out, gf]; first | done | rfl)) (by simp only [resv, ZK, look, loadv, loadn, loadnm, load1, load1m, hget, ↓reduceIte, Nat.reduceEqDiff, Nat.reduceAdd, Nat.reduceMul, Nat.reduceLeDiff, Nat.reduceLT, reduceCtorEq, TFTxM, FR.out, gf]) ⟨(by simp only [resv, resA, ZK, look, loadv, loadn, loadnm, load1, load1m, hget, ↓reduceIte, Nat.reduceEqDiff, Nat.reduceAdd, Nat.reduceMul, Nat.reduceLeDiff, Nat.reduceLT, reduceCtorEq, TFTxM, FR.out, gf]; first | done | rfl), rfl⟩)
      by_cases h2 : sz = 2
      · subst h2
        have gR := el_rest hb hlt (by omega) (by rw [← hSz]; decide)
        have hR : rest zs i ↔ (i + 2 ≤ zs.length ∧ (lo ≤ zs.getD (i + 1) 0 ∧ zs.getD (i + 1) 0 ≤ hi')) := by
          have hlh := ac_at q (by omega) (ge_of_sz hsz.symm (by decide)).1 (ge_of_sz hsz.symm (by decide)).2
          rw [← hac, ← hAZ, Nat.mul_comm 2 ac, ← hlo, ← hhi] at hlh
          unfold rest
          rw [← hSz, ← hqz, ← hlh.1, ← hlh.2]
          simp
        rw [← hSz] at gR
        by_cases cL : m < 2
        · have kL : decide ((m : Int) < 2) = true := decide_eq_true (by omega)
          have gf := gF fun h => by have := hR.1 (gR.1 h).1; omega
          first | (have FRx := FR; clear FRx) | have FR := fr0S
          have FA := Sm.mk (And.intro TFTxM (And.intro hs (And.intro hat (And.intro k1 (And.intro k2 (And.intro i2 (And.intro hX (And.intro t1 (And.intro a7 (And.intro hfl (And.intro hal (And.intro q1 (And.intro xd (And.intro pr (And.intro kk2 (And.intro wsz kL))))))))))))))))
          repeat' first | (apply Sm.mk; refine Ys ?_) | refine WP.seq fun K hK => ?_ | (apply Ob.mk; exact Yo) | refine And.intro (Ob.out ?_) ?_ | refine Y1TxM ?_ | refine YzTxM ?_ | (refine WP.cond rfl (fun hc => ?_) (fun hc => ?_) <;> (try simp only [ZC, reduceCtorEq, ZD] at hc) <;> (try exact absurd hc (by decide)) <;> (try (exfalso; omega))) | refine Rt.mk (And.intro (fun hg => Sm.out ?_) fun hg => Sm.out ?_) | (refine Nu.mk ?_; first | (fail_if_success have := nb1); intro nb1 | (fail_if_success have := nb2); intro nb2 | (fail_if_success have := nb3); intro nb3 | (fail_if_success have := nb4); intro nb4 | intro nbz) | (apply Yfr; refine Yf FR fun hFRb FR => ?_) | refine Two.mk ?_ ?_ | (apply Yxc; exact Yx) | refine Cs.mk fun hcs => Sm.out ?_ | go_step | omega | (simp only [maxLen_eq]; omega) | exact trivial
          (refine OutQ.drop _ _ (perm2 (by simp only [hget, hdel, ↓reduceIte, if_true, if_false, FR.out, gf]; first | done | rfl) (by simp only [hget, hdel, ↓reduceIte, if_true, if_false, FR.out, gf]; first | done | rfl)) (by simp only [resv, ZK, look, loadv, loadn, loadnm, load1, load1m, hget, ↓reduceIte, Nat.reduceEqDiff, Nat.reduceAdd, Nat.reduceMul, Nat.reduceLeDiff, Nat.reduceLT, reduceCtorEq, TFTxM, FR.out, gf]) ⟨(by simp only [resv, resA, ZK, look, loadv, loadn, loadnm, load1, load1m, hget, ↓reduceIte, Nat.reduceEqDiff, Nat.reduceAdd, Nat.reduceMul, Nat.reduceLeDiff, Nat.reduceLT, reduceCtorEq, TFTxM, FR.out, gf]; first | done | rfl), rfl⟩)
        have kL : decide ((m : Int) < 2) = false := decide_eq_false (by omega)
        obtain ⟨z1, hz1⟩ : ∃ z1, z1 = zs.getD (i + 1) 0 := ⟨_, rfl⟩
        have e1 := hatk 1 (by omega)
        rw [← hz1] at e1
        rw [← hz1] at hR
        have ii1 : 1 < m := by omega
        by_cases cA : z1 < lo
        · have kA : decide (z1 < lo) = true := decide_eq_true cA
          have gf := gF fun h => by have := hR.1 (gR.1 h).1; omega
          first | (have FRx := FR; clear FRx) | have FR := fr0S
          have FA := Sm.mk (And.intro TFTxM (And.intro hs (And.intro hat (And.intro k1 (And.intro k2 (And.intro i2 (And.intro hX (And.intro t1 (And.intro a7 (And.intro hfl (And.intro hal (And.intro q1 (And.intro xd (And.intro pr (And.intro kk2 (And.intro wsz (And.intro kL (And.intro e1 (And.intro ii1 kA)))))))))))))))))))
          repeat' first | (apply Sm.mk; refine Ys ?_) | refine WP.seq fun K hK => ?_ | (apply Ob.mk; exact Yo) | refine And.intro (Ob.out ?_) ?_ | refine Y1TxM ?_ | refine YzTxM ?_ | (refine WP.cond rfl (fun hc => ?_) (fun hc => ?_) <;> (try simp only [ZC, reduceCtorEq, ZD] at hc) <;> (try exact absurd hc (by decide)) <;> (try (exfalso; omega))) | refine Rt.mk (And.intro (fun hg => Sm.out ?_) fun hg => Sm.out ?_) | (refine Nu.mk ?_; first | (fail_if_success have := nb1); intro nb1 | (fail_if_success have := nb2); intro nb2 | (fail_if_success have := nb3); intro nb3 | (fail_if_success have := nb4); intro nb4 | intro nbz) | (apply Yfr; refine Yf FR fun hFRb FR => ?_) | refine Two.mk ?_ ?_ | (apply Yxc; exact Yx) | refine Cs.mk fun hcs => Sm.out ?_ | go_step | omega | (simp only [maxLen_eq]; omega) | exact trivial
          (refine OutQ.drop _ _ (perm2 (by simp only [hget, hdel, ↓reduceIte, if_true, if_false, FR.out, gf]; first | done | rfl) (by simp only [hget, hdel, ↓reduceIte, if_true, if_false, FR.out, gf]; first | done | rfl)) (by simp only [resv, ZK, look, loadv, loadn, loadnm, load1, load1m, hget, ↓reduceIte, Nat.reduceEqDiff, Nat.reduceAdd, Nat.reduceMul, Nat.reduceLeDiff, Nat.reduceLT, reduceCtorEq, TFTxM, FR.out, gf]) ⟨(by simp only [resv, resA, ZK, look, loadv, loadn, loadnm, load1, load1m, hget, ↓reduceIte, Nat.reduceEqDiff, Nat.reduceAdd, Nat.reduceMul, Nat.reduceLeDiff, Nat.reduceLT, reduceCtorEq, TFTxM, FR.out, gf]; first | done | rfl), rfl⟩)
        have kA : decide (z1 < lo) = false := decide_eq_false cA
        by_cases cB : hi' < z1
        · have kB : decide (hi' < z1) = true := decide_eq_true cB
          have gf := gF fun h => by have := hR.1 (gR.1 h).1; omega
          first | (have FRx := FR; clear FRx) | have FR := fr0S
          have FA := Sm.mk (And.intro TFTxM (And.intro hs (And.intro hat (And.intro k1 (And.intro k2 (And.intro i2 (And.intro hX (And.intro t1 (And.intro a7 (And.intro hfl (And.intro hal (And.intro q1 (And.intro xd (And.intro pr (And.intro kk2 (And.intro wsz (And.intro kL (And.intro e1 (And.intro ii1 (And.intro kA kB))))))))))))))))))))
          repeat' first | (apply Sm.mk; refine Ys ?_) | refine WP.seq fun K hK => ?_ | (apply Ob.mk; exact Yo) | refine And.intro (Ob.out ?_) ?_ | refine Y1TxM ?_ | refine YzTxM ?_ | (refine WP.cond rfl (fun hc => ?_) (fun hc => ?_) <;> (try simp only [ZC, reduceCtorEq, ZD] at hc) <;> (try exact absurd hc (by decide)) <;> (try (exfalso; omega))) | refine Rt.mk (And.intro (fun hg => Sm.out ?_) fun hg => Sm.out ?_) | (refine Nu.mk ?_; first | (fail_if_success have := nb1); intro nb1 | (fail_if_success have := nb2); intro nb2 | (fail_if_success have := nb3); intro nb3 | (fail_if_success have := nb4); intro nb4 | intro nbz) | (apply Yfr; refine Yf FR fun hFRb FR => ?_) | refine Two.mk ?_ ?_ | (apply Yxc; exact Yx) | refine Cs.mk fun hcs => Sm.out ?_ | go_step | omega | (simp only [maxLen_eq]; omega) | exact trivial
          (refine OutQ.drop _ _ (perm2 (by simp only [hget, hdel, ↓reduceIte, if_true, if_false, FR.out, gf]; first | done | rfl) (by simp only [hget, hdel, ↓reduceIte, if_true, if_false, FR.out, gf]; first | done | rfl)) (by simp only [resv, ZK, look, loadv, loadn, loadnm, load1, load1m, hget, ↓reduceIte, Nat.reduceEqDiff, Nat.reduceAdd, Nat.reduceMul, Nat.reduceLeDiff, Nat.reduceLT, reduceCtorEq, TFTxM, FR.out, gf]) ⟨(by simp only [resv, resA, ZK, look, loadv, loadn, loadnm, load1, load1m, hget, ↓reduceIte, Nat.reduceEqDiff, Nat.reduceAdd, Nat.reduceMul, Nat.reduceLeDiff, Nat.reduceLT, reduceCtorEq, TFTxM, FR.out, gf]; first | done | rfl), rfl⟩)
        have kB : decide (hi' < z1) = false := decide_eq_false cB
        have hok := hR.2 (by omega)
        have hx := hext 2 (by omega)
        obtain ⟨S2, hS2⟩ : ∃ S2, S2 = bstr (zs.drop (i + 2)) := ⟨_, rfl⟩
        rw [← hS2] at hx
        have hS2' : bstr (zs.drop (i + 2)) = S2 := hS2.symm
        have im : 2 ≤ m := by omega
        first | (have FRx := FR; clear FRx) | have FR := fr0S
        have FA := Sm.mk (And.intro TFTxM (And.intro hs (And.intro hat (And.intro k1 (And.intro k2 (And.intro i2 (And.intro hX (And.intro t1 (And.intro a7 (And.intro hfl (And.intro hal (And.intro q1 (And.intro xd (And.intro pr (And.intro kk2 (And.intro wsz (And.intro kL (And.intro e1 (And.intro ii1 (And.intro kA (And.intro kB (And.intro hx im))))))))))))))))))))))
        repeat' first | (apply Sm.mk; refine Ys ?_) | refine WP.seq fun K hK => ?_ | (apply Ob.mk; exact Yo) | refine And.intro (Ob.out ?_) ?_ | refine Y1TxM ?_ | refine YzTxM ?_ | (refine WP.cond rfl (fun hc => ?_) (fun hc => ?_) <;> (try simp only [ZC, reduceCtorEq, ZD] at hc) <;> (try exact absurd hc (by decide)) <;> (try (exfalso; omega))) | refine Rt.mk (And.intro (fun hg => Sm.out ?_) fun hg => Sm.out ?_) | (refine Nu.mk ?_; first | (fail_if_success have := nb1); intro nb1 | (fail_if_success have := nb2); intro nb2 | (fail_if_success have := nb3); intro nb3 | (fail_if_success have := nb4); intro nb4 | intro nbz) | (apply Yfr; refine Yf FR fun hFRb FR => ?_) | refine Two.mk ?_ ?_ | (apply Yxc; exact Yx) | refine Cs.mk fun hcs => Sm.out ?_ | go_step | omega | (simp only [maxLen_eq]; omega) | exact trivial
        exact ⟨i + 2, ⟨by omega, hg.trans (gR.trans ⟨fun h => h.2, fun h => ⟨hok, h⟩⟩)⟩, by omega, (Sub.pick (by simp [pickB, hget, hdel, FR.out, hS2']) (by simp [look, hS2']))⟩
      by_cases h3 : sz = 3
      · subst h3
        have gR := el_rest hb hlt (by omega) (by rw [← hSz]; decide)
        have hR : rest zs i ↔ (i + 3 ≤ zs.length ∧ (lo ≤ zs.getD (i + 1) 0 ∧ zs.getD (i + 1) 0 ≤ hi') ∧ (128 ≤ zs.getD (i + 2) 0 ∧ zs.getD (i + 2) 0 ≤ 191)) := by
          have hlh := ac_at q (by omega) (ge_of_sz hsz.symm (by decide)).1 (ge_of_sz hsz.symm (by decide)).2
          rw [← hac, ← hAZ, Nat.mul_comm 2 ac, ← hlo, ← hhi] at hlh
          unfold rest
          rw [← hSz, ← hqz, ← hlh.1, ← hlh.2]
          simp [show ¬ (4 ≤ 3) by omega]
        rw [← hSz] at gR
        by_cases cL : m < 3
        · have kL : decide ((m : Int) < 3) = true := decide_eq_true (by omega)
          have gf := gF fun h => by have := hR.1 (gR.1 h).1; omega
          first | (have FRx := FR; clear FRx) | have FR := fr0S
          have FA := Sm.mk (And.intro TFTxM (And.intro hs (And.intro hat (And.intro k1 (And.intro k2 (And.intro i2 (And.intro hX (And.intro t1 (And.intro a7 (And.intro hfl (And.intro hal (And.intro q1 (And.intro xd (And.intro pr (And.intro kk2 (And.intro wsz kL))))))))))))))))
          repeat' first | (apply Sm.mk; refine Ys ?_) | refine WP.seq fun K hK => ?_ | (apply Ob.mk; exact Yo) | refine And.intro (Ob.out ?_) ?_ | refine Y1TxM ?_ | refine YzTxM ?_ | (refine WP.cond rfl (fun hc => ?_) (fun hc => ?_) <;> (try simp only [ZC, reduceCtorEq, ZD] at hc) <;> (try exact absurd hc (by decide)) <;> (try (exfalso; omega))) | refine Rt.mk (And.intro (fun hg => Sm.out ?_) fun hg => Sm.out ?_) | (refine Nu.mk ?_; first | (fail_if_success have := nb1); intro nb1 | (fail_if_success have := nb2); intro nb2 | (fail_if_success have := nb3); intro nb3 | (fail_if_success have := nb4); intro nb4 | intro nbz) | (apply Yfr; refine Yf FR fun hFRb FR => ?_) | refine Two.mk ?_ ?_ | (apply Yxc; exact Yx) | refine Cs.mk fun hcs => Sm.out ?_ | go_step | omega | (simp only [maxLen_eq]; omega) | exact trivial
          (refine OutQ.drop _ _ (perm2 (by simp only [hget, hdel, ↓reduceIte, if_true, if_false, FR.out, gf]; first | done | rfl) (by simp only [hget, hdel, ↓reduceIte, if_true, if_false, FR.out, gf]; first | done | rfl)) (by simp only [resv, ZK, look, loadv, loadn, loadnm, load1, load1m, hget, ↓reduceIte, Nat.reduceEqDiff, Nat.reduceAdd, Nat.reduceMul, Nat.reduceLeDiff, Nat.reduceLT, reduceCtorEq, TFTxM, FR.out, gf]) ⟨(by simp only [resv, resA, ZK, look, loadv, loadn, loadnm, load1, load1m, hget, ↓reduceIte, Nat.reduceEqDiff, Nat.reduceAdd, Nat.reduceMul, Nat.reduceLeDiff, Nat.reduceLT, reduceCtorEq, TFTxM, FR.out, gf]; first | done | rfl), rfl⟩)
        have kL : decide ((m : Int) < 3) = false := decide_eq_false (by omega)
        obtain ⟨z1, hz1⟩ : ∃ z1, z1 = zs.getD (i + 1) 0 := ⟨_, rfl⟩
        have e1 := hatk 1 (by omega)
        rw [← hz1] at e1
        rw [← hz1] at hR
        have ii1 : 1 < m := by omega
        obtain ⟨z2, hz2⟩ : ∃ z2, z2 = zs.getD (i + 2) 0 := ⟨_, rfl⟩
        have e2 := hatk 2 (by omega)
        rw [← hz2] at e2
        rw [← hz2] at hR
        have ii2 : 2 < m := by omega
        by_cases cA : z1 < lo
        · have kA : decide (z1 < lo) = true := decide_eq_true cA
          have gf := gF fun h => by have := hR.1 (gR.1 h).1; omega
          first | (have FRx := FR; clear FRx) | have FR := fr0S
          have FA := Sm.mk (And.intro TFTxM (And.intro hs (And.intro hat (And.intro k1 (And.intro k2 (And.intro i2 (And.intro hX (And.intro t1 (And.intro a7 (And.intro hfl (And.intro hal (And.intro q1 (And.intro xd (And.intro pr (And.intro kk2 (And.intro wsz (And.intro kL (And.intro e1 (And.intro ii1 (And.intro e2 (And.intro ii2 kA)))))))))))))))))))))
          repeat' first | (apply Sm.mk; refine Ys ?_) | refine WP.seq fun K hK => ?_ | (apply Ob.mk; exact Yo) | refine And.intro (Ob.out ?_) ?_ | refine Y1TxM ?_ | refine YzTxM ?_ | (refine WP.cond rfl (fun hc => ?_) (fun hc => ?_) <;> (try simp only [ZC, reduceCtorEq, ZD] at hc) <;> (try exact absurd hc (by decide)) <;> (try (exfalso; omega))) | refine Rt.mk (And.intro (fun hg => Sm.out ?_) fun hg => Sm.out ?_) | (refine Nu.mk ?_; first | (fail_if_success have := nb1); intro nb1 | (fail_if_success have := nb2); intro nb2 | (fail_if_success have := nb3); intro nb3 | (fail_if_success have := nb4); intro nb4 | intro nbz) | (apply Yfr; refine Yf FR fun hFRb FR => ?_) | refine Two.mk ?_ ?_ | (apply Yxc; exact Yx) | refine Cs.mk fun hcs => Sm.out ?_ | go_step | omega | (simp only [maxLen_eq]; omega) | exact trivial
          (refine OutQ.drop _ _ (perm2 (by simp only [hget, hdel, ↓reduceIte, if_true, if_false, FR.out, gf]; first | done | rfl) (by simp only [hget, hdel, ↓reduceIte, if_true, if_false, FR.out, gf]; first | done | rfl)) (by simp only [resv, ZK, look, loadv, loadn, loadnm, load1, load1m, hget, ↓reduceIte, Nat.reduceEqDiff, Nat.reduceAdd, Nat.reduceMul, Nat.reduceLeDiff, Nat.reduceLT, reduceCtorEq, TFTxM, FR.out, gf]) ⟨(by simp only [resv, resA, ZK, look, loadv, loadn, loadnm, load1, load1m, hget, ↓reduceIte, Nat.reduceEqDiff, Nat.reduceAdd, Nat.reduceMul, Nat.reduceLeDiff, Nat.reduceLT, reduceCtorEq, TFTxM, FR.out, gf]; first | done | rfl), rfl⟩)
        have kA : decide (z1 < lo) = false := decide_eq_false cA
        by_cases cB : hi' < z1
        · have kB : decide (hi' < z1) = true := decide_eq_true cB
          have gf := gF fun h => by have := hR.1 (gR.1 h).1; omega
          first | (have FRx := FR; clear FRx) | have FR := fr0S
          have FA := Sm.mk (And.intro TFTxM (And.intro hs (And.intro hat (And.intro k1 (And.intro k2 (And.intro i2 (And.intro hX (And.intro t1 (And.intro a7 (And.intro hfl (And.intro hal (And.intro q1 (And.intro xd (And.intro pr (And.intro kk2 (And.intro wsz (And.intro kL (And.intro e1 (And.intro ii1 (And.intro e2 (And.intro ii2 (And.intro kA kB))))))))))))))))))))))
          repeat' first | (apply Sm.mk; refine Ys ?_) | refine WP.seq fun K hK => ?_ | (apply Ob.mk; exact Yo) | refine And.intro (Ob.out ?_) ?_ | refine Y1TxM ?_ | refine YzTxM ?_ | (refine WP.cond rfl (fun hc => ?_) (fun hc => ?_) <;> (try simp only [ZC, reduceCtorEq, ZD] at hc) <;> (try exact absurd hc (by decide)) <;> (try (exfalso; omega))) | refine Rt.mk (And.intro (fun hg => Sm.out ?_) fun hg => Sm.out ?_) | (refine Nu.mk ?_; first | (fail_if_success have := nb1); intro nb1 | (fail_if_success have := nb2); intro nb2 | (fail_if_success have := nb3); intro nb3 | (fail_if_success have := nb4); intro nb4 | intro nbz) | (apply Yfr; refine Yf FR fun hFRb FR => ?_) | refine Two.mk ?_ ?_ | (apply Yxc; exact Yx) | refine Cs.mk fun hcs => Sm.out ?_ | go_step | omega | (simp only [maxLen_eq]; omega) | exact trivial
          (refine OutQ.drop _ _ (perm2 (by simp only [hget, hdel, ↓reduceIte, if_true, if_false, FR.out, gf]; first | done | rfl) (by simp only [hget, hdel, ↓reduceIte, if_true, if_false, FR.out, gf]; first | done | rfl)) (by simp only [resv, ZK, look, loadv, loadn, loadnm, load1, load1m, hget, ↓reduceIte, Nat.reduceEqDiff, Nat.reduceAdd, Nat.reduceMul, Nat.reduceLeDiff, Nat.reduceLT, reduceCtorEq, TFTxM, FR.out, gf]) ⟨(by simp only [resv, resA, ZK, look, loadv, loadn, loadnm, load1, load1m, hget, ↓reduceIte, Nat.reduceEqDiff, Nat.reduceAdd, Nat.reduceMul, Nat.reduceLeDiff, Nat.reduceLT, reduceCtorEq, TFTxM, FR.out, gf]; first | done | rfl), rfl⟩)
        have kB : decide (hi' < z1) = false := decide_eq_false cB
        by_cases cC : z2 < 128
        · have kC : decide (z2 < 128) = true := decide_eq_true cC
          have gf := gF fun h => by have := hR.1 (gR.1 h).1; omega
          first | (have FRx := FR; clear FRx) | have FR := fr0S
          have FA := Sm.mk (And.intro TFTxM (And.intro hs (And.intro hat (And.intro k1 (And.intro k2 (And.intro i2 (And.intro hX (And.intro t1 (And.intro a7 (And.intro hfl (And.intro hal (And.intro q1 (And.intro xd (And.intro pr (And.intro kk2 (And.intro wsz (And.intro kL (And.intro e1 (And.intro ii1 (And.intro e2 (And.intro ii2 (And.intro kA (And.intro kB kC)))))))))))))))))))))))
          repeat' first | (apply Sm.mk; refine Ys ?_) | refine WP.seq fun K hK => ?_ | (apply Ob.mk; exact Yo) | refine And.intro (Ob.out ?_) ?_ | refine Y1TxM ?_ | refine YzTxM ?_ | (refine WP.cond rfl (fun hc => ?_) (fun hc => ?_) <;> (try simp only [ZC, reduceCtorEq, ZD] at hc) <;> (try exact absurd hc (by decide)) <;> (try (exfalso; omega))) | refine Rt.mk (And.intro (fun hg => Sm.out ?_) fun hg => Sm.out ?_) | (refine Nu.mk ?_; first | (fail_if_success have := nb1); intro nb1 | (fail_if_success have := nb2); intro nb2 | (fail_if_success have := nb3); intro nb3 | (fail_if_success have := nb4); intro nb4 | intro nbz) | (apply Yfr; refine Yf FR fun hFRb FR => ?_) | refine Two.mk ?_ ?_ | (apply Yxc; exact Yx) | refine Cs.mk fun hcs => Sm.out ?_ | go_step | omega | (simp only [maxLen_eq]; omega) | exact trivial
          (refine OutQ.drop _ _ (perm2 (by simp only [hget, hdel, ↓reduceIte, if_true, if_false, FR.out, gf]; first | done | rfl) (by simp only [hget, hdel, ↓reduceIte, if_true, if_false, FR.out, gf]; first | done | rfl)) (by simp only [resv, ZK, look, loadv, loadn, loadnm, load1, load1m, hget, ↓reduceIte, Nat.reduceEqDiff, Nat.reduceAdd, Nat.reduceMul, Nat.reduceLeDiff, Nat.reduceLT, reduceCtorEq, TFTxM, FR.out, gf]) ⟨(by simp only [resv, resA, ZK, look, loadv, loadn, loadnm, load1, load1m, hget, ↓reduceIte, Nat.reduceEqDiff, Nat.reduceAdd, Nat.reduceMul, Nat.reduceLeDiff, Nat.reduceLT, reduceCtorEq, TFTxM, FR.out, gf]; first | done | rfl), rfl⟩)
        have kC : decide (z2 < 128) = false := decide_eq_false cC
        by_cases cD : 191 < z2
        · have kD : decide (191 < z2) = true := decide_eq_true cD
          have gf := gF fun h => by have := hR.1 (gR.1 h).1; omega
          first | (have FRx := FR; clear FRx) | have FR := fr0S
          have FA := Sm.mk (And.intro TFTxM (And.intro hs (And.intro hat (And.intro k1 (And.intro k2 (And.intro i2 (And.intro hX (And.intro t1 (And.intro a7 (And.intro hfl (And.intro hal (And.intro q1 (And.intro xd (And.intro pr (And.intro kk2 (And.intro wsz (And.intro kL (And.intro e1 (And.intro ii1 (And.intro e2 (And.intro ii2 (And.intro kA (And.intro kB (And.intro kC kD))))))))))))))))))))))))
          repeat' first | (apply Sm.mk; refine Ys ?_) | refine WP.seq fun K hK => ?_ | (apply Ob.mk; exact Yo) | refine And.intro (Ob.out ?_) ?_ | refine Y1TxM ?_ | refine YzTxM ?_ | (refine WP.cond rfl (fun hc => ?_) (fun hc => ?_) <;> (try simp only [ZC, reduceCtorEq, ZD] at hc) <;> (try exact absurd hc (by decide)) <;> (try (exfalso; omega))) | refine Rt.mk (And.intro (fun hg => Sm.out ?_) fun hg => Sm.out ?_) | (refine Nu.mk ?_; first | (fail_if_success have := nb1); intro nb1 | (fail_if_success have := nb2); intro nb2 | (fail_if_success have := nb3); intro nb3 | (fail_if_success have := nb4); intro nb4 | intro nbz) | (apply Yfr; refine Yf FR fun hFRb FR => ?_) | refine Two.mk ?_ ?_ | (apply Yxc; exact Yx) | refine Cs.mk fun hcs => Sm.out ?_ | go_step | omega | (simp only [maxLen_eq]; omega) | exact trivial
          (refine OutQ.drop _ _ (perm2 (by simp only [hget, hdel, ↓reduceIte, if_true, if_false, FR.out, gf]; first | done | rfl) (by simp only [hget, hdel, ↓reduceIte, if_true, if_false, FR.out, gf]; first | done | rfl)) (by simp only [resv, ZK, look, loadv, loadn, loadnm, load1, load1m, hget, ↓reduceIte, Nat.reduceEqDiff, Nat.reduceAdd, Nat.reduceMul, Nat.reduceLeDiff, Nat.reduceLT, reduceCtorEq, TFTxM, FR.out, gf]) ⟨(by simp only [resv, resA, ZK, look, loadv, loadn, loadnm, load1, load1m, hget, ↓reduceIte, Nat.reduceEqDiff, Nat.reduceAdd, Nat.reduceMul, Nat.reduceLeDiff, Nat.reduceLT, reduceCtorEq, TFTxM, FR.out, gf]; first | done | rfl), rfl⟩)
        have kD : decide (191 < z2) = false := decide_eq_false cD
        have hok := hR.2 (by omega)
        have hx := hext 3 (by omega)
        obtain ⟨S2, hS2⟩ : ∃ S2, S2 = bstr (zs.drop (i + 3)) := ⟨_, rfl⟩
        rw [← hS2] at hx
        have hS2' : bstr (zs.drop (i + 3)) = S2 := hS2.symm
        have im : 3 ≤ m := by omega
        first | (have FRx := FR; clear FRx) | have FR := fr0S
        have FA := Sm.mk (And.intro TFTxM (And.intro hs (And.intro hat (And.intro k1 (And.intro k2 (And.intro i2 (And.intro hX (And.intro t1 (And.intro a7 (And.intro hfl (And.intro hal (And.intro q1 (And.intro xd (And.intro pr (And.intro kk2 (And.intro wsz (And.intro kL (And.intro e1 (And.intro ii1 (And.intro e2 (And.intro ii2 (And.intro kA (And.intro kB (And.intro kC (And.intro kD (And.intro hx im))))))))))))))))))))))))))
        repeat' first | (apply Sm.mk; refine Ys ?_) | refine WP.seq fun K hK => ?_ | (apply Ob.mk; exact Yo) | refine And.intro (Ob.out ?_) ?_ | refine Y1TxM ?_ | refine YzTxM ?_ | (refine WP.cond rfl (fun hc => ?_) (fun hc => ?_) <;> (try simp only [ZC, reduceCtorEq, ZD] at hc) <;> (try exact absurd hc (by decide)) <;> (try (exfalso; omega))) | refine Rt.mk (And.intro (fun hg => Sm.out ?_) fun hg => Sm.out ?_) | (refine Nu.mk ?_; first | (fail_if_success have := nb1); intro nb1 | (fail_if_success have := nb2); intro nb2 | (fail_if_success have := nb3); intro nb3 | (fail_if_success have := nb4); intro nb4 | intro nbz) | (apply Yfr; refine Yf FR fun hFRb FR => ?_) | refine Two.mk ?_ ?_ | (apply Yxc; exact Yx) | refine Cs.mk fun hcs => Sm.out ?_ | go_step | omega | (simp only [maxLen_eq]; omega) | exact trivial
        exact ⟨i + 3, ⟨by omega, hg.trans (gR.trans ⟨fun h => h.2, fun h => ⟨hok, h⟩⟩)⟩, by omega, (Sub.pick (by simp [pickB, hget, hdel, FR.out, hS2']) (by simp [look, hS2']))⟩
      by_cases h4 : sz = 4
      · subst h4
        have gR := el_rest hb hlt (by omega) (by rw [← hSz]; decide)
        have hR : rest zs i ↔ (i + 4 ≤ zs.length ∧ (lo ≤ zs.getD (i + 1) 0 ∧ zs.getD (i + 1) 0 ≤ hi') ∧ (128 ≤ zs.getD (i + 2) 0 ∧ zs.getD (i + 2) 0 ≤ 191) ∧ (128 ≤ zs.getD (i + 3) 0 ∧ zs.getD (i + 3) 0 ≤ 191)) := by
          have hlh := ac_at q (by omega) (ge_of_sz hsz.symm (by decide)).1 (ge_of_sz hsz.symm (by decide)).2
          rw [← hac, ← hAZ, Nat.mul_comm 2 ac, ← hlo, ← hhi] at hlh
          unfold rest
          rw [← hSz, ← hqz, ← hlh.1, ← hlh.2]
          simp
        rw [← hSz] at gR
        by_cases cL : m < 4
        · have kL : decide ((m : Int) < 4) = true := decide_eq_true (by omega)
          have gf := gF fun h => by have := hR.1 (gR.1 h).1; omega
          first | (have FRx := FR; clear FRx) | have FR := fr0S
          have FA := Sm.mk (And.intro TFTxM (And.intro hs (And.intro hat (And.intro k1 (And.intro k2 (And.intro i2 (And.intro hX (And.intro t1 (And.intro a7 (And.intro hfl (And.intro hal (And.intro q1 (And.intro xd (And.intro pr (And.intro kk2 (And.intro wsz kL))))))))))))))))
          repeat' first | (apply Sm.mk; refine Ys ?_) | refine WP.seq fun K hK => ?_ | (apply Ob.mk; exact Yo) | refine And.intro (Ob.out ?_) ?_ | refine Y1TxM ?_ | refine YzTxM ?_ | (refine WP.cond rfl (fun hc => ?_) (fun hc => ?_) <;> (try simp only [ZC, reduceCtorEq, ZD] at hc) <;> (try exact absurd hc (by decide)) <;> (try (exfalso; omega))) | refine Rt.mk (And.intro (fun hg => Sm.out ?_) fun hg => Sm.out ?_) | (refine Nu.mk ?_; first | (fail_if_success have := nb1); intro nb1 | (fail_if_success have := nb2); intro nb2 | (fail_if_success have := nb3); intro nb3 | (fail_if_success have := nb4); intro nb4 | intro nbz) | (apply Yfr; refine Yf FR fun hFRb FR => ?_) | refine Two.mk ?_ ?_ | (apply Yxc; exact Yx) | refine Cs.mk fun hcs => Sm.out ?_ | go_step | omega | (simp only [maxLen_eq]; omega) | exact trivial
          (refine OutQ.drop _ _ (perm2 (by simp only [hget, hdel, ↓reduceIte, if_true, if_false, FR.out, gf]; first | done | rfl) (by simp only [hget, hdel, ↓reduceIte, if_true, if_false, FR.out, gf]; first | done | rfl)) (by simp only [resv, ZK, look, loadv, loadn, loadnm, load1, load1m, hget, ↓reduceIte, Nat.reduceEqDiff, Nat.reduceAdd, Nat.reduceMul, Nat.reduceLeDiff, Nat.reduceLT, reduceCtorEq, TFTxM, FR.out, gf]) ⟨(by simp only [resv, resA, ZK, look, loadv, loadn, loadnm, load1, load1m, hget, ↓reduceIte, Nat.reduceEqDiff, Nat.reduceAdd, Nat.reduceMul, Nat.reduceLeDiff, Nat.reduceLT, reduceCtorEq, TFTxM, FR.out, gf]; first | done | rfl), rfl⟩)
        have kL : decide ((m : Int) < 4) = false := decide_eq_false (by omega)
        obtain ⟨z1, hz1⟩ : ∃ z1, z1 = zs.getD (i + 1) 0 := ⟨_, rfl⟩
        have e1 := hatk 1 (by omega)
        rw [← hz1] at e1
        rw [← hz1] at hR
        have ii1 : 1 < m := by omega
        obtain ⟨z2, hz2⟩ : ∃ z2, z2 = zs.getD (i + 2) 0 := ⟨_, rfl⟩
        have e2 := hatk 2 (by omega)
        rw [← hz2] at e2
        rw [← hz2] at hR
        have ii2 : 2 < m := by omega
        obtain ⟨z3, hz3⟩ : ∃ z3, z3 = zs.getD (i + 3) 0 := ⟨_, rfl⟩
        have e3 := hatk 3 (by omega)
        rw [← hz3] at e3
        rw [← hz3] at hR
        have ii3 : 3 < m := by omega
        by_cases cA : z1 < lo
        · have kA : decide (z1 < lo) = true := decide_eq_true cA
          have gf := gF fun h => by have := hR.1 (gR.1 h).1; omega
          first | (have FRx := FR; clear FRx) | have FR := fr0S
          have FA := Sm.mk (And.intro TFTxM (And.intro hs (And.intro hat (And.intro k1 (And.intro k2 (And.intro i2 (And.intro hX (And.intro t1 (And.intro a7 (And.intro hfl (And.intro hal (And.intro q1 (And.intro xd (And.intro pr (And.intro kk2 (And.intro wsz (And.intro kL (And.intro e1 (And.intro ii1 (And.intro e2 (And.intro ii2 (And.intro e3 (And.intro ii3 kA)))))))))))))))))))))))
          repeat' first | (apply Sm.mk; refine Ys ?_) | refine WP.seq fun K hK => ?_ | (apply Ob.mk; exact Yo) | refine And.intro (Ob.out ?_) ?_ | refine Y1TxM ?_ | refine YzTxM ?_ | (refine WP.cond rfl (fun hc => ?_) (fun hc => ?_) <;> (try simp only [ZC, reduceCtorEq, ZD] at hc) <;> (try exact absurd hc (by decide)) <;> (try (exfalso; omega))) | refine Rt.mk (And.intro (fun hg => Sm.out ?_) fun hg => Sm.out ?_) | (refine Nu.mk ?_; first | (fail_if_success have := nb1); intro nb1 | (fail_if_success have := nb2); intro nb2 | (fail_if_success have := nb3); intro nb3 | (fail_if_success have := nb4); intro nb4 | intro nbz) | (apply Yfr; refine Yf FR fun hFRb FR => ?_) | refine Two.mk ?_ ?_ | (apply Yxc; exact Yx) | refine Cs.mk fun hcs => Sm.out ?_ | go_step | omega | (simp only [maxLen_eq]; omega) | exact trivial
          (refine OutQ.drop _ _ (perm2 (by simp only [hget, hdel, ↓reduceIte, if_true, if_false, FR.out, gf]; first | done | rfl) (by simp only [hget, hdel, ↓reduceIte, if_true, if_false, FR.out, gf]; first | done | rfl)) (by simp only [resv, ZK, look, loadv, loadn, loadnm, load1, load1m, hget, ↓reduceIte, Nat.reduceEqDiff, Nat.reduceAdd, Nat.reduceMul, Nat.reduceLeDiff, Nat.reduceLT, reduceCtorEq, TFTxM, FR.out, gf]) ⟨(by simp only [resv, resA, ZK, look, loadv, loadn, loadnm, load1, load1m, hget, ↓reduceIte, Nat.reduceEqDiff, Nat.reduceAdd, Nat.reduceMul, Nat.reduceLeDiff, Nat.reduceLT, reduceCtorEq, TFTxM, FR.out, gf]; first | done | rfl), rfl⟩)
        have kA : decide (z1 < lo) = false := decide_eq_false cA
        by_cases cB : hi' < z1
        · have kB : decide (hi' < z1) = true := decide_eq_true cB
          have gf := gF fun h => by have := hR.1 (gR.1 h).1; omega
          first | (have FRx := FR; clear FRx) | have FR := fr0S
          have FA := Sm.mk (And.intro TFTxM (And.intro hs (And.intro hat (And.intro k1 (And.intro k2 (And.intro i2 (And.intro hX (And.intro t1 (And.intro a7 (And.intro hfl (And.intro hal (And.intro q1 (And.intro xd (And.intro pr (And.intro kk2 (And.intro wsz (And.intro kL (And.intro e1 (And.intro ii1 (And.intro e2 (And.intro ii2 (And.intro e3 (And.intro ii3 (And.intro kA kB))))))))))))))))))))))))
          repeat' first | (apply Sm.mk; refine Ys ?_) | refine WP.seq fun K hK => ?_ | (apply Ob.mk; exact Yo) | refine And.intro (Ob.out ?_) ?_ | refine Y1TxM ?_ | refine YzTxM ?_ | (refine WP.cond rfl (fun hc => ?_) (fun hc => ?_) <;> (try simp only [ZC, reduceCtorEq, ZD] at hc) <;> (try exact absurd hc (by decide)) <;> (try (exfalso; omega))) | refine Rt.mk (And.intro (fun hg => Sm.out ?_) fun hg => Sm.out ?_) | (refine Nu.mk ?_; first | (fail_if_success have := nb1); intro nb1 | (fail_if_success have := nb2); intro nb2 | (fail_if_success have := nb3); intro nb3 | (fail_if_success have := nb4); intro nb4 | intro nbz) | (apply Yfr; refine Yf FR fun hFRb FR => ?_) | refine Two.mk ?_ ?_ | (apply Yxc; exact Yx) | refine Cs.mk fun hcs => Sm.out ?_ | go_step | omega | (simp only [maxLen_eq]; omega) | exact trivial
          (refine OutQ.drop _ _ (perm2 (by simp only [hget, hdel, ↓reduceIte, if_true, if_false, FR.out, gf]; first | done | rfl) (by simp only [hget, hdel, ↓reduceIte, if_true, if_false, FR.out, gf]; first | done | rfl)) (by simp only [resv, ZK, look, loadv, loadn, loadnm, load1, load1m, hget, ↓reduceIte, Nat.reduceEqDiff, Nat.reduceAdd, Nat.reduceMul, Nat.reduceLeDiff, Nat.reduceLT, reduceCtorEq, TFTxM, FR.out, gf]) ⟨(by simp only [resv, resA, ZK, look, loadv, loadn, loadnm, load1, load1m, hget, ↓reduceIte, Nat.reduceEqDiff, Nat.reduceAdd, Nat.reduceMul, Nat.reduceLeDiff, Nat.reduceLT, reduceCtorEq, TFTxM, FR.out, gf]; first | done | rfl), rfl⟩)
        have kB : decide (hi' < z1) = false := decide_eq_false cB
        by_cases cC : z2 < 128
        · have kC : decide (z2 < 128) = true := decide_eq_true cC
          have gf := gF fun h => by have := hR.1 (gR.1 h).1; omega
          first | (have FRx := FR; clear FRx) | have FR := fr0S
          have FA := Sm.mk (And.intro TFTxM (And.intro hs (And.intro hat (And.intro k1 (And.intro k2 (And.intro i2 (And.intro hX (And.intro t1 (And.intro a7 (And.intro hfl (And.intro hal (And.intro q1 (And.intro xd (And.intro pr (And.intro kk2 (And.intro wsz (And.intro kL (And.intro e1 (And.intro ii1 (And.intro e2 (And.intro ii2 (And.intro e3 (And.intro ii3 (And.intro kA (And.intro kB kC)))))))))))))))))))))))))
          repeat' first | (apply Sm.mk; refine Ys ?_) | refine WP.seq fun K hK => ?_ | (apply Ob.mk; exact Yo) | refine And.intro (Ob.out ?_) ?_ | refine Y1TxM ?_ | refine YzTxM ?_ | (refine WP.cond rfl (fun hc => ?_) (fun hc => ?_) <;> (try simp only [ZC, reduceCtorEq, ZD] at hc) <;> (try exact absurd hc (by decide)) <;> (try (exfalso; omega))) | refine Rt.mk (And.intro (fun hg => Sm.out ?_) fun hg => Sm.out ?_) | (refine Nu.mk ?_; first | (fail_if_success have := nb1); intro nb1 | (fail_if_success have := nb2); intro nb2 | (fail_if_success have := nb3); intro nb3 | (fail_if_success have := nb4); intro nb4 | intro nbz) | (apply Yfr; refine Yf FR fun hFRb FR => ?_) | refine Two.mk ?_ ?_ | (apply Yxc; exact Yx) | refine Cs.mk fun hcs => Sm.out ?_ | go_step | omega | (simp only [maxLen_eq]; omega) | exact trivial
          (refine OutQ.drop _ _ (perm2 (by simp only [hget, hdel, ↓reduceIte, if_true, if_false, FR.out, gf]; first | done | rfl) (by simp only [hget, hdel, ↓reduceIte, if_true, if_false, FR.out, gf]; first | done | rfl)) (by simp only [resv, ZK, look, loadv, loadn, loadnm, load1, load1m, hget, ↓reduceIte, Nat.reduceEqDiff, Nat.reduceAdd, Nat.reduceMul, Nat.reduceLeDiff, Nat.reduceLT, reduceCtorEq, TFTxM, FR.out, gf]) ⟨(by simp only [resv, resA, ZK, look, loadv, loadn, loadnm, load1, load1m, hget, ↓reduceIte, Nat.reduceEqDiff, Nat.reduceAdd, Nat.reduceMul, Nat.reduceLeDiff, Nat.reduceLT, reduceCtorEq, TFTxM, FR.out, gf]; first | done | rfl), rfl⟩)
        have kC : decide (z2 < 128) = false := decide_eq_false cC
        by_cases cD : 191 < z2
        · have kD : decide (191 < z2) = true := decide_eq_true cD
          have gf := gF fun h => by have := hR.1 (gR.1 h).1; omega
          first | (have FRx := FR; clear FRx) | have FR := fr0S
          have FA := Sm.mk (And.intro TFTxM (And.intro hs (And.intro hat (And.intro k1 (And.intro k2 (And.intro i2 (And.intro hX (And.intro t1 (And.intro a7 (And.intro hfl (And.intro hal (And.intro q1 (And.intro xd (And.intro pr (And.intro kk2 (And.intro wsz (And.intro kL (And.intro e1 (And.intro ii1 (And.intro e2 (And.intro ii2 (And.intro e3 (And.intro ii3 (And.intro kA (And.intro kB (And.intro kC kD))))))))))))))))))))))))))
          repeat' first | (apply Sm.mk; refine Ys ?_) | refine WP.seq fun K hK => ?_ | (apply Ob.mk; exact Yo) | refine And.intro (Ob.out ?_) ?_ | refine Y1TxM ?_ | refine YzTxM ?_ | (refine WP.cond rfl (fun hc => ?_) (fun hc => ?_) <;> (try simp only [ZC, reduceCtorEq, ZD] at hc) <;> (try exact absurd hc (by decide)) <;> (try (exfalso; omega))) | refine Rt.mk (And.intro (fun hg => Sm.out ?_) fun hg => Sm.out ?_) | (refine Nu.mk ?_; first | (fail_if_success have := nb1); intro nb1 | (fail_if_success have := nb2); intro nb2 | (fail_if_success have := nb3); intro nb3 | (fail_if_success have := nb4); intro nb4 | intro nbz) | (apply Yfr; refine Yf FR fun hFRb FR => ?_) | refine Two.mk ?_ ?_ | (apply Yxc; exact Yx) | refine Cs.mk fun hcs => Sm.out ?_ | go_step | omega | (simp only [maxLen_eq]; omega) | exact trivial
          (refine OutQ.drop _ _ (perm2 (by simp only [hget, hdel, ↓reduceIte, if_true, if_false, FR.out, gf]; first | done | rfl) (by simp only [hget, hdel, ↓reduceIte, if_true, if_false, FR.out, gf]; first | done | rfl)) (by simp only [resv, ZK, look, loadv, loadn, loadnm, load1, load1m, hget, ↓reduceIte, Nat.reduceEqDiff, Nat.reduceAdd, Nat.reduceMul, Nat.reduceLeDiff, Nat.reduceLT, reduceCtorEq, TFTxM, FR.out, gf]) ⟨(by simp only [resv, resA, ZK, look, loadv, loadn, loadnm, load1, load1m, hget, ↓reduceIte, Nat.reduceEqDiff, Nat.reduceAdd, Nat.reduceMul, Nat.reduceLeDiff, Nat.reduceLT, reduceCtorEq, TFTxM, FR.out, gf]; first | done | rfl), rfl⟩)
        have kD : decide (191 < z2) = false := decide_eq_false cD
        by_cases cE : z3 < 128
        · have kE : decide (z3 < 128) = true := decide_eq_true cE
          have gf := gF fun h => by have := hR.1 (gR.1 h).1; omega
          first | (have FRx := FR; clear FRx) | have FR := fr0S
          have FA := Sm.mk (And.intro TFTxM (And.intro hs (And.intro hat (And.intro k1 (And.intro k2 (And.intro i2 (And.intro hX (And.intro t1 (And.intro a7 (And.intro hfl (And.intro hal (And.intro q1 (And.intro xd (And.intro pr (And.intro kk2 (And.intro wsz (And.intro kL (And.intro e1 (And.intro ii1 (And.intro e2 (And.intro ii2 (And.intro e3 (And.intro ii3 (And.intro kA (And.intro kB (And.intro kC (And.intro kD kE)))))))))))))))))))))))))))
          repeat' first | (apply Sm.mk; refine Ys ?_) | refine WP.seq fun K hK => ?_ | (apply Ob.mk; exact Yo) | refine And.intro (Ob.out ?_) ?_ | refine Y1TxM ?_ | refine YzTxM ?_ | (refine WP.cond rfl (fun hc => ?_) (fun hc => ?_) <;> (try simp only [ZC, reduceCtorEq, ZD] at hc) <;> (try exact absurd hc (by decide)) <;> (try (exfalso; omega))) | refine Rt.mk (And.intro (fun hg => Sm.out ?_) fun hg => Sm.out ?_) | (refine Nu.mk ?_; first | (fail_if_success have := nb1); intro nb1 | (fail_if_success have := nb2); intro nb2 | (fail_if_success have := nb3); intro nb3 | (fail_if_success have := nb4); intro nb4 | intro nbz) | (apply Yfr; refine Yf FR fun hFRb FR => ?_) | refine Two.mk ?_ ?_ | (apply Yxc; exact Yx) | refine Cs.mk fun hcs => Sm.out ?_ | go_step | omega | (simp only [maxLen_eq]; omega) | exact trivial
          (refine OutQ.drop _ _ (perm2 (by simp only [hget, hdel, ↓reduceIte, if_true, if_false, FR.out, gf]; first | done | rfl) (by simp only [hget, hdel, ↓reduceIte, if_true, if_false, FR.out, gf]; first | done | rfl)) (by simp only [resv, ZK, look, loadv, loadn, loadnm, load1, load1m, hget, ↓reduceIte, Nat.reduceEqDiff, Nat.reduceAdd, Nat.reduceMul, Nat.reduceLeDiff, Nat.reduceLT, reduceCtorEq, TFTxM, FR.out, gf]) ⟨(by simp only [resv, resA, ZK, look, loadv, loadn, loadnm, load1, load1m, hget, ↓reduceIte, Nat.reduceEqDiff, Nat.reduceAdd, Nat.reduceMul, Nat.reduceLeDiff, Nat.reduceLT, reduceCtorEq, TFTxM, FR.out, gf]; first | done | rfl), rfl⟩)
        have kE : decide (z3 < 128) = false := decide_eq_false cE
        by_cases cF : 191 < z3
        · have kF : decide (191 < z3) = true := decide_eq_true cF
          have gf := gF fun h => by have := hR.1 (gR.1 h).1; omega
          first | (have FRx := FR; clear FRx) | have FR := fr0S
          have FA := Sm.mk (And.intro TFTxM (And.intro hs (And.intro hat (And.intro k1 (And.intro k2 (And.intro i2 (And.intro hX (And.intro t1 (And.intro a7 (And.intro hfl (And.intro hal (And.intro q1 (And.intro xd (And.intro pr (And.intro kk2 (And.intro wsz (And.intro kL (And.intro e1 (And.intro ii1 (And.intro e2 (And.intro ii2 (And.intro e3 (And.intro ii3 (And.intro kA (And.intro kB (And.intro kC (And.intro kD (And.intro kE kF))))))))))))))))))))))))))))
          repeat' first | (apply Sm.mk; refine Ys ?_) | refine WP.seq fun K hK => ?_ | (apply Ob.mk; exact Yo) | refine And.intro (Ob.out ?_) ?_ | refine Y1TxM ?_ | refine YzTxM ?_ | (refine WP.cond rfl (fun hc => ?_) (fun hc => ?_) <;> (try simp only [ZC, reduceCtorEq, ZD] at hc) <;> (try exact absurd hc (by decide)) <;> (try (exfalso; omega))) | refine Rt.mk (And.intro (fun hg => Sm.out ?_) fun hg => Sm.out ?_) | (refine Nu.mk ?_; first | (fail_if_success have := nb1); intro nb1 | (fail_if_success have := nb2); intro nb2 | (fail_if_success have := nb3); intro nb3 | (fail_if_success have := nb4); intro nb4 | intro nbz) | (apply Yfr; refine Yf FR fun hFRb FR => ?_) | refine Two.mk ?_ ?_ | (apply Yxc; exact Yx) | refine Cs.mk fun hcs => Sm.out ?_ | go_step | omega | (simp only [maxLen_eq]; omega) | exact trivial
          (refine OutQ.drop _ _ (perm2 (by simp only [hget, hdel, ↓reduceIte, if_true, if_false, FR.out, gf]; first | done | rfl) (by simp only [hget, hdel, ↓reduceIte, if_true, if_false, FR.out, gf]; first | done | rfl)) (by simp only [resv, ZK, look, loadv, loadn, loadnm, load1, load1m, hget, ↓reduceIte, Nat.reduceEqDiff, Nat.reduceAdd, Nat.reduceMul, Nat.reduceLeDiff, Nat.reduceLT, reduceCtorEq, TFTxM, FR.out, gf]) ⟨(by simp only [resv, resA, ZK, look, loadv, loadn, loadnm, load1, load1m, hget, ↓reduceIte, Nat.reduceEqDiff, Nat.reduceAdd, Nat.reduceMul, Nat.reduceLeDiff, Nat.reduceLT, reduceCtorEq, TFTxM, FR.out, gf]; first | done | rfl), rfl⟩)
        have kF : decide (191 < z3) = false := decide_eq_false cF
        have hok := hR.2 (by omega)
        have hx := hext 4 (by omega)
        obtain ⟨S2, hS2⟩ : ∃ S2, S2 = bstr (zs.drop (i + 4)) := ⟨_, rfl⟩
        rw [← hS2] at hx
        have hS2' : bstr (zs.drop (i + 4)) = S2 := hS2.symm
        have im : 4 ≤ m := by omega
        first | (have FRx := FR; clear FRx) | have FR := fr0S
        have FA := Sm.mk (And.intro TFTxM (And.intro hs (And.intro hat (And.intro k1 (And.intro k2 (And.intro i2 (And.intro hX (And.intro t1 (And.intro a7 (And.intro hfl (And.intro hal (And.intro q1 (And.intro xd (And.intro pr (And.intro kk2 (And.intro wsz (And.intro kL (And.intro e1 (And.intro ii1 (And.intro e2 (And.intro ii2 (And.intro e3 (And.intro ii3 (And.intro kA (And.intro kB (And.intro kC (And.intro kD (And.intro kE (And.intro kF (And.intro hx im))))))))))))))))))))))))))))))
        repeat' first | (apply Sm.mk; refine Ys ?_) | refine WP.seq fun K hK => ?_ | (apply Ob.mk; exact Yo) | refine And.intro (Ob.out ?_) ?_ | refine Y1TxM ?_ | refine YzTxM ?_ | (refine WP.cond rfl (fun hc => ?_) (fun hc => ?_) <;> (try simp only [ZC, reduceCtorEq, ZD] at hc) <;> (try exact absurd hc (by decide)) <;> (try (exfalso; omega))) | refine Rt.mk (And.intro (fun hg => Sm.out ?_) fun hg => Sm.out ?_) | (refine Nu.mk ?_; first | (fail_if_success have := nb1); intro nb1 | (fail_if_success have := nb2); intro nb2 | (fail_if_success have := nb3); intro nb3 | (fail_if_success have := nb4); intro nb4 | intro nbz) | (apply Yfr; refine Yf FR fun hFRb FR => ?_) | refine Two.mk ?_ ?_ | (apply Yxc; exact Yx) | refine Cs.mk fun hcs => Sm.out ?_ | go_step | omega | (simp only [maxLen_eq]; omega) | exact trivial
        exact ⟨i + 4, ⟨by omega, hg.trans (gR.trans ⟨fun h => h.2, fun h => ⟨hok, h⟩⟩)⟩, by omega, (Sub.pick (by simp [pickB, hget, hdel, FR.out, hS2']) (by simp [look, hS2']))⟩
      exact absurd (sz_cases (q : Int)) (by rw [← hsz]; omega)
  · obtain rfl : i = zs.length := by omega
    have gt : gdB zs = true := by unfold gdB; exact @decide_eq_true _ (Classical.propDecidable _) (hg.2 (Gd_end (Nat.le_refl _)))
    obtain ⟨S, hS⟩ : ∃ S, S = bstr (zs.drop zs.length) := ⟨_, rfl⟩
    unfold stz
    rw [← hS] at hs ⊢
    obtain ⟨m, hm⟩ : ∃ m, m = zs.length - zs.length := ⟨_, rfl⟩
    rw [← hm] at hs
    have k1 : decide ((m : Int) > 0) = false := decide_eq_false (by omega)
    first | (have FRx := FR; clear FRx) | have FR := fr0S
    have FA := Sm.mk (And.intro TFTxM (And.intro hs k1))
    repeat' first | (apply Sm.mk; refine Ys ?_) | refine WP.seq fun K hK => ?_ | (apply Ob.mk; exact Yo) | refine And.intro (Ob.out ?_) ?_ | refine Y1TxM ?_ | refine YzTxM ?_ | (refine WP.cond rfl (fun hc => ?_) (fun hc => ?_) <;> (try simp only [ZC, reduceCtorEq, ZD] at hc) <;> (try exact absurd hc (by decide)) <;> (try (exfalso; omega))) | refine Rt.mk (And.intro (fun hg => Sm.out ?_) fun hg => Sm.out ?_) | (refine Nu.mk ?_; first | (fail_if_success have := nb1); intro nb1 | (fail_if_success have := nb2); intro nb2 | (fail_if_success have := nb3); intro nb3 | (fail_if_success have := nb4); intro nb4 | intro nbz) | (apply Yfr; refine Yf FR fun hFRb FR => ?_) | refine Two.mk ?_ ?_ | (apply Yxc; exact Yx) | refine Cs.mk fun hcs => Sm.out ?_ | go_step | omega | (simp only [maxLen_eq]; omega) | exact trivial
    (refine OutQ.drop _ _ (perm2 (by simp only [hget, hdel, ↓reduceIte, if_true, if_false, FR.out, gt]; first | done | rfl) (by simp only [hget, hdel, ↓reduceIte, if_true, if_false, FR.out, gt]; first | done | rfl)) (by simp only [resv, ZK, look, loadv, loadn, loadnm, load1, load1m, hget, ↓reduceIte, Nat.reduceEqDiff, Nat.reduceAdd, Nat.reduceMul, Nat.reduceLeDiff, Nat.reduceLT, reduceCtorEq, TFTxM, FR.out, gt]) ⟨(by simp only [resv, resA, ZK, look, loadv, loadn, loadnm, load1, load1m, hget, ↓reduceIte, Nat.reduceEqDiff, Nat.reduceAdd, Nat.reduceMul, Nat.reduceLeDiff, Nat.reduceLT, reduceCtorEq, TFTxM, FR.out, gt]; first | done | rfl), rfl⟩)
theorem goodT_ct (zs : List Int) (hb : By zs) (hl : zs.length ≤ 5000) (n0 n1 : Nat) : ACt Tryd.prog 17 [stz zs] [(0, .zs .u8 fsZ 256 n0), (1, .zs .u8 acZ 32 n1)] (fun r F' => r = bv (gdB zs) ∧ F' = [(0, .zs .u8 fsZ 256 n0), (1, .zs .u8 acZ 32 n1)]) := by
  have cV := vs_ct zs hb hl n0 n1
  refine ACt.intro Tryd.func17 rfl (by kernel_rfl) (by simp [Tryd.ntmps17]) (fun cx => ?_)
  simp only [argE, Tryd.ntmps17, Tryd.results17]
  first | (have FRx := FR; clear FRx) | have FR := fr0S
  have FA := Sm.mk (TFTxM)
  repeat' first | (apply Sm.mk; refine Ys ?_) | refine WP.seq fun K hK => ?_ | (apply Ob.mk; exact Yo) | refine And.intro (Ob.out ?_) ?_ | refine Y1TxM ?_ | refine Yw2 (c := cV) (r := ?_) | refine YzTxM ?_ | (refine WP.cond rfl (fun hc => ?_) (fun hc => ?_) <;> (try simp only [ZC, reduceCtorEq, ZD] at hc) <;> (try exact absurd hc (by decide)) <;> (try (exfalso; omega))) | refine Rt.mk (And.intro (fun hg => Sm.out ?_) fun hg => Sm.out ?_) | (refine Nu.mk ?_; first | (fail_if_success have := nb1); intro nb1 | (fail_if_success have := nb2); intro nb2 | (fail_if_success have := nb3); intro nb3 | (fail_if_success have := nb4); intro nb4 | intro nbz) | (apply Yfr; refine Yf FR fun hFRb FR => ?_) | refine Two.mk ?_ ?_ | (apply Yxc; exact Yx) | refine Cs.mk fun hcs => Sm.out ?_ | go_step | omega | (simp only [maxLen_eq]; omega) | exact trivial
  (refine OutQ.drop _ _ (perm2 (by simp only [hget, hdel, ↓reduceIte, if_true, if_false, FR.out]; first | done | rfl) (by simp only [hget, hdel, ↓reduceIte, if_true, if_false, FR.out]; first | done | rfl)) (by simp only [resv, ZK, look, loadv, loadn, loadnm, load1, load1m, hget, ↓reduceIte, Nat.reduceEqDiff, Nat.reduceAdd, Nat.reduceMul, Nat.reduceLeDiff, Nat.reduceLT, reduceCtorEq, TFTxM, FR.out]) ⟨(by simp only [resv, resA, ZK, look, loadv, loadn, loadnm, load1, load1m, hget, ↓reduceIte, Nat.reduceEqDiff, Nat.reduceAdd, Nat.reduceMul, Nat.reduceLeDiff, Nat.reduceLT, reduceCtorEq, TFTxM, FR.out]; first | done | rfl), rfl⟩)
end Go.Proofs.YtdkkfgcdnojmaaaDoor
