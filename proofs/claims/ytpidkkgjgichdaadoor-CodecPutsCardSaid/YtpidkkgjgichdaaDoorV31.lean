/-
  The walks and the laws that the statement leans on, part 31.
-/
import Derived.Test.YtpidkkgjgichdaaDoorV9
import Derived.Test.YtpidkkgjgichdaaDoorV28
namespace Go.Proofs.YtpidkkgjgichdaaDoor
open Go Wi
set_option linter.unusedVariables false
set_option linter.unusedSimpArgs false
set_option linter.defProp false
def TFCoM :=
  And.intro (And.intro (And.intro (And.intro (And.intro (And.intro tyc0 tyc2) (And.intro zmb2 (And.intro tyc3 zmb3))) (And.intro (And.intro tyc4 zmb4) (And.intro tyc5 (And.intro zmb5 tyc9)))) (And.intro (And.intro (And.intro zmb9 tyc22) (And.intro zmb22 (And.intro tyc24 foff24_0))) (And.intro (And.intro fpart24_0 foff24_1) (And.intro fpart24_1 (And.intro fe24 zmb24))))) (And.intro (And.intro (And.intro (And.intro bldT24 tyc26) (And.intro foff26_0 (And.intro fpart26_0 foff26_1))) (And.intro (And.intro fpart26_1 foff26_2) (And.intro fpart26_2 (And.intro foff26_3 fpart26_3)))) (And.intro (And.intro (And.intro foff26_4 fpart26_4) (And.intro fe26 (And.intro zmb26 bldT26))) (And.intro (And.intro tyc28 (And.intro foff28_0 fpart28_0)) (And.intro foff28_1 (And.intro fpart28_1 foff28_2)))))) (And.intro (And.intro (And.intro (And.intro (And.intro fpart28_2 foff28_3) (And.intro fpart28_3 (And.intro foff28_4 fpart28_4))) (And.intro (And.intro fe28 zmb28) (And.intro bldT28 (And.intro tyc30 foff30_0)))) (And.intro (And.intro (And.intro fpart30_0 foff30_1) (And.intro fpart30_1 (And.intro foff30_2 fpart30_2))) (And.intro (And.intro foff30_3 fpart30_3) (And.intro foff30_4 (And.intro fpart30_4 foff30_5))))) (And.intro (And.intro (And.intro (And.intro fpart30_5 zmb30) (And.intro bldT30 (And.intro tyc33 elt33))) (And.intro (And.intro mkz33 apT33) (And.intro elk33 (And.intro zmb33 Tryd.underlying0)))) (And.intro (And.intro (And.intro Tryd.underlying2 Tryd.underlying3) (And.intro Tryd.underlying4 (And.intro Tryd.underlying5 Tryd.underlying9))) (And.intro (And.intro Tryd.underlying22 (And.intro Tryd.underlying24 Tryd.underlying26)) (And.intro Tryd.underlying28 (And.intro Tryd.underlying30 Tryd.underlying33))))))
theorem Y1CoM {G R : Prop} (r : R) (h : R → G := by intro r; first | (apply WP.region; exact rvc_sound _ _ (Sm.out r)) | exact WP.drawN (cs := [2,5]) (k := 6) (bs := []) mixed (by decide +kernel) (by decide +kernel) (by decide +kernel) (by decide +kernel) (Sm.out r) | exact WP.drawK rfl mixed (by decide +kernel) (Sm.out r) | (apply WP.block; exact r) | (apply WP.skip; exact Yq r) | (apply WP.exit; exact Yq r) | (apply WP.ret; exact Sm.out r) | exact WP.cond rfl (fun _ => r) (fun hg => absurd hg (by decide)) | exact WP.cond rfl (fun hg => absurd hg (by decide)) (fun _ => r) | exact Rt.mk (And.intro (fun _ => Sm.out r) fun hg => absurd hg (by decide)) | exact Rt.mk (And.intro (fun hg => absurd hg (by decide)) fun _ => Sm.out r)) : G := h r
theorem YzCoM {G R : Prop} (r : R) (h : R → G := by intro r; first | (apply ExG.no; exact Sm.out r) | (apply Or.inl; apply ExG.no; exact Sm.out r) | exact Or.inl (And.intro (fun hg => absurd hg (by decide)) (ExG.no (Sm.out r)))) : G := h r
theorem rflag_ct (f : Bool) : ACt Tryd.prog 57 [bv f] [] (Fn (iv .u8 (if f then 1 else 0))) := by
  cases f
  · refine ACt.intro Tryd.func57 rfl (by kernel_rfl) (by simp [Tryd.ntmps57]) (fun cx => ?_)
    simp only [argE, Tryd.ntmps57, Tryd.results57]
    first | (have FRx := FR; clear FRx) | have FR := fr0S
    have FA := Sm.mk (TFCoM)
    repeat' first | (apply Sm.mk; refine Ys ?_) | refine WP.seq fun K hK => ?_ | (apply Ob.mk; exact Yo) | refine And.intro (Ob.out ?_) ?_ | refine Y1CoM ?_ | refine YzCoM ?_ | (refine WP.cond rfl (fun hc => ?_) (fun hc => ?_) <;> (try simp only [ZC, reduceCtorEq, ZD] at hc) <;> (try exact absurd hc (by decide)) <;> (try (exfalso; omega))) | refine Rt.mk (And.intro (fun hg => Sm.out ?_) fun hg => Sm.out ?_) | (refine Nu.mk ?_; first | (fail_if_success have := nb1); intro nb1 | (fail_if_success have := nb2); intro nb2 | (fail_if_success have := nb3); intro nb3 | (fail_if_success have := nb4); intro nb4 | (fail_if_success have := nb5); intro nb5 | (fail_if_success have := nb6); intro nb6 | (fail_if_success have := nb7); intro nb7 | (fail_if_success have := nb8); intro nb8 | (fail_if_success have := nb9); intro nb9 | (fail_if_success have := nb10); intro nb10 | (fail_if_success have := nb11); intro nb11 | (fail_if_success have := nb12); intro nb12 | (fail_if_success have := nb13); intro nb13 | (fail_if_success have := nb14); intro nb14 | (fail_if_success have := nb15); intro nb15 | (fail_if_success have := nb16); intro nb16 | (fail_if_success have := nb17); intro nb17 | (fail_if_success have := nb18); intro nb18 | (fail_if_success have := nb19); intro nb19 | (fail_if_success have := nb20); intro nb20 | intro nbz) | (apply Yfr; refine Yf FR fun hFRb FR => ?_) | refine Two.mk ?_ ?_ | (apply Yxc; exact Yx) | refine Cs.mk fun hcs => Sm.out ?_ | go_step | omega | (simp only [maxLen_eq]; omega) | exact trivial | refine Or.inr (Rt.mk (And.intro (fun hg => Sm.out ?_) fun hg => Sm.out ?_))
    (refine Yg ?_; try exact trivial)
  · refine ACt.intro Tryd.func57 rfl (by kernel_rfl) (by simp [Tryd.ntmps57]) (fun cx => ?_)
    simp only [argE, Tryd.ntmps57, Tryd.results57]
    first | (have FRx := FR; clear FRx) | have FR := fr0S
    have FA := Sm.mk (TFCoM)
    repeat' first | (apply Sm.mk; refine Ys ?_) | refine WP.seq fun K hK => ?_ | (apply Ob.mk; exact Yo) | refine And.intro (Ob.out ?_) ?_ | refine Y1CoM ?_ | refine YzCoM ?_ | (refine WP.cond rfl (fun hc => ?_) (fun hc => ?_) <;> (try simp only [ZC, reduceCtorEq, ZD] at hc) <;> (try exact absurd hc (by decide)) <;> (try (exfalso; omega))) | refine Rt.mk (And.intro (fun hg => Sm.out ?_) fun hg => Sm.out ?_) | (refine Nu.mk ?_; first | (fail_if_success have := nb1); intro nb1 | (fail_if_success have := nb2); intro nb2 | (fail_if_success have := nb3); intro nb3 | (fail_if_success have := nb4); intro nb4 | (fail_if_success have := nb5); intro nb5 | (fail_if_success have := nb6); intro nb6 | (fail_if_success have := nb7); intro nb7 | (fail_if_success have := nb8); intro nb8 | (fail_if_success have := nb9); intro nb9 | (fail_if_success have := nb10); intro nb10 | (fail_if_success have := nb11); intro nb11 | (fail_if_success have := nb12); intro nb12 | (fail_if_success have := nb13); intro nb13 | (fail_if_success have := nb14); intro nb14 | (fail_if_success have := nb15); intro nb15 | (fail_if_success have := nb16); intro nb16 | (fail_if_success have := nb17); intro nb17 | (fail_if_success have := nb18); intro nb18 | (fail_if_success have := nb19); intro nb19 | (fail_if_success have := nb20); intro nb20 | intro nbz) | (apply Yfr; refine Yf FR fun hFRb FR => ?_) | refine Two.mk ?_ ?_ | (apply Yxc; exact Yx) | refine Cs.mk fun hcs => Sm.out ?_ | go_step | omega | (simp only [maxLen_eq]; omega) | exact trivial | refine Or.inr (Rt.mk (And.intro (fun hg => Sm.out ?_) fun hg => Sm.out ?_))
    (refine Yg ?_; try exact trivial)
theorem rtx_ct (s : ByteArray) (hs : s.size ≤ 10000) : ACt Tryd.prog 38 [.lit (.string s)] [] (Row .u8 5 (txL s)) := refText_ct s hs
set_option maxRecDepth 8000 in
set_option maxHeartbeats 4000000 in
theorem rkput_ct (k : Ky) (hk : Kb k) : ACt Tryd.prog 40 [kv k] [] (Row .u8 5 (kL k)) := by
  have m1 := hk.z.g
  have m2 := hk.z.r
  have m3 := hk.e0
  have m4 := hk.e1
  obtain ⟨kg, kr, kp, ke, ks⟩ := k
  simp only at m1 m2 m3 m4
  obtain ⟨e, rfl⟩ := Int.eq_ofNat_of_zero_le m3
  have hT : kL ⟨kg, kr, kp, (e : Int), ks⟩ = txL kg ++ txL kr ++ flL kp ++ putL 0 e ++ flL ks := by simp [kL]
  rw [hT]
  have l1 := txL_len kg (by omega)
  have l2 := txL_len kr (by omega)
  have l4 := putL_len 0 e (by omega)
  have c1 := rtx_ct kg (by omega)
  have c2 := rtx_ct kr (by omega)
  have c3 := rflag_ct kp
  have c4 := refNum_ct e (by omega)
  have c5 := rflag_ct ks
  obtain ⟨x3, hx3⟩ : ∃ x : Int, x = (if kp = true then 1 else 0) := ⟨_, rfl⟩
  obtain ⟨x5, hx5⟩ : ∃ x : Int, x = (if ks = true then 1 else 0) := ⟨_, rfl⟩
  unfold flL
  rw [← hx3] at c3 ⊢
  rw [← hx5] at c5 ⊢
  obtain ⟨D1, hD1⟩ : ∃ D, D = txL kg := ⟨_, rfl⟩
  rw [← hD1] at c1 l1 ⊢
  obtain ⟨D2, hD2⟩ : ∃ D, D = txL kr := ⟨_, rfl⟩
  rw [← hD2] at c2 l2 ⊢
  obtain ⟨D4, hD4⟩ : ∃ D, D = putL 0 e := ⟨_, rfl⟩
  rw [← hD4] at c4 l4 ⊢
  obtain ⟨T2, hT2⟩ : ∃ T, D1 ++ D2 = T := ⟨_, rfl⟩
  have hTl2 : T2.length = D1.length + D2.length := by rw [← hT2, List.length_append]
  rw [hT2]
  obtain ⟨T3, hT3⟩ : ∃ T, T2 ++ [x3] = T := ⟨_, rfl⟩
  have hTl3 : T3.length = T2.length + 1 := by rw [← hT3, List.length_append]; rfl
  rw [hT3]
  obtain ⟨T4, hT4⟩ : ∃ T, T3 ++ D4 = T := ⟨_, rfl⟩
  have hTl4 : T4.length = T3.length + D4.length := by rw [← hT4, List.length_append]
  rw [hT4]
  obtain ⟨T5, hT5⟩ : ∃ T, T4 ++ [x5] = T := ⟨_, rfl⟩
  have hTl5 : T5.length = T4.length + 1 := by rw [← hT5, List.length_append]; rfl
  rw [hT5]
  have tk : ∀ L : List Int, L.take L.length = L := fun L => List.take_length
  refine ACt.intro Tryd.func40 rfl (by kernel_rfl) (by simp [Tryd.ntmps40]) (fun cx => ?_)
  simp only [argE, Tryd.ntmps40, Tryd.results40]
  first | (have FRx := FR; clear FRx) | have FR := fr0S
  have FA := Sm.mk (And.intro TFCoM (And.intro tk (And.intro hT2 (And.intro hT3 (And.intro hT4 hT5)))))
  repeat' first | (apply Sm.mk; refine Ys ?_) | refine WP.seq fun K hK => ?_ | (apply Ob.mk; exact Yo) | refine And.intro (Ob.out ?_) ?_ | refine Y1CoM ?_ | (refine WCt.row (by simp only [hget, ↓reduceIte, FR.out, tk, hT2, hT3, hT4, hT5]; first | done | rfl) (c1) (Sm.out ?_)) | (refine WCt.mkrow (c1) (Sm.out ?_)) | (refine CallV.row (by simp only [hget, ↓reduceIte, FR.out, tk, hT2, hT3, hT4, hT5]; first | done | rfl) (c1) (Sm.out ?_)) | refine CallV.mkrow (c1) (Sm.out ?_) | (refine CallV.upd (by simp only [hget, ↓reduceIte, FR.out, tk, hT2, hT3, hT4, hT5]; first | done | rfl) (c1) (Sm.out ?_)) | refine CallV.mkobj (c1) (Sm.out ?_) | (first | refine CallV.fn (c1) (Sm.out ?_) | refine ExF.mk (c1) (Sm.out ?_) | refine ExG.mk (fun _ => c1) (Sm.out ?_) | refine ExG.mkJ (fun _ => c1) (Sm.out ?_) | refine ExG.mkI (Ob.out ?_) (fun _ => c1) (Sm.out ?_)) | (refine WCt.row (by simp only [hget, ↓reduceIte, FR.out, tk, hT2, hT3, hT4, hT5]; first | done | rfl) (c2) (Sm.out ?_)) | (refine WCt.mkrow (c2) (Sm.out ?_)) | (refine CallV.row (by simp only [hget, ↓reduceIte, FR.out, tk, hT2, hT3, hT4, hT5]; first | done | rfl) (c2) (Sm.out ?_)) | refine CallV.mkrow (c2) (Sm.out ?_) | (refine CallV.upd (by simp only [hget, ↓reduceIte, FR.out, tk, hT2, hT3, hT4, hT5]; first | done | rfl) (c2) (Sm.out ?_)) | refine CallV.mkobj (c2) (Sm.out ?_) | (first | refine CallV.fn (c2) (Sm.out ?_) | refine ExF.mk (c2) (Sm.out ?_) | refine ExG.mk (fun _ => c2) (Sm.out ?_) | refine ExG.mkJ (fun _ => c2) (Sm.out ?_) | refine ExG.mkI (Ob.out ?_) (fun _ => c2) (Sm.out ?_)) | (refine WCt.row (by simp only [hget, ↓reduceIte, FR.out, tk, hT2, hT3, hT4, hT5]; first | done | rfl) (c3) (Sm.out ?_)) | (refine WCt.mkrow (c3) (Sm.out ?_)) | (refine CallV.row (by simp only [hget, ↓reduceIte, FR.out, tk, hT2, hT3, hT4, hT5]; first | done | rfl) (c3) (Sm.out ?_)) | refine CallV.mkrow (c3) (Sm.out ?_) | (refine CallV.upd (by simp only [hget, ↓reduceIte, FR.out, tk, hT2, hT3, hT4, hT5]; first | done | rfl) (c3) (Sm.out ?_)) | refine CallV.mkobj (c3) (Sm.out ?_) | (first | refine CallV.fn (c3) (Sm.out ?_) | refine ExF.mk (c3) (Sm.out ?_) | refine ExG.mk (fun _ => c3) (Sm.out ?_) | refine ExG.mkJ (fun _ => c3) (Sm.out ?_) | refine ExG.mkI (Ob.out ?_) (fun _ => c3) (Sm.out ?_)) | (refine WCt.row (by simp only [hget, ↓reduceIte, FR.out, tk, hT2, hT3, hT4, hT5]; first | done | rfl) (c4) (Sm.out ?_)) | (refine WCt.mkrow (c4) (Sm.out ?_)) | (refine CallV.row (by simp only [hget, ↓reduceIte, FR.out, tk, hT2, hT3, hT4, hT5]; first | done | rfl) (c4) (Sm.out ?_)) | refine CallV.mkrow (c4) (Sm.out ?_) | (refine CallV.upd (by simp only [hget, ↓reduceIte, FR.out, tk, hT2, hT3, hT4, hT5]; first | done | rfl) (c4) (Sm.out ?_)) | refine CallV.mkobj (c4) (Sm.out ?_) | (first | refine CallV.fn (c4) (Sm.out ?_) | refine ExF.mk (c4) (Sm.out ?_) | refine ExG.mk (fun _ => c4) (Sm.out ?_) | refine ExG.mkJ (fun _ => c4) (Sm.out ?_) | refine ExG.mkI (Ob.out ?_) (fun _ => c4) (Sm.out ?_)) | (refine WCt.row (by simp only [hget, ↓reduceIte, FR.out, tk, hT2, hT3, hT4, hT5]; first | done | rfl) (c5) (Sm.out ?_)) | (refine WCt.mkrow (c5) (Sm.out ?_)) | (refine CallV.row (by simp only [hget, ↓reduceIte, FR.out, tk, hT2, hT3, hT4, hT5]; first | done | rfl) (c5) (Sm.out ?_)) | refine CallV.mkrow (c5) (Sm.out ?_) | (refine CallV.upd (by simp only [hget, ↓reduceIte, FR.out, tk, hT2, hT3, hT4, hT5]; first | done | rfl) (c5) (Sm.out ?_)) | refine CallV.mkobj (c5) (Sm.out ?_) | (first | refine CallV.fn (c5) (Sm.out ?_) | refine ExF.mk (c5) (Sm.out ?_) | refine ExG.mk (fun _ => c5) (Sm.out ?_) | refine ExG.mkJ (fun _ => c5) (Sm.out ?_) | refine ExG.mkI (Ob.out ?_) (fun _ => c5) (Sm.out ?_)) | refine YzCoM ?_ | (refine WP.cond rfl (fun hc => ?_) (fun hc => ?_) <;> (try simp only [ZC, reduceCtorEq, ZD] at hc) <;> (try exact absurd hc (by decide)) <;> (try (exfalso; omega))) | refine Rt.mk (And.intro (fun hg => Sm.out ?_) fun hg => Sm.out ?_) | (refine Nu.mk ?_; first | (fail_if_success have := nb1); intro nb1 | (fail_if_success have := nb2); intro nb2 | (fail_if_success have := nb3); intro nb3 | (fail_if_success have := nb4); intro nb4 | (fail_if_success have := nb5); intro nb5 | (fail_if_success have := nb6); intro nb6 | (fail_if_success have := nb7); intro nb7 | (fail_if_success have := nb8); intro nb8 | (fail_if_success have := nb9); intro nb9 | (fail_if_success have := nb10); intro nb10 | (fail_if_success have := nb11); intro nb11 | (fail_if_success have := nb12); intro nb12 | (fail_if_success have := nb13); intro nb13 | (fail_if_success have := nb14); intro nb14 | (fail_if_success have := nb15); intro nb15 | (fail_if_success have := nb16); intro nb16 | (fail_if_success have := nb17); intro nb17 | (fail_if_success have := nb18); intro nb18 | (fail_if_success have := nb19); intro nb19 | (fail_if_success have := nb20); intro nb20 | intro nbz) | (apply Yfr; refine Yf FR fun hFRb FR => ?_) | refine Two.mk ?_ ?_ | (apply Yxc; exact Yx) | refine Cs.mk fun hcs => Sm.out ?_ | go_step | omega | (simp only [maxLen_eq]; omega) | exact trivial | refine Or.inr (Rt.mk (And.intro (fun hg => Sm.out ?_) fun hg => Sm.out ?_))
  all_goals (refine OutQ.row (by simp only [resv, ZK, look, loadv, loadn, loadnm, load1, load1m, hget, ↓reduceIte, Nat.reduceEqDiff, Nat.reduceAdd, Nat.reduceMul, Nat.reduceLeDiff, Nat.reduceLT, reduceCtorEq, TFCoM, FR.out]) (by simp only [resv, resA, ZK, look, loadv, loadn, loadnm, load1, load1m, hget, ↓reduceIte, Nat.reduceEqDiff, Nat.reduceAdd, Nat.reduceMul, Nat.reduceLeDiff, Nat.reduceLT, reduceCtorEq, TFCoM, FR.out]; first | done | rfl) (by simp only [hget, ↓reduceIte, if_true, if_false, FR.out]; first | done | rfl) ?_ ?_ ?_ ?_ <;> first | omega | (simp only [maxLen_eq]; omega) | skip)
  all_goals first | omega | rfl
set_option maxRecDepth 8000 in
set_option maxHeartbeats 4000000 in
theorem rsput_ct (s : Sl) (hs : Sb s) : ACt Tryd.prog 41 [siv s] [] (Row .u8 5 (sL s)) := by
  have m1 := hs.z.n
  have m2 := hs.z.g
  have mw := hs.w
  have mf := hs.f
  have mt := hs.t
  obtain ⟨nm, gl, w, f, t⟩ := s
  simp only at m1 m2 mw mf mt
  have hT : sL ⟨nm, gl, w, f, t⟩ = txL nm ++ txL gl ++ intL w ++ intL f ++ intL t := by simp [sL]
  rw [hT]
  have l1 := txL_len nm (by omega)
  have l2 := txL_len gl (by omega)
  have l3 := intL_len w mw.1 mw.2
  have l4 := intL_len f mf.1 mf.2
  have l5 := intL_len t mt.1 mt.2
  have c1 := rtx_ct nm (by omega)
  have c2 := rtx_ct gl (by omega)
  have c3 := refInt_ct w mw.1 mw.2
  have c4 := refInt_ct f mf.1 mf.2
  have c5 := refInt_ct t mt.1 mt.2
  obtain ⟨D1, hD1⟩ : ∃ D, D = txL nm := ⟨_, rfl⟩
  rw [← hD1] at c1 l1 ⊢
  obtain ⟨D2, hD2⟩ : ∃ D, D = txL gl := ⟨_, rfl⟩
  rw [← hD2] at c2 l2 ⊢
  obtain ⟨D3, hD3⟩ : ∃ D, D = intL w := ⟨_, rfl⟩
  rw [← hD3] at c3 l3 ⊢
  obtain ⟨D4, hD4⟩ : ∃ D, D = intL f := ⟨_, rfl⟩
  rw [← hD4] at c4 l4 ⊢
  obtain ⟨D5, hD5⟩ : ∃ D, D = intL t := ⟨_, rfl⟩
  rw [← hD5] at c5 l5 ⊢
  obtain ⟨T2, hT2⟩ : ∃ T, D1 ++ D2 = T := ⟨_, rfl⟩
  have hTl2 : T2.length = D1.length + D2.length := by rw [← hT2, List.length_append]
  rw [hT2]
  obtain ⟨T3, hT3⟩ : ∃ T, T2 ++ D3 = T := ⟨_, rfl⟩
  have hTl3 : T3.length = T2.length + D3.length := by rw [← hT3, List.length_append]
  rw [hT3]
  obtain ⟨T4, hT4⟩ : ∃ T, T3 ++ D4 = T := ⟨_, rfl⟩
  have hTl4 : T4.length = T3.length + D4.length := by rw [← hT4, List.length_append]
  rw [hT4]
  obtain ⟨T5, hT5⟩ : ∃ T, T4 ++ D5 = T := ⟨_, rfl⟩
  have hTl5 : T5.length = T4.length + D5.length := by rw [← hT5, List.length_append]
  rw [hT5]
  have tk : ∀ L : List Int, L.take L.length = L := fun L => List.take_length
  refine ACt.intro Tryd.func41 rfl (by kernel_rfl) (by simp [Tryd.ntmps41]) (fun cx => ?_)
  simp only [argE, Tryd.ntmps41, Tryd.results41]
  first | (have FRx := FR; clear FRx) | have FR := fr0S
  have FA := Sm.mk (And.intro TFCoM (And.intro tk (And.intro hT2 (And.intro hT3 (And.intro hT4 hT5)))))
  repeat' first | (apply Sm.mk; refine Ys ?_) | refine WP.seq fun K hK => ?_ | (apply Ob.mk; exact Yo) | refine And.intro (Ob.out ?_) ?_ | refine Y1CoM ?_ | (refine WCt.row (by simp only [hget, ↓reduceIte, FR.out, tk, hT2, hT3, hT4, hT5]; first | done | rfl) (c1) (Sm.out ?_)) | (refine WCt.mkrow (c1) (Sm.out ?_)) | (refine CallV.row (by simp only [hget, ↓reduceIte, FR.out, tk, hT2, hT3, hT4, hT5]; first | done | rfl) (c1) (Sm.out ?_)) | refine CallV.mkrow (c1) (Sm.out ?_) | (refine CallV.upd (by simp only [hget, ↓reduceIte, FR.out, tk, hT2, hT3, hT4, hT5]; first | done | rfl) (c1) (Sm.out ?_)) | refine CallV.mkobj (c1) (Sm.out ?_) | (first | refine CallV.fn (c1) (Sm.out ?_) | refine ExF.mk (c1) (Sm.out ?_) | refine ExG.mk (fun _ => c1) (Sm.out ?_) | refine ExG.mkJ (fun _ => c1) (Sm.out ?_) | refine ExG.mkI (Ob.out ?_) (fun _ => c1) (Sm.out ?_)) | (refine WCt.row (by simp only [hget, ↓reduceIte, FR.out, tk, hT2, hT3, hT4, hT5]; first | done | rfl) (c2) (Sm.out ?_)) | (refine WCt.mkrow (c2) (Sm.out ?_)) | (refine CallV.row (by simp only [hget, ↓reduceIte, FR.out, tk, hT2, hT3, hT4, hT5]; first | done | rfl) (c2) (Sm.out ?_)) | refine CallV.mkrow (c2) (Sm.out ?_) | (refine CallV.upd (by simp only [hget, ↓reduceIte, FR.out, tk, hT2, hT3, hT4, hT5]; first | done | rfl) (c2) (Sm.out ?_)) | refine CallV.mkobj (c2) (Sm.out ?_) | (first | refine CallV.fn (c2) (Sm.out ?_) | refine ExF.mk (c2) (Sm.out ?_) | refine ExG.mk (fun _ => c2) (Sm.out ?_) | refine ExG.mkJ (fun _ => c2) (Sm.out ?_) | refine ExG.mkI (Ob.out ?_) (fun _ => c2) (Sm.out ?_)) | (refine WCt.row (by simp only [hget, ↓reduceIte, FR.out, tk, hT2, hT3, hT4, hT5]; first | done | rfl) (c3) (Sm.out ?_)) | (refine WCt.mkrow (c3) (Sm.out ?_)) | (refine CallV.row (by simp only [hget, ↓reduceIte, FR.out, tk, hT2, hT3, hT4, hT5]; first | done | rfl) (c3) (Sm.out ?_)) | refine CallV.mkrow (c3) (Sm.out ?_) | (refine CallV.upd (by simp only [hget, ↓reduceIte, FR.out, tk, hT2, hT3, hT4, hT5]; first | done | rfl) (c3) (Sm.out ?_)) | refine CallV.mkobj (c3) (Sm.out ?_) | (first | refine CallV.fn (c3) (Sm.out ?_) | refine ExF.mk (c3) (Sm.out ?_) | refine ExG.mk (fun _ => c3) (Sm.out ?_) | refine ExG.mkJ (fun _ => c3) (Sm.out ?_) | refine ExG.mkI (Ob.out ?_) (fun _ => c3) (Sm.out ?_)) | (refine WCt.row (by simp only [hget, ↓reduceIte, FR.out, tk, hT2, hT3, hT4, hT5]; first | done | rfl) (c4) (Sm.out ?_)) | (refine WCt.mkrow (c4) (Sm.out ?_)) | (refine CallV.row (by simp only [hget, ↓reduceIte, FR.out, tk, hT2, hT3, hT4, hT5]; first | done | rfl) (c4) (Sm.out ?_)) | refine CallV.mkrow (c4) (Sm.out ?_) | (refine CallV.upd (by simp only [hget, ↓reduceIte, FR.out, tk, hT2, hT3, hT4, hT5]; first | done | rfl) (c4) (Sm.out ?_)) | refine CallV.mkobj (c4) (Sm.out ?_) | (first | refine CallV.fn (c4) (Sm.out ?_) | refine ExF.mk (c4) (Sm.out ?_) | refine ExG.mk (fun _ => c4) (Sm.out ?_) | refine ExG.mkJ (fun _ => c4) (Sm.out ?_) | refine ExG.mkI (Ob.out ?_) (fun _ => c4) (Sm.out ?_)) | (refine WCt.row (by simp only [hget, ↓reduceIte, FR.out, tk, hT2, hT3, hT4, hT5]; first | done | rfl) (c5) (Sm.out ?_)) | (refine WCt.mkrow (c5) (Sm.out ?_)) | (refine CallV.row (by simp only [hget, ↓reduceIte, FR.out, tk, hT2, hT3, hT4, hT5]; first | done | rfl) (c5) (Sm.out ?_)) | refine CallV.mkrow (c5) (Sm.out ?_) | (refine CallV.upd (by simp only [hget, ↓reduceIte, FR.out, tk, hT2, hT3, hT4, hT5]; first | done | rfl) (c5) (Sm.out ?_)) | refine CallV.mkobj (c5) (Sm.out ?_) | (first | refine CallV.fn (c5) (Sm.out ?_) | refine ExF.mk (c5) (Sm.out ?_) | refine ExG.mk (fun _ => c5) (Sm.out ?_) | refine ExG.mkJ (fun _ => c5) (Sm.out ?_) | refine ExG.mkI (Ob.out ?_) (fun _ => c5) (Sm.out ?_)) | refine YzCoM ?_ | (refine WP.cond rfl (fun hc => ?_) (fun hc => ?_) <;> (try simp only [ZC, reduceCtorEq, ZD] at hc) <;> (try exact absurd hc (by decide)) <;> (try (exfalso; omega))) | refine Rt.mk (And.intro (fun hg => Sm.out ?_) fun hg => Sm.out ?_) | (refine Nu.mk ?_; first | (fail_if_success have := nb1); intro nb1 | (fail_if_success have := nb2); intro nb2 | (fail_if_success have := nb3); intro nb3 | (fail_if_success have := nb4); intro nb4 | (fail_if_success have := nb5); intro nb5 | (fail_if_success have := nb6); intro nb6 | (fail_if_success have := nb7); intro nb7 | (fail_if_success have := nb8); intro nb8 | (fail_if_success have := nb9); intro nb9 | (fail_if_success have := nb10); intro nb10 | (fail_if_success have := nb11); intro nb11 | (fail_if_success have := nb12); intro nb12 | (fail_if_success have := nb13); intro nb13 | (fail_if_success have := nb14); intro nb14 | (fail_if_success have := nb15); intro nb15 | (fail_if_success have := nb16); intro nb16 | (fail_if_success have := nb17); intro nb17 | (fail_if_success have := nb18); intro nb18 | (fail_if_success have := nb19); intro nb19 | (fail_if_success have := nb20); intro nb20 | intro nbz) | (apply Yfr; refine Yf FR fun hFRb FR => ?_) | refine Two.mk ?_ ?_ | (apply Yxc; exact Yx) | refine Cs.mk fun hcs => Sm.out ?_ | go_step | omega | (simp only [maxLen_eq]; omega) | exact trivial | refine Or.inr (Rt.mk (And.intro (fun hg => Sm.out ?_) fun hg => Sm.out ?_))
  all_goals (refine OutQ.row (by simp only [resv, ZK, look, loadv, loadn, loadnm, load1, load1m, hget, ↓reduceIte, Nat.reduceEqDiff, Nat.reduceAdd, Nat.reduceMul, Nat.reduceLeDiff, Nat.reduceLT, reduceCtorEq, TFCoM, FR.out]) (by simp only [resv, resA, ZK, look, loadv, loadn, loadnm, load1, load1m, hget, ↓reduceIte, Nat.reduceEqDiff, Nat.reduceAdd, Nat.reduceMul, Nat.reduceLeDiff, Nat.reduceLT, reduceCtorEq, TFCoM, FR.out]; first | done | rfl) (by simp only [hget, ↓reduceIte, if_true, if_false, FR.out]; first | done | rfl) ?_ ?_ ?_ ?_ <;> first | omega | (simp only [maxLen_eq]; omega) | skip)
  all_goals first | omega | rfl
set_option maxRecDepth 8000 in
set_option maxHeartbeats 4000000 in
theorem rput_1 (tx : ByteArray) (a : Int) (g t : Int) (k : Ky) (s : Sl) (hx : tx.size ≤ 5000) : ACt Tryd.prog 14 [ov ⟨1, tx, a, g, t, k, s⟩] [] (Row .u8 5 (putL 0 1 ++ txL tx)) := by
  have u : IntKind.u64.wrap 1 = ((1 : Nat) : Int) := by decide
  have cT : ACt Tryd.prog 25 [iv .i64 1] [] (Fn (bv true)) := rtext_ct 1
  have cA : ACt Tryd.prog 26 [iv .i64 1] [] (Fn (bv false)) := rat_ct 1
  have y2 : ((1 : Int) == 2) = false := rfl
  have y4 : ((1 : Int) == 4) = false := rfl
  have y5 : ((1 : Int) == 5) = false := rfl
  have c1 := refNum_ct 1 (by omega)
  have l1 := putL_len 0 1 (by omega)
  obtain ⟨D1, hD1⟩ : ∃ D, D = putL 0 1 := ⟨_, rfl⟩
  rw [← hD1] at c1 l1 ⊢
  have c2 := rtx_ct tx (by omega)
  have l2 := txL_len tx (by omega)
  obtain ⟨D2, hD2⟩ : ∃ D, D = txL tx := ⟨_, rfl⟩
  rw [← hD2] at c2 l2 ⊢
  obtain ⟨T2, hT2⟩ : ∃ T, D1 ++ D2 = T := ⟨_, rfl⟩
  have hTl2 : T2.length = D1.length + D2.length := by rw [← hT2, List.length_append]
  rw [hT2]
  have tk : ∀ L : List Int, L.take L.length = L := fun L => List.take_length
  obtain ⟨kg, kr, kp, ke, ks⟩ := k
  obtain ⟨nm, gl, w, f, t2⟩ := s
  refine ACt.intro Tryd.func14 rfl (by kernel_rfl) (by simp [Tryd.ntmps14]) (fun cx => ?_)
  simp only [argE, Tryd.ntmps14, Tryd.results14]
  first | (have FRx := FR; clear FRx) | have FR := fr0S
  have FA := Sm.mk (And.intro TFCoM (And.intro tk (And.intro u (And.intro y2 (And.intro y4 (And.intro y5 hT2))))))
  repeat' first | (apply Sm.mk; refine Ys ?_) | refine WP.seq fun K hK => ?_ | (apply Ob.mk; exact Yo) | refine And.intro (Ob.out ?_) ?_ | refine Y1CoM ?_ | (first | refine CallV.fn (cT) (Sm.out ?_) | refine ExF.mk (cT) (Sm.out ?_) | refine ExG.mk (fun _ => cT) (Sm.out ?_) | refine ExG.mkJ (fun _ => cT) (Sm.out ?_) | refine ExG.mkI (Ob.out ?_) (fun _ => cT) (Sm.out ?_)) | (first | refine CallV.fn (cA) (Sm.out ?_) | refine ExF.mk (cA) (Sm.out ?_) | refine ExG.mk (fun _ => cA) (Sm.out ?_) | refine ExG.mkJ (fun _ => cA) (Sm.out ?_) | refine ExG.mkI (Ob.out ?_) (fun _ => cA) (Sm.out ?_)) | (refine WCt.row (by simp only [hget, ↓reduceIte, FR.out, tk, u, y2, y4, y5, hT2]; first | done | rfl) (c1) (Sm.out ?_)) | (refine WCt.mkrow (c1) (Sm.out ?_)) | (refine CallV.row (by simp only [hget, ↓reduceIte, FR.out, tk, u, y2, y4, y5, hT2]; first | done | rfl) (c1) (Sm.out ?_)) | refine CallV.mkrow (c1) (Sm.out ?_) | (refine CallV.upd (by simp only [hget, ↓reduceIte, FR.out, tk, u, y2, y4, y5, hT2]; first | done | rfl) (c1) (Sm.out ?_)) | refine CallV.mkobj (c1) (Sm.out ?_) | (first | refine CallV.fn (c1) (Sm.out ?_) | refine ExF.mk (c1) (Sm.out ?_) | refine ExG.mk (fun _ => c1) (Sm.out ?_) | refine ExG.mkJ (fun _ => c1) (Sm.out ?_) | refine ExG.mkI (Ob.out ?_) (fun _ => c1) (Sm.out ?_)) | (refine WCt.row (by simp only [hget, ↓reduceIte, FR.out, tk, u, y2, y4, y5, hT2]; first | done | rfl) (c2) (Sm.out ?_)) | (refine WCt.mkrow (c2) (Sm.out ?_)) | (refine CallV.row (by simp only [hget, ↓reduceIte, FR.out, tk, u, y2, y4, y5, hT2]; first | done | rfl) (c2) (Sm.out ?_)) | refine CallV.mkrow (c2) (Sm.out ?_) | (refine CallV.upd (by simp only [hget, ↓reduceIte, FR.out, tk, u, y2, y4, y5, hT2]; first | done | rfl) (c2) (Sm.out ?_)) | refine CallV.mkobj (c2) (Sm.out ?_) | (first | refine CallV.fn (c2) (Sm.out ?_) | refine ExF.mk (c2) (Sm.out ?_) | refine ExG.mk (fun _ => c2) (Sm.out ?_) | refine ExG.mkJ (fun _ => c2) (Sm.out ?_) | refine ExG.mkI (Ob.out ?_) (fun _ => c2) (Sm.out ?_)) | refine YzCoM ?_ | (refine WP.cond rfl (fun hc => ?_) (fun hc => ?_) <;> (try simp only [ZC, reduceCtorEq, ZD] at hc) <;> (try exact absurd hc (by decide)) <;> (try (exfalso; omega))) | refine Rt.mk (And.intro (fun hg => Sm.out ?_) fun hg => Sm.out ?_) | (refine Nu.mk ?_; first | (fail_if_success have := nb1); intro nb1 | (fail_if_success have := nb2); intro nb2 | (fail_if_success have := nb3); intro nb3 | (fail_if_success have := nb4); intro nb4 | (fail_if_success have := nb5); intro nb5 | (fail_if_success have := nb6); intro nb6 | (fail_if_success have := nb7); intro nb7 | (fail_if_success have := nb8); intro nb8 | (fail_if_success have := nb9); intro nb9 | (fail_if_success have := nb10); intro nb10 | (fail_if_success have := nb11); intro nb11 | (fail_if_success have := nb12); intro nb12 | (fail_if_success have := nb13); intro nb13 | (fail_if_success have := nb14); intro nb14 | (fail_if_success have := nb15); intro nb15 | (fail_if_success have := nb16); intro nb16 | (fail_if_success have := nb17); intro nb17 | (fail_if_success have := nb18); intro nb18 | (fail_if_success have := nb19); intro nb19 | (fail_if_success have := nb20); intro nb20 | intro nbz) | (apply Yfr; refine Yf FR fun hFRb FR => ?_) | refine Two.mk ?_ ?_ | (apply Yxc; exact Yx) | refine Cs.mk fun hcs => Sm.out ?_ | go_step | omega | (simp only [maxLen_eq]; omega) | exact trivial | refine Or.inr (Rt.mk (And.intro (fun hg => Sm.out ?_) fun hg => Sm.out ?_))
  all_goals (refine OutQ.row (by simp only [resv, ZK, look, loadv, loadn, loadnm, load1, load1m, hget, ↓reduceIte, Nat.reduceEqDiff, Nat.reduceAdd, Nat.reduceMul, Nat.reduceLeDiff, Nat.reduceLT, reduceCtorEq, TFCoM, FR.out]) (by simp only [resv, resA, ZK, look, loadv, loadn, loadnm, load1, load1m, hget, ↓reduceIte, Nat.reduceEqDiff, Nat.reduceAdd, Nat.reduceMul, Nat.reduceLeDiff, Nat.reduceLT, reduceCtorEq, TFCoM, FR.out]; first | done | rfl) (by simp only [hget, ↓reduceIte, if_true, if_false, FR.out]; first | done | rfl) ?_ ?_ ?_ ?_ <;> first | omega | (simp only [maxLen_eq]; omega) | skip)
  all_goals first | omega | rfl
set_option maxRecDepth 8000 in
set_option maxHeartbeats 4000000 in
theorem rput_2 (tx : ByteArray) (a : Int) (g t : Nat) (k : Ky) (s : Sl) (hx : tx.size ≤ 5000) (ha : -9223372036854775808 ≤ a ∧ a ≤ 9223372036854775807) (hg : g < 18446744073709551616) (ht : t < 18446744073709551616) : ACt Tryd.prog 14 [ov ⟨2, tx, a, (g : Int), (t : Int), k, s⟩] [] (Row .u8 5 (putL 0 2 ++ txL tx ++ intL a ++ putL 0 g ++ putL 0 t)) := by
  have u : IntKind.u64.wrap 2 = ((2 : Nat) : Int) := by decide
  have cT : ACt Tryd.prog 25 [iv .i64 2] [] (Fn (bv true)) := rtext_ct 2
  have cA : ACt Tryd.prog 26 [iv .i64 2] [] (Fn (bv true)) := rat_ct 2
  have y2 : ((2 : Int) == 2) = true := rfl
  have y4 : ((2 : Int) == 4) = false := rfl
  have y5 : ((2 : Int) == 5) = false := rfl
  have c1 := refNum_ct 2 (by omega)
  have l1 := putL_len 0 2 (by omega)
  obtain ⟨D1, hD1⟩ : ∃ D, D = putL 0 2 := ⟨_, rfl⟩
  rw [← hD1] at c1 l1 ⊢
  have c2 := rtx_ct tx (by omega)
  have l2 := txL_len tx (by omega)
  obtain ⟨D2, hD2⟩ : ∃ D, D = txL tx := ⟨_, rfl⟩
  rw [← hD2] at c2 l2 ⊢
  have c3 := refInt_ct a ha.1 ha.2
  have l3 := intL_len a ha.1 ha.2
  obtain ⟨D3, hD3⟩ : ∃ D, D = intL a := ⟨_, rfl⟩
  rw [← hD3] at c3 l3 ⊢
  have c4 := refNum_ct g (by omega)
  have l4 := putL_len 0 g (by omega)
  obtain ⟨D4, hD4⟩ : ∃ D, D = putL 0 g := ⟨_, rfl⟩
  rw [← hD4] at c4 l4 ⊢
  have c5 := refNum_ct t (by omega)
  have l5 := putL_len 0 t (by omega)
  obtain ⟨D5, hD5⟩ : ∃ D, D = putL 0 t := ⟨_, rfl⟩
  rw [← hD5] at c5 l5 ⊢
  obtain ⟨T2, hT2⟩ : ∃ T, D1 ++ D2 = T := ⟨_, rfl⟩
  have hTl2 : T2.length = D1.length + D2.length := by rw [← hT2, List.length_append]
  rw [hT2]
  obtain ⟨T3, hT3⟩ : ∃ T, T2 ++ D3 = T := ⟨_, rfl⟩
  have hTl3 : T3.length = T2.length + D3.length := by rw [← hT3, List.length_append]
  rw [hT3]
  obtain ⟨T4, hT4⟩ : ∃ T, T3 ++ D4 = T := ⟨_, rfl⟩
  have hTl4 : T4.length = T3.length + D4.length := by rw [← hT4, List.length_append]
  rw [hT4]
  obtain ⟨T5, hT5⟩ : ∃ T, T4 ++ D5 = T := ⟨_, rfl⟩
  have hTl5 : T5.length = T4.length + D5.length := by rw [← hT5, List.length_append]
  rw [hT5]
  have tk : ∀ L : List Int, L.take L.length = L := fun L => List.take_length
  obtain ⟨kg, kr, kp, ke, ks⟩ := k
  obtain ⟨nm, gl, w, f, t2⟩ := s
  refine ACt.intro Tryd.func14 rfl (by kernel_rfl) (by simp [Tryd.ntmps14]) (fun cx => ?_)
  simp only [argE, Tryd.ntmps14, Tryd.results14]
  first | (have FRx := FR; clear FRx) | have FR := fr0S
  have FA := Sm.mk (And.intro TFCoM (And.intro tk (And.intro u (And.intro y2 (And.intro y4 (And.intro y5 (And.intro hT2 (And.intro hT3 (And.intro hT4 hT5)))))))))
  repeat' first | (apply Sm.mk; refine Ys ?_) | refine WP.seq fun K hK => ?_ | (apply Ob.mk; exact Yo) | refine And.intro (Ob.out ?_) ?_ | refine Y1CoM ?_ | (first | refine CallV.fn (cT) (Sm.out ?_) | refine ExF.mk (cT) (Sm.out ?_) | refine ExG.mk (fun _ => cT) (Sm.out ?_) | refine ExG.mkJ (fun _ => cT) (Sm.out ?_) | refine ExG.mkI (Ob.out ?_) (fun _ => cT) (Sm.out ?_)) | (first | refine CallV.fn (cA) (Sm.out ?_) | refine ExF.mk (cA) (Sm.out ?_) | refine ExG.mk (fun _ => cA) (Sm.out ?_) | refine ExG.mkJ (fun _ => cA) (Sm.out ?_) | refine ExG.mkI (Ob.out ?_) (fun _ => cA) (Sm.out ?_)) | (refine WCt.row (by simp only [hget, ↓reduceIte, FR.out, tk, u, y2, y4, y5, hT2, hT3, hT4, hT5]; first | done | rfl) (c1) (Sm.out ?_)) | (refine WCt.mkrow (c1) (Sm.out ?_)) | (refine CallV.row (by simp only [hget, ↓reduceIte, FR.out, tk, u, y2, y4, y5, hT2, hT3, hT4, hT5]; first | done | rfl) (c1) (Sm.out ?_)) | refine CallV.mkrow (c1) (Sm.out ?_) | (refine CallV.upd (by simp only [hget, ↓reduceIte, FR.out, tk, u, y2, y4, y5, hT2, hT3, hT4, hT5]; first | done | rfl) (c1) (Sm.out ?_)) | refine CallV.mkobj (c1) (Sm.out ?_) | (first | refine CallV.fn (c1) (Sm.out ?_) | refine ExF.mk (c1) (Sm.out ?_) | refine ExG.mk (fun _ => c1) (Sm.out ?_) | refine ExG.mkJ (fun _ => c1) (Sm.out ?_) | refine ExG.mkI (Ob.out ?_) (fun _ => c1) (Sm.out ?_)) | (refine WCt.row (by simp only [hget, ↓reduceIte, FR.out, tk, u, y2, y4, y5, hT2, hT3, hT4, hT5]; first | done | rfl) (c2) (Sm.out ?_)) | (refine WCt.mkrow (c2) (Sm.out ?_)) | (refine CallV.row (by simp only [hget, ↓reduceIte, FR.out, tk, u, y2, y4, y5, hT2, hT3, hT4, hT5]; first | done | rfl) (c2) (Sm.out ?_)) | refine CallV.mkrow (c2) (Sm.out ?_) | (refine CallV.upd (by simp only [hget, ↓reduceIte, FR.out, tk, u, y2, y4, y5, hT2, hT3, hT4, hT5]; first | done | rfl) (c2) (Sm.out ?_)) | refine CallV.mkobj (c2) (Sm.out ?_) | (first | refine CallV.fn (c2) (Sm.out ?_) | refine ExF.mk (c2) (Sm.out ?_) | refine ExG.mk (fun _ => c2) (Sm.out ?_) | refine ExG.mkJ (fun _ => c2) (Sm.out ?_) | refine ExG.mkI (Ob.out ?_) (fun _ => c2) (Sm.out ?_)) | (refine WCt.row (by simp only [hget, ↓reduceIte, FR.out, tk, u, y2, y4, y5, hT2, hT3, hT4, hT5]; first | done | rfl) (c3) (Sm.out ?_)) | (refine WCt.mkrow (c3) (Sm.out ?_)) | (refine CallV.row (by simp only [hget, ↓reduceIte, FR.out, tk, u, y2, y4, y5, hT2, hT3, hT4, hT5]; first | done | rfl) (c3) (Sm.out ?_)) | refine CallV.mkrow (c3) (Sm.out ?_) | (refine CallV.upd (by simp only [hget, ↓reduceIte, FR.out, tk, u, y2, y4, y5, hT2, hT3, hT4, hT5]; first | done | rfl) (c3) (Sm.out ?_)) | refine CallV.mkobj (c3) (Sm.out ?_) | (first | refine CallV.fn (c3) (Sm.out ?_) | refine ExF.mk (c3) (Sm.out ?_) | refine ExG.mk (fun _ => c3) (Sm.out ?_) | refine ExG.mkJ (fun _ => c3) (Sm.out ?_) | refine ExG.mkI (Ob.out ?_) (fun _ => c3) (Sm.out ?_)) | (refine WCt.row (by simp only [hget, ↓reduceIte, FR.out, tk, u, y2, y4, y5, hT2, hT3, hT4, hT5]; first | done | rfl) (c4) (Sm.out ?_)) | (refine WCt.mkrow (c4) (Sm.out ?_)) | (refine CallV.row (by simp only [hget, ↓reduceIte, FR.out, tk, u, y2, y4, y5, hT2, hT3, hT4, hT5]; first | done | rfl) (c4) (Sm.out ?_)) | refine CallV.mkrow (c4) (Sm.out ?_) | (refine CallV.upd (by simp only [hget, ↓reduceIte, FR.out, tk, u, y2, y4, y5, hT2, hT3, hT4, hT5]; first | done | rfl) (c4) (Sm.out ?_)) | refine CallV.mkobj (c4) (Sm.out ?_) | (first | refine CallV.fn (c4) (Sm.out ?_) | refine ExF.mk (c4) (Sm.out ?_) | refine ExG.mk (fun _ => c4) (Sm.out ?_) | refine ExG.mkJ (fun _ => c4) (Sm.out ?_) | refine ExG.mkI (Ob.out ?_) (fun _ => c4) (Sm.out ?_)) | (refine WCt.row (by simp only [hget, ↓reduceIte, FR.out, tk, u, y2, y4, y5, hT2, hT3, hT4, hT5]; first | done | rfl) (c5) (Sm.out ?_)) | (refine WCt.mkrow (c5) (Sm.out ?_)) | (refine CallV.row (by simp only [hget, ↓reduceIte, FR.out, tk, u, y2, y4, y5, hT2, hT3, hT4, hT5]; first | done | rfl) (c5) (Sm.out ?_)) | refine CallV.mkrow (c5) (Sm.out ?_) | (refine CallV.upd (by simp only [hget, ↓reduceIte, FR.out, tk, u, y2, y4, y5, hT2, hT3, hT4, hT5]; first | done | rfl) (c5) (Sm.out ?_)) | refine CallV.mkobj (c5) (Sm.out ?_) | (first | refine CallV.fn (c5) (Sm.out ?_) | refine ExF.mk (c5) (Sm.out ?_) | refine ExG.mk (fun _ => c5) (Sm.out ?_) | refine ExG.mkJ (fun _ => c5) (Sm.out ?_) | refine ExG.mkI (Ob.out ?_) (fun _ => c5) (Sm.out ?_)) | refine YzCoM ?_ | (refine WP.cond rfl (fun hc => ?_) (fun hc => ?_) <;> (try simp only [ZC, reduceCtorEq, ZD] at hc) <;> (try exact absurd hc (by decide)) <;> (try (exfalso; omega))) | refine Rt.mk (And.intro (fun hg => Sm.out ?_) fun hg => Sm.out ?_) | (refine Nu.mk ?_; first | (fail_if_success have := nb1); intro nb1 | (fail_if_success have := nb2); intro nb2 | (fail_if_success have := nb3); intro nb3 | (fail_if_success have := nb4); intro nb4 | (fail_if_success have := nb5); intro nb5 | (fail_if_success have := nb6); intro nb6 | (fail_if_success have := nb7); intro nb7 | (fail_if_success have := nb8); intro nb8 | (fail_if_success have := nb9); intro nb9 | (fail_if_success have := nb10); intro nb10 | (fail_if_success have := nb11); intro nb11 | (fail_if_success have := nb12); intro nb12 | (fail_if_success have := nb13); intro nb13 | (fail_if_success have := nb14); intro nb14 | (fail_if_success have := nb15); intro nb15 | (fail_if_success have := nb16); intro nb16 | (fail_if_success have := nb17); intro nb17 | (fail_if_success have := nb18); intro nb18 | (fail_if_success have := nb19); intro nb19 | (fail_if_success have := nb20); intro nb20 | intro nbz) | (apply Yfr; refine Yf FR fun hFRb FR => ?_) | refine Two.mk ?_ ?_ | (apply Yxc; exact Yx) | refine Cs.mk fun hcs => Sm.out ?_ | go_step | omega | (simp only [maxLen_eq]; omega) | exact trivial | refine Or.inr (Rt.mk (And.intro (fun hg => Sm.out ?_) fun hg => Sm.out ?_))
  all_goals (refine OutQ.row (by simp only [resv, ZK, look, loadv, loadn, loadnm, load1, load1m, hget, ↓reduceIte, Nat.reduceEqDiff, Nat.reduceAdd, Nat.reduceMul, Nat.reduceLeDiff, Nat.reduceLT, reduceCtorEq, TFCoM, FR.out]) (by simp only [resv, resA, ZK, look, loadv, loadn, loadnm, load1, load1m, hget, ↓reduceIte, Nat.reduceEqDiff, Nat.reduceAdd, Nat.reduceMul, Nat.reduceLeDiff, Nat.reduceLT, reduceCtorEq, TFCoM, FR.out]; first | done | rfl) (by simp only [hget, ↓reduceIte, if_true, if_false, FR.out]; first | done | rfl) ?_ ?_ ?_ ?_ <;> first | omega | (simp only [maxLen_eq]; omega) | skip)
  all_goals first | omega | rfl
set_option maxRecDepth 8000 in
set_option maxHeartbeats 4000000 in
theorem rput_3 (tx : ByteArray) (a : Int) (g t : Int) (k : Ky) (s : Sl) (ha : -9223372036854775808 ≤ a ∧ a ≤ 9223372036854775807) : ACt Tryd.prog 14 [ov ⟨3, tx, a, g, t, k, s⟩] [] (Row .u8 5 (putL 0 3 ++ intL a)) := by
  have u : IntKind.u64.wrap 3 = ((3 : Nat) : Int) := by decide
  have cT : ACt Tryd.prog 25 [iv .i64 3] [] (Fn (bv false)) := rtext_ct 3
  have cA : ACt Tryd.prog 26 [iv .i64 3] [] (Fn (bv true)) := rat_ct 3
  have y2 : ((3 : Int) == 2) = false := rfl
  have y4 : ((3 : Int) == 4) = false := rfl
  have y5 : ((3 : Int) == 5) = false := rfl
  have c1 := refNum_ct 3 (by omega)
  have l1 := putL_len 0 3 (by omega)
  obtain ⟨D1, hD1⟩ : ∃ D, D = putL 0 3 := ⟨_, rfl⟩
  rw [← hD1] at c1 l1 ⊢
  have c2 := refInt_ct a ha.1 ha.2
  have l2 := intL_len a ha.1 ha.2
  obtain ⟨D2, hD2⟩ : ∃ D, D = intL a := ⟨_, rfl⟩
  rw [← hD2] at c2 l2 ⊢
  obtain ⟨T2, hT2⟩ : ∃ T, D1 ++ D2 = T := ⟨_, rfl⟩
  have hTl2 : T2.length = D1.length + D2.length := by rw [← hT2, List.length_append]
  rw [hT2]
  have tk : ∀ L : List Int, L.take L.length = L := fun L => List.take_length
  obtain ⟨kg, kr, kp, ke, ks⟩ := k
  obtain ⟨nm, gl, w, f, t2⟩ := s
  refine ACt.intro Tryd.func14 rfl (by kernel_rfl) (by simp [Tryd.ntmps14]) (fun cx => ?_)
  simp only [argE, Tryd.ntmps14, Tryd.results14]
  first | (have FRx := FR; clear FRx) | have FR := fr0S
  have FA := Sm.mk (And.intro TFCoM (And.intro tk (And.intro u (And.intro y2 (And.intro y4 (And.intro y5 hT2))))))
  repeat' first | (apply Sm.mk; refine Ys ?_) | refine WP.seq fun K hK => ?_ | (apply Ob.mk; exact Yo) | refine And.intro (Ob.out ?_) ?_ | refine Y1CoM ?_ | (first | refine CallV.fn (cT) (Sm.out ?_) | refine ExF.mk (cT) (Sm.out ?_) | refine ExG.mk (fun _ => cT) (Sm.out ?_) | refine ExG.mkJ (fun _ => cT) (Sm.out ?_) | refine ExG.mkI (Ob.out ?_) (fun _ => cT) (Sm.out ?_)) | (first | refine CallV.fn (cA) (Sm.out ?_) | refine ExF.mk (cA) (Sm.out ?_) | refine ExG.mk (fun _ => cA) (Sm.out ?_) | refine ExG.mkJ (fun _ => cA) (Sm.out ?_) | refine ExG.mkI (Ob.out ?_) (fun _ => cA) (Sm.out ?_)) | (refine WCt.row (by simp only [hget, ↓reduceIte, FR.out, tk, u, y2, y4, y5, hT2]; first | done | rfl) (c1) (Sm.out ?_)) | (refine WCt.mkrow (c1) (Sm.out ?_)) | (refine CallV.row (by simp only [hget, ↓reduceIte, FR.out, tk, u, y2, y4, y5, hT2]; first | done | rfl) (c1) (Sm.out ?_)) | refine CallV.mkrow (c1) (Sm.out ?_) | (refine CallV.upd (by simp only [hget, ↓reduceIte, FR.out, tk, u, y2, y4, y5, hT2]; first | done | rfl) (c1) (Sm.out ?_)) | refine CallV.mkobj (c1) (Sm.out ?_) | (first | refine CallV.fn (c1) (Sm.out ?_) | refine ExF.mk (c1) (Sm.out ?_) | refine ExG.mk (fun _ => c1) (Sm.out ?_) | refine ExG.mkJ (fun _ => c1) (Sm.out ?_) | refine ExG.mkI (Ob.out ?_) (fun _ => c1) (Sm.out ?_)) | (refine WCt.row (by simp only [hget, ↓reduceIte, FR.out, tk, u, y2, y4, y5, hT2]; first | done | rfl) (c2) (Sm.out ?_)) | (refine WCt.mkrow (c2) (Sm.out ?_)) | (refine CallV.row (by simp only [hget, ↓reduceIte, FR.out, tk, u, y2, y4, y5, hT2]; first | done | rfl) (c2) (Sm.out ?_)) | refine CallV.mkrow (c2) (Sm.out ?_) | (refine CallV.upd (by simp only [hget, ↓reduceIte, FR.out, tk, u, y2, y4, y5, hT2]; first | done | rfl) (c2) (Sm.out ?_)) | refine CallV.mkobj (c2) (Sm.out ?_) | (first | refine CallV.fn (c2) (Sm.out ?_) | refine ExF.mk (c2) (Sm.out ?_) | refine ExG.mk (fun _ => c2) (Sm.out ?_) | refine ExG.mkJ (fun _ => c2) (Sm.out ?_) | refine ExG.mkI (Ob.out ?_) (fun _ => c2) (Sm.out ?_)) | refine YzCoM ?_ | (refine WP.cond rfl (fun hc => ?_) (fun hc => ?_) <;> (try simp only [ZC, reduceCtorEq, ZD] at hc) <;> (try exact absurd hc (by decide)) <;> (try (exfalso; omega))) | refine Rt.mk (And.intro (fun hg => Sm.out ?_) fun hg => Sm.out ?_) | (refine Nu.mk ?_; first | (fail_if_success have := nb1); intro nb1 | (fail_if_success have := nb2); intro nb2 | (fail_if_success have := nb3); intro nb3 | (fail_if_success have := nb4); intro nb4 | (fail_if_success have := nb5); intro nb5 | (fail_if_success have := nb6); intro nb6 | (fail_if_success have := nb7); intro nb7 | (fail_if_success have := nb8); intro nb8 | (fail_if_success have := nb9); intro nb9 | (fail_if_success have := nb10); intro nb10 | (fail_if_success have := nb11); intro nb11 | (fail_if_success have := nb12); intro nb12 | (fail_if_success have := nb13); intro nb13 | (fail_if_success have := nb14); intro nb14 | (fail_if_success have := nb15); intro nb15 | (fail_if_success have := nb16); intro nb16 | (fail_if_success have := nb17); intro nb17 | (fail_if_success have := nb18); intro nb18 | (fail_if_success have := nb19); intro nb19 | (fail_if_success have := nb20); intro nb20 | intro nbz) | (apply Yfr; refine Yf FR fun hFRb FR => ?_) | refine Two.mk ?_ ?_ | (apply Yxc; exact Yx) | refine Cs.mk fun hcs => Sm.out ?_ | go_step | omega | (simp only [maxLen_eq]; omega) | exact trivial | refine Or.inr (Rt.mk (And.intro (fun hg => Sm.out ?_) fun hg => Sm.out ?_))
  all_goals (refine OutQ.row (by simp only [resv, ZK, look, loadv, loadn, loadnm, load1, load1m, hget, ↓reduceIte, Nat.reduceEqDiff, Nat.reduceAdd, Nat.reduceMul, Nat.reduceLeDiff, Nat.reduceLT, reduceCtorEq, TFCoM, FR.out]) (by simp only [resv, resA, ZK, look, loadv, loadn, loadnm, load1, load1m, hget, ↓reduceIte, Nat.reduceEqDiff, Nat.reduceAdd, Nat.reduceMul, Nat.reduceLeDiff, Nat.reduceLT, reduceCtorEq, TFCoM, FR.out]; first | done | rfl) (by simp only [hget, ↓reduceIte, if_true, if_false, FR.out]; first | done | rfl) ?_ ?_ ?_ ?_ <;> first | omega | (simp only [maxLen_eq]; omega) | skip)
  all_goals first | omega | rfl
set_option maxRecDepth 8000 in
set_option maxHeartbeats 4000000 in
theorem rput_4 (tx : ByteArray) (a : Int) (g t : Int) (k : Ky) (s : Sl) (hk : Kb k) : ACt Tryd.prog 14 [ov ⟨4, tx, a, g, t, k, s⟩] [] (Row .u8 5 (putL 0 4 ++ kL k)) := by
  have u : IntKind.u64.wrap 4 = ((4 : Nat) : Int) := by decide
  have cT : ACt Tryd.prog 25 [iv .i64 4] [] (Fn (bv false)) := rtext_ct 4
  have cA : ACt Tryd.prog 26 [iv .i64 4] [] (Fn (bv false)) := rat_ct 4
  have y2 : ((4 : Int) == 2) = false := rfl
  have y4 : ((4 : Int) == 4) = true := rfl
  have y5 : ((4 : Int) == 5) = false := rfl
  have c1 := refNum_ct 4 (by omega)
  have l1 := putL_len 0 4 (by omega)
  obtain ⟨D1, hD1⟩ : ∃ D, D = putL 0 4 := ⟨_, rfl⟩
  rw [← hD1] at c1 l1 ⊢
  have c2 := rkput_ct k hk
  have l2 := kL_len k hk
  obtain ⟨D2, hD2⟩ : ∃ D, D = kL k := ⟨_, rfl⟩
  rw [← hD2] at c2 l2 ⊢
  obtain ⟨T2, hT2⟩ : ∃ T, D1 ++ D2 = T := ⟨_, rfl⟩
  have hTl2 : T2.length = D1.length + D2.length := by rw [← hT2, List.length_append]
  rw [hT2]
  have tk : ∀ L : List Int, L.take L.length = L := fun L => List.take_length
  obtain ⟨kg, kr, kp, ke, ks⟩ := k
  obtain ⟨nm, gl, w, f, t2⟩ := s
  refine ACt.intro Tryd.func14 rfl (by kernel_rfl) (by simp [Tryd.ntmps14]) (fun cx => ?_)
  simp only [argE, Tryd.ntmps14, Tryd.results14]
  first | (have FRx := FR; clear FRx) | have FR := fr0S
  have FA := Sm.mk (And.intro TFCoM (And.intro tk (And.intro u (And.intro y2 (And.intro y4 (And.intro y5 hT2))))))
  repeat' first | (apply Sm.mk; refine Ys ?_) | refine WP.seq fun K hK => ?_ | (apply Ob.mk; exact Yo) | refine And.intro (Ob.out ?_) ?_ | refine Y1CoM ?_ | (first | refine CallV.fn (cT) (Sm.out ?_) | refine ExF.mk (cT) (Sm.out ?_) | refine ExG.mk (fun _ => cT) (Sm.out ?_) | refine ExG.mkJ (fun _ => cT) (Sm.out ?_) | refine ExG.mkI (Ob.out ?_) (fun _ => cT) (Sm.out ?_)) | (first | refine CallV.fn (cA) (Sm.out ?_) | refine ExF.mk (cA) (Sm.out ?_) | refine ExG.mk (fun _ => cA) (Sm.out ?_) | refine ExG.mkJ (fun _ => cA) (Sm.out ?_) | refine ExG.mkI (Ob.out ?_) (fun _ => cA) (Sm.out ?_)) | (refine WCt.row (by simp only [hget, ↓reduceIte, FR.out, tk, u, y2, y4, y5, hT2]; first | done | rfl) (c1) (Sm.out ?_)) | (refine WCt.mkrow (c1) (Sm.out ?_)) | (refine CallV.row (by simp only [hget, ↓reduceIte, FR.out, tk, u, y2, y4, y5, hT2]; first | done | rfl) (c1) (Sm.out ?_)) | refine CallV.mkrow (c1) (Sm.out ?_) | (refine CallV.upd (by simp only [hget, ↓reduceIte, FR.out, tk, u, y2, y4, y5, hT2]; first | done | rfl) (c1) (Sm.out ?_)) | refine CallV.mkobj (c1) (Sm.out ?_) | (first | refine CallV.fn (c1) (Sm.out ?_) | refine ExF.mk (c1) (Sm.out ?_) | refine ExG.mk (fun _ => c1) (Sm.out ?_) | refine ExG.mkJ (fun _ => c1) (Sm.out ?_) | refine ExG.mkI (Ob.out ?_) (fun _ => c1) (Sm.out ?_)) | (refine WCt.row (by simp only [hget, ↓reduceIte, FR.out, tk, u, y2, y4, y5, hT2]; first | done | rfl) (c2) (Sm.out ?_)) | (refine WCt.mkrow (c2) (Sm.out ?_)) | (refine CallV.row (by simp only [hget, ↓reduceIte, FR.out, tk, u, y2, y4, y5, hT2]; first | done | rfl) (c2) (Sm.out ?_)) | refine CallV.mkrow (c2) (Sm.out ?_) | (refine CallV.upd (by simp only [hget, ↓reduceIte, FR.out, tk, u, y2, y4, y5, hT2]; first | done | rfl) (c2) (Sm.out ?_)) | refine CallV.mkobj (c2) (Sm.out ?_) | (first | refine CallV.fn (c2) (Sm.out ?_) | refine ExF.mk (c2) (Sm.out ?_) | refine ExG.mk (fun _ => c2) (Sm.out ?_) | refine ExG.mkJ (fun _ => c2) (Sm.out ?_) | refine ExG.mkI (Ob.out ?_) (fun _ => c2) (Sm.out ?_)) | refine YzCoM ?_ | (refine WP.cond rfl (fun hc => ?_) (fun hc => ?_) <;> (try simp only [ZC, reduceCtorEq, ZD] at hc) <;> (try exact absurd hc (by decide)) <;> (try (exfalso; omega))) | refine Rt.mk (And.intro (fun hg => Sm.out ?_) fun hg => Sm.out ?_) | (refine Nu.mk ?_; first | (fail_if_success have := nb1); intro nb1 | (fail_if_success have := nb2); intro nb2 | (fail_if_success have := nb3); intro nb3 | (fail_if_success have := nb4); intro nb4 | (fail_if_success have := nb5); intro nb5 | (fail_if_success have := nb6); intro nb6 | (fail_if_success have := nb7); intro nb7 | (fail_if_success have := nb8); intro nb8 | (fail_if_success have := nb9); intro nb9 | (fail_if_success have := nb10); intro nb10 | (fail_if_success have := nb11); intro nb11 | (fail_if_success have := nb12); intro nb12 | (fail_if_success have := nb13); intro nb13 | (fail_if_success have := nb14); intro nb14 | (fail_if_success have := nb15); intro nb15 | (fail_if_success have := nb16); intro nb16 | (fail_if_success have := nb17); intro nb17 | (fail_if_success have := nb18); intro nb18 | (fail_if_success have := nb19); intro nb19 | (fail_if_success have := nb20); intro nb20 | intro nbz) | (apply Yfr; refine Yf FR fun hFRb FR => ?_) | refine Two.mk ?_ ?_ | (apply Yxc; exact Yx) | refine Cs.mk fun hcs => Sm.out ?_ | go_step | omega | (simp only [maxLen_eq]; omega) | exact trivial | refine Or.inr (Rt.mk (And.intro (fun hg => Sm.out ?_) fun hg => Sm.out ?_))
  all_goals (refine OutQ.row (by simp only [resv, ZK, look, loadv, loadn, loadnm, load1, load1m, hget, ↓reduceIte, Nat.reduceEqDiff, Nat.reduceAdd, Nat.reduceMul, Nat.reduceLeDiff, Nat.reduceLT, reduceCtorEq, TFCoM, FR.out]) (by simp only [resv, resA, ZK, look, loadv, loadn, loadnm, load1, load1m, hget, ↓reduceIte, Nat.reduceEqDiff, Nat.reduceAdd, Nat.reduceMul, Nat.reduceLeDiff, Nat.reduceLT, reduceCtorEq, TFCoM, FR.out]; first | done | rfl) (by simp only [hget, ↓reduceIte, if_true, if_false, FR.out]; first | done | rfl) ?_ ?_ ?_ ?_ <;> first | omega | (simp only [maxLen_eq]; omega) | skip)
  all_goals first | omega | rfl
set_option maxRecDepth 8000 in
set_option maxHeartbeats 4000000 in
theorem rput_5 (tx : ByteArray) (a : Int) (g t : Int) (k : Ky) (s : Sl) (hs : Sb s) : ACt Tryd.prog 14 [ov ⟨5, tx, a, g, t, k, s⟩] [] (Row .u8 5 (putL 0 5 ++ sL s)) := by
  have u : IntKind.u64.wrap 5 = ((5 : Nat) : Int) := by decide
  have cT : ACt Tryd.prog 25 [iv .i64 5] [] (Fn (bv false)) := rtext_ct 5
  have cA : ACt Tryd.prog 26 [iv .i64 5] [] (Fn (bv false)) := rat_ct 5
  have y2 : ((5 : Int) == 2) = false := rfl
  have y4 : ((5 : Int) == 4) = false := rfl
  have y5 : ((5 : Int) == 5) = true := rfl
  have c1 := refNum_ct 5 (by omega)
  have l1 := putL_len 0 5 (by omega)
  obtain ⟨D1, hD1⟩ : ∃ D, D = putL 0 5 := ⟨_, rfl⟩
  rw [← hD1] at c1 l1 ⊢
  have c2 := rsput_ct s hs
  have l2 := sL_len s hs
  obtain ⟨D2, hD2⟩ : ∃ D, D = sL s := ⟨_, rfl⟩
  rw [← hD2] at c2 l2 ⊢
  obtain ⟨T2, hT2⟩ : ∃ T, D1 ++ D2 = T := ⟨_, rfl⟩
  have hTl2 : T2.length = D1.length + D2.length := by rw [← hT2, List.length_append]
  rw [hT2]
  have tk : ∀ L : List Int, L.take L.length = L := fun L => List.take_length
  obtain ⟨kg, kr, kp, ke, ks⟩ := k
  obtain ⟨nm, gl, w, f, t2⟩ := s
  refine ACt.intro Tryd.func14 rfl (by kernel_rfl) (by simp [Tryd.ntmps14]) (fun cx => ?_)
  simp only [argE, Tryd.ntmps14, Tryd.results14]
  first | (have FRx := FR; clear FRx) | have FR := fr0S
  have FA := Sm.mk (And.intro TFCoM (And.intro tk (And.intro u (And.intro y2 (And.intro y4 (And.intro y5 hT2))))))
  repeat' first | (apply Sm.mk; refine Ys ?_) | refine WP.seq fun K hK => ?_ | (apply Ob.mk; exact Yo) | refine And.intro (Ob.out ?_) ?_ | refine Y1CoM ?_ | (first | refine CallV.fn (cT) (Sm.out ?_) | refine ExF.mk (cT) (Sm.out ?_) | refine ExG.mk (fun _ => cT) (Sm.out ?_) | refine ExG.mkJ (fun _ => cT) (Sm.out ?_) | refine ExG.mkI (Ob.out ?_) (fun _ => cT) (Sm.out ?_)) | (first | refine CallV.fn (cA) (Sm.out ?_) | refine ExF.mk (cA) (Sm.out ?_) | refine ExG.mk (fun _ => cA) (Sm.out ?_) | refine ExG.mkJ (fun _ => cA) (Sm.out ?_) | refine ExG.mkI (Ob.out ?_) (fun _ => cA) (Sm.out ?_)) | (refine WCt.row (by simp only [hget, ↓reduceIte, FR.out, tk, u, y2, y4, y5, hT2]; first | done | rfl) (c1) (Sm.out ?_)) | (refine WCt.mkrow (c1) (Sm.out ?_)) | (refine CallV.row (by simp only [hget, ↓reduceIte, FR.out, tk, u, y2, y4, y5, hT2]; first | done | rfl) (c1) (Sm.out ?_)) | refine CallV.mkrow (c1) (Sm.out ?_) | (refine CallV.upd (by simp only [hget, ↓reduceIte, FR.out, tk, u, y2, y4, y5, hT2]; first | done | rfl) (c1) (Sm.out ?_)) | refine CallV.mkobj (c1) (Sm.out ?_) | (first | refine CallV.fn (c1) (Sm.out ?_) | refine ExF.mk (c1) (Sm.out ?_) | refine ExG.mk (fun _ => c1) (Sm.out ?_) | refine ExG.mkJ (fun _ => c1) (Sm.out ?_) | refine ExG.mkI (Ob.out ?_) (fun _ => c1) (Sm.out ?_)) | (refine WCt.row (by simp only [hget, ↓reduceIte, FR.out, tk, u, y2, y4, y5, hT2]; first | done | rfl) (c2) (Sm.out ?_)) | (refine WCt.mkrow (c2) (Sm.out ?_)) | (refine CallV.row (by simp only [hget, ↓reduceIte, FR.out, tk, u, y2, y4, y5, hT2]; first | done | rfl) (c2) (Sm.out ?_)) | refine CallV.mkrow (c2) (Sm.out ?_) | (refine CallV.upd (by simp only [hget, ↓reduceIte, FR.out, tk, u, y2, y4, y5, hT2]; first | done | rfl) (c2) (Sm.out ?_)) | refine CallV.mkobj (c2) (Sm.out ?_) | (first | refine CallV.fn (c2) (Sm.out ?_) | refine ExF.mk (c2) (Sm.out ?_) | refine ExG.mk (fun _ => c2) (Sm.out ?_) | refine ExG.mkJ (fun _ => c2) (Sm.out ?_) | refine ExG.mkI (Ob.out ?_) (fun _ => c2) (Sm.out ?_)) | refine YzCoM ?_ | (refine WP.cond rfl (fun hc => ?_) (fun hc => ?_) <;> (try simp only [ZC, reduceCtorEq, ZD] at hc) <;> (try exact absurd hc (by decide)) <;> (try (exfalso; omega))) | refine Rt.mk (And.intro (fun hg => Sm.out ?_) fun hg => Sm.out ?_) | (refine Nu.mk ?_; first | (fail_if_success have := nb1); intro nb1 | (fail_if_success have := nb2); intro nb2 | (fail_if_success have := nb3); intro nb3 | (fail_if_success have := nb4); intro nb4 | (fail_if_success have := nb5); intro nb5 | (fail_if_success have := nb6); intro nb6 | (fail_if_success have := nb7); intro nb7 | (fail_if_success have := nb8); intro nb8 | (fail_if_success have := nb9); intro nb9 | (fail_if_success have := nb10); intro nb10 | (fail_if_success have := nb11); intro nb11 | (fail_if_success have := nb12); intro nb12 | (fail_if_success have := nb13); intro nb13 | (fail_if_success have := nb14); intro nb14 | (fail_if_success have := nb15); intro nb15 | (fail_if_success have := nb16); intro nb16 | (fail_if_success have := nb17); intro nb17 | (fail_if_success have := nb18); intro nb18 | (fail_if_success have := nb19); intro nb19 | (fail_if_success have := nb20); intro nb20 | intro nbz) | (apply Yfr; refine Yf FR fun hFRb FR => ?_) | refine Two.mk ?_ ?_ | (apply Yxc; exact Yx) | refine Cs.mk fun hcs => Sm.out ?_ | go_step | omega | (simp only [maxLen_eq]; omega) | exact trivial | refine Or.inr (Rt.mk (And.intro (fun hg => Sm.out ?_) fun hg => Sm.out ?_))
  all_goals (refine OutQ.row (by simp only [resv, ZK, look, loadv, loadn, loadnm, load1, load1m, hget, ↓reduceIte, Nat.reduceEqDiff, Nat.reduceAdd, Nat.reduceMul, Nat.reduceLeDiff, Nat.reduceLT, reduceCtorEq, TFCoM, FR.out]) (by simp only [resv, resA, ZK, look, loadv, loadn, loadnm, load1, load1m, hget, ↓reduceIte, Nat.reduceEqDiff, Nat.reduceAdd, Nat.reduceMul, Nat.reduceLeDiff, Nat.reduceLT, reduceCtorEq, TFCoM, FR.out]; first | done | rfl) (by simp only [hget, ↓reduceIte, if_true, if_false, FR.out]; first | done | rfl) ?_ ?_ ?_ ?_ <;> first | omega | (simp only [maxLen_eq]; omega) | skip)
  all_goals first | omega | rfl
set_option maxRecDepth 8000 in
set_option maxHeartbeats 4000000 in
theorem rput_6 (tx : ByteArray) (a : Int) (g t : Int) (k : Ky) (s : Sl) (hx : tx.size ≤ 5000) : ACt Tryd.prog 14 [ov ⟨6, tx, a, g, t, k, s⟩] [] (Row .u8 5 (putL 0 6 ++ txL tx)) := by
  have u : IntKind.u64.wrap 6 = ((6 : Nat) : Int) := by decide
  have cT : ACt Tryd.prog 25 [iv .i64 6] [] (Fn (bv true)) := rtext_ct 6
  have cA : ACt Tryd.prog 26 [iv .i64 6] [] (Fn (bv false)) := rat_ct 6
  have y2 : ((6 : Int) == 2) = false := rfl
  have y4 : ((6 : Int) == 4) = false := rfl
  have y5 : ((6 : Int) == 5) = false := rfl
  have c1 := refNum_ct 6 (by omega)
  have l1 := putL_len 0 6 (by omega)
  obtain ⟨D1, hD1⟩ : ∃ D, D = putL 0 6 := ⟨_, rfl⟩
  rw [← hD1] at c1 l1 ⊢
  have c2 := rtx_ct tx (by omega)
  have l2 := txL_len tx (by omega)
  obtain ⟨D2, hD2⟩ : ∃ D, D = txL tx := ⟨_, rfl⟩
  rw [← hD2] at c2 l2 ⊢
  obtain ⟨T2, hT2⟩ : ∃ T, D1 ++ D2 = T := ⟨_, rfl⟩
  have hTl2 : T2.length = D1.length + D2.length := by rw [← hT2, List.length_append]
  rw [hT2]
  have tk : ∀ L : List Int, L.take L.length = L := fun L => List.take_length
  obtain ⟨kg, kr, kp, ke, ks⟩ := k
  obtain ⟨nm, gl, w, f, t2⟩ := s
  refine ACt.intro Tryd.func14 rfl (by kernel_rfl) (by simp [Tryd.ntmps14]) (fun cx => ?_)
  simp only [argE, Tryd.ntmps14, Tryd.results14]
  first | (have FRx := FR; clear FRx) | have FR := fr0S
  have FA := Sm.mk (And.intro TFCoM (And.intro tk (And.intro u (And.intro y2 (And.intro y4 (And.intro y5 hT2))))))
  repeat' first | (apply Sm.mk; refine Ys ?_) | refine WP.seq fun K hK => ?_ | (apply Ob.mk; exact Yo) | refine And.intro (Ob.out ?_) ?_ | refine Y1CoM ?_ | (first | refine CallV.fn (cT) (Sm.out ?_) | refine ExF.mk (cT) (Sm.out ?_) | refine ExG.mk (fun _ => cT) (Sm.out ?_) | refine ExG.mkJ (fun _ => cT) (Sm.out ?_) | refine ExG.mkI (Ob.out ?_) (fun _ => cT) (Sm.out ?_)) | (first | refine CallV.fn (cA) (Sm.out ?_) | refine ExF.mk (cA) (Sm.out ?_) | refine ExG.mk (fun _ => cA) (Sm.out ?_) | refine ExG.mkJ (fun _ => cA) (Sm.out ?_) | refine ExG.mkI (Ob.out ?_) (fun _ => cA) (Sm.out ?_)) | (refine WCt.row (by simp only [hget, ↓reduceIte, FR.out, tk, u, y2, y4, y5, hT2]; first | done | rfl) (c1) (Sm.out ?_)) | (refine WCt.mkrow (c1) (Sm.out ?_)) | (refine CallV.row (by simp only [hget, ↓reduceIte, FR.out, tk, u, y2, y4, y5, hT2]; first | done | rfl) (c1) (Sm.out ?_)) | refine CallV.mkrow (c1) (Sm.out ?_) | (refine CallV.upd (by simp only [hget, ↓reduceIte, FR.out, tk, u, y2, y4, y5, hT2]; first | done | rfl) (c1) (Sm.out ?_)) | refine CallV.mkobj (c1) (Sm.out ?_) | (first | refine CallV.fn (c1) (Sm.out ?_) | refine ExF.mk (c1) (Sm.out ?_) | refine ExG.mk (fun _ => c1) (Sm.out ?_) | refine ExG.mkJ (fun _ => c1) (Sm.out ?_) | refine ExG.mkI (Ob.out ?_) (fun _ => c1) (Sm.out ?_)) | (refine WCt.row (by simp only [hget, ↓reduceIte, FR.out, tk, u, y2, y4, y5, hT2]; first | done | rfl) (c2) (Sm.out ?_)) | (refine WCt.mkrow (c2) (Sm.out ?_)) | (refine CallV.row (by simp only [hget, ↓reduceIte, FR.out, tk, u, y2, y4, y5, hT2]; first | done | rfl) (c2) (Sm.out ?_)) | refine CallV.mkrow (c2) (Sm.out ?_) | (refine CallV.upd (by simp only [hget, ↓reduceIte, FR.out, tk, u, y2, y4, y5, hT2]; first | done | rfl) (c2) (Sm.out ?_)) | refine CallV.mkobj (c2) (Sm.out ?_) | (first | refine CallV.fn (c2) (Sm.out ?_) | refine ExF.mk (c2) (Sm.out ?_) | refine ExG.mk (fun _ => c2) (Sm.out ?_) | refine ExG.mkJ (fun _ => c2) (Sm.out ?_) | refine ExG.mkI (Ob.out ?_) (fun _ => c2) (Sm.out ?_)) | refine YzCoM ?_ | (refine WP.cond rfl (fun hc => ?_) (fun hc => ?_) <;> (try simp only [ZC, reduceCtorEq, ZD] at hc) <;> (try exact absurd hc (by decide)) <;> (try (exfalso; omega))) | refine Rt.mk (And.intro (fun hg => Sm.out ?_) fun hg => Sm.out ?_) | (refine Nu.mk ?_; first | (fail_if_success have := nb1); intro nb1 | (fail_if_success have := nb2); intro nb2 | (fail_if_success have := nb3); intro nb3 | (fail_if_success have := nb4); intro nb4 | (fail_if_success have := nb5); intro nb5 | (fail_if_success have := nb6); intro nb6 | (fail_if_success have := nb7); intro nb7 | (fail_if_success have := nb8); intro nb8 | (fail_if_success have := nb9); intro nb9 | (fail_if_success have := nb10); intro nb10 | (fail_if_success have := nb11); intro nb11 | (fail_if_success have := nb12); intro nb12 | (fail_if_success have := nb13); intro nb13 | (fail_if_success have := nb14); intro nb14 | (fail_if_success have := nb15); intro nb15 | (fail_if_success have := nb16); intro nb16 | (fail_if_success have := nb17); intro nb17 | (fail_if_success have := nb18); intro nb18 | (fail_if_success have := nb19); intro nb19 | (fail_if_success have := nb20); intro nb20 | intro nbz) | (apply Yfr; refine Yf FR fun hFRb FR => ?_) | refine Two.mk ?_ ?_ | (apply Yxc; exact Yx) | refine Cs.mk fun hcs => Sm.out ?_ | go_step | omega | (simp only [maxLen_eq]; omega) | exact trivial | refine Or.inr (Rt.mk (And.intro (fun hg => Sm.out ?_) fun hg => Sm.out ?_))
  all_goals (refine OutQ.row (by simp only [resv, ZK, look, loadv, loadn, loadnm, load1, load1m, hget, ↓reduceIte, Nat.reduceEqDiff, Nat.reduceAdd, Nat.reduceMul, Nat.reduceLeDiff, Nat.reduceLT, reduceCtorEq, TFCoM, FR.out]) (by simp only [resv, resA, ZK, look, loadv, loadn, loadnm, load1, load1m, hget, ↓reduceIte, Nat.reduceEqDiff, Nat.reduceAdd, Nat.reduceMul, Nat.reduceLeDiff, Nat.reduceLT, reduceCtorEq, TFCoM, FR.out]; first | done | rfl) (by simp only [hget, ↓reduceIte, if_true, if_false, FR.out]; first | done | rfl) ?_ ?_ ?_ ?_ <;> first | omega | (simp only [maxLen_eq]; omega) | skip)
  all_goals first | omega | rfl
set_option maxRecDepth 8000 in
set_option maxHeartbeats 4000000 in
theorem rput_7 (tx : ByteArray) (a : Int) (g t : Int) (k : Ky) (s : Sl) (hx : tx.size ≤ 5000) : ACt Tryd.prog 14 [ov ⟨7, tx, a, g, t, k, s⟩] [] (Row .u8 5 (putL 0 7 ++ txL tx)) := by
  have u : IntKind.u64.wrap 7 = ((7 : Nat) : Int) := by decide
  have cT : ACt Tryd.prog 25 [iv .i64 7] [] (Fn (bv true)) := rtext_ct 7
  have cA : ACt Tryd.prog 26 [iv .i64 7] [] (Fn (bv false)) := rat_ct 7
  have y2 : ((7 : Int) == 2) = false := rfl
  have y4 : ((7 : Int) == 4) = false := rfl
  have y5 : ((7 : Int) == 5) = false := rfl
  have c1 := refNum_ct 7 (by omega)
  have l1 := putL_len 0 7 (by omega)
  obtain ⟨D1, hD1⟩ : ∃ D, D = putL 0 7 := ⟨_, rfl⟩
  rw [← hD1] at c1 l1 ⊢
  have c2 := rtx_ct tx (by omega)
  have l2 := txL_len tx (by omega)
  obtain ⟨D2, hD2⟩ : ∃ D, D = txL tx := ⟨_, rfl⟩
  rw [← hD2] at c2 l2 ⊢
  obtain ⟨T2, hT2⟩ : ∃ T, D1 ++ D2 = T := ⟨_, rfl⟩
  have hTl2 : T2.length = D1.length + D2.length := by rw [← hT2, List.length_append]
  rw [hT2]
  have tk : ∀ L : List Int, L.take L.length = L := fun L => List.take_length
  obtain ⟨kg, kr, kp, ke, ks⟩ := k
  obtain ⟨nm, gl, w, f, t2⟩ := s
  refine ACt.intro Tryd.func14 rfl (by kernel_rfl) (by simp [Tryd.ntmps14]) (fun cx => ?_)
  simp only [argE, Tryd.ntmps14, Tryd.results14]
  first | (have FRx := FR; clear FRx) | have FR := fr0S
  have FA := Sm.mk (And.intro TFCoM (And.intro tk (And.intro u (And.intro y2 (And.intro y4 (And.intro y5 hT2))))))
  repeat' first | (apply Sm.mk; refine Ys ?_) | refine WP.seq fun K hK => ?_ | (apply Ob.mk; exact Yo) | refine And.intro (Ob.out ?_) ?_ | refine Y1CoM ?_ | (first | refine CallV.fn (cT) (Sm.out ?_) | refine ExF.mk (cT) (Sm.out ?_) | refine ExG.mk (fun _ => cT) (Sm.out ?_) | refine ExG.mkJ (fun _ => cT) (Sm.out ?_) | refine ExG.mkI (Ob.out ?_) (fun _ => cT) (Sm.out ?_)) | (first | refine CallV.fn (cA) (Sm.out ?_) | refine ExF.mk (cA) (Sm.out ?_) | refine ExG.mk (fun _ => cA) (Sm.out ?_) | refine ExG.mkJ (fun _ => cA) (Sm.out ?_) | refine ExG.mkI (Ob.out ?_) (fun _ => cA) (Sm.out ?_)) | (refine WCt.row (by simp only [hget, ↓reduceIte, FR.out, tk, u, y2, y4, y5, hT2]; first | done | rfl) (c1) (Sm.out ?_)) | (refine WCt.mkrow (c1) (Sm.out ?_)) | (refine CallV.row (by simp only [hget, ↓reduceIte, FR.out, tk, u, y2, y4, y5, hT2]; first | done | rfl) (c1) (Sm.out ?_)) | refine CallV.mkrow (c1) (Sm.out ?_) | (refine CallV.upd (by simp only [hget, ↓reduceIte, FR.out, tk, u, y2, y4, y5, hT2]; first | done | rfl) (c1) (Sm.out ?_)) | refine CallV.mkobj (c1) (Sm.out ?_) | (first | refine CallV.fn (c1) (Sm.out ?_) | refine ExF.mk (c1) (Sm.out ?_) | refine ExG.mk (fun _ => c1) (Sm.out ?_) | refine ExG.mkJ (fun _ => c1) (Sm.out ?_) | refine ExG.mkI (Ob.out ?_) (fun _ => c1) (Sm.out ?_)) | (refine WCt.row (by simp only [hget, ↓reduceIte, FR.out, tk, u, y2, y4, y5, hT2]; first | done | rfl) (c2) (Sm.out ?_)) | (refine WCt.mkrow (c2) (Sm.out ?_)) | (refine CallV.row (by simp only [hget, ↓reduceIte, FR.out, tk, u, y2, y4, y5, hT2]; first | done | rfl) (c2) (Sm.out ?_)) | refine CallV.mkrow (c2) (Sm.out ?_) | (refine CallV.upd (by simp only [hget, ↓reduceIte, FR.out, tk, u, y2, y4, y5, hT2]; first | done | rfl) (c2) (Sm.out ?_)) | refine CallV.mkobj (c2) (Sm.out ?_) | (first | refine CallV.fn (c2) (Sm.out ?_) | refine ExF.mk (c2) (Sm.out ?_) | refine ExG.mk (fun _ => c2) (Sm.out ?_) | refine ExG.mkJ (fun _ => c2) (Sm.out ?_) | refine ExG.mkI (Ob.out ?_) (fun _ => c2) (Sm.out ?_)) | refine YzCoM ?_ | (refine WP.cond rfl (fun hc => ?_) (fun hc => ?_) <;> (try simp only [ZC, reduceCtorEq, ZD] at hc) <;> (try exact absurd hc (by decide)) <;> (try (exfalso; omega))) | refine Rt.mk (And.intro (fun hg => Sm.out ?_) fun hg => Sm.out ?_) | (refine Nu.mk ?_; first | (fail_if_success have := nb1); intro nb1 | (fail_if_success have := nb2); intro nb2 | (fail_if_success have := nb3); intro nb3 | (fail_if_success have := nb4); intro nb4 | (fail_if_success have := nb5); intro nb5 | (fail_if_success have := nb6); intro nb6 | (fail_if_success have := nb7); intro nb7 | (fail_if_success have := nb8); intro nb8 | (fail_if_success have := nb9); intro nb9 | (fail_if_success have := nb10); intro nb10 | (fail_if_success have := nb11); intro nb11 | (fail_if_success have := nb12); intro nb12 | (fail_if_success have := nb13); intro nb13 | (fail_if_success have := nb14); intro nb14 | (fail_if_success have := nb15); intro nb15 | (fail_if_success have := nb16); intro nb16 | (fail_if_success have := nb17); intro nb17 | (fail_if_success have := nb18); intro nb18 | (fail_if_success have := nb19); intro nb19 | (fail_if_success have := nb20); intro nb20 | intro nbz) | (apply Yfr; refine Yf FR fun hFRb FR => ?_) | refine Two.mk ?_ ?_ | (apply Yxc; exact Yx) | refine Cs.mk fun hcs => Sm.out ?_ | go_step | omega | (simp only [maxLen_eq]; omega) | exact trivial | refine Or.inr (Rt.mk (And.intro (fun hg => Sm.out ?_) fun hg => Sm.out ?_))
  all_goals (refine OutQ.row (by simp only [resv, ZK, look, loadv, loadn, loadnm, load1, load1m, hget, ↓reduceIte, Nat.reduceEqDiff, Nat.reduceAdd, Nat.reduceMul, Nat.reduceLeDiff, Nat.reduceLT, reduceCtorEq, TFCoM, FR.out]) (by simp only [resv, resA, ZK, look, loadv, loadn, loadnm, load1, load1m, hget, ↓reduceIte, Nat.reduceEqDiff, Nat.reduceAdd, Nat.reduceMul, Nat.reduceLeDiff, Nat.reduceLT, reduceCtorEq, TFCoM, FR.out]; first | done | rfl) (by simp only [hget, ↓reduceIte, if_true, if_false, FR.out]; first | done | rfl) ?_ ?_ ?_ ?_ <;> first | omega | (simp only [maxLen_eq]; omega) | skip)
  all_goals first | omega | rfl
set_option maxRecDepth 8000 in
set_option maxHeartbeats 4000000 in
theorem rput_8 (tx : ByteArray) (a : Int) (g t : Int) (k : Ky) (s : Sl)  : ACt Tryd.prog 14 [ov ⟨8, tx, a, g, t, k, s⟩] [] (Row .u8 5 (putL 0 8)) := by
  have u : IntKind.u64.wrap 8 = ((8 : Nat) : Int) := by decide
  have cT : ACt Tryd.prog 25 [iv .i64 8] [] (Fn (bv false)) := rtext_ct 8
  have cA : ACt Tryd.prog 26 [iv .i64 8] [] (Fn (bv false)) := rat_ct 8
  have y2 : ((8 : Int) == 2) = false := rfl
  have y4 : ((8 : Int) == 4) = false := rfl
  have y5 : ((8 : Int) == 5) = false := rfl
  have c1 := refNum_ct 8 (by omega)
  have l1 := putL_len 0 8 (by omega)
  obtain ⟨D1, hD1⟩ : ∃ D, D = putL 0 8 := ⟨_, rfl⟩
  rw [← hD1] at c1 l1 ⊢
  have tk : ∀ L : List Int, L.take L.length = L := fun L => List.take_length
  obtain ⟨kg, kr, kp, ke, ks⟩ := k
  obtain ⟨nm, gl, w, f, t2⟩ := s
  refine ACt.intro Tryd.func14 rfl (by kernel_rfl) (by simp [Tryd.ntmps14]) (fun cx => ?_)
  simp only [argE, Tryd.ntmps14, Tryd.results14]
  first | (have FRx := FR; clear FRx) | have FR := fr0S
  have FA := Sm.mk (And.intro TFCoM (And.intro tk (And.intro u (And.intro y2 (And.intro y4 y5)))))
  repeat' first | (apply Sm.mk; refine Ys ?_) | refine WP.seq fun K hK => ?_ | (apply Ob.mk; exact Yo) | refine And.intro (Ob.out ?_) ?_ | refine Y1CoM ?_ | (first | refine CallV.fn (cT) (Sm.out ?_) | refine ExF.mk (cT) (Sm.out ?_) | refine ExG.mk (fun _ => cT) (Sm.out ?_) | refine ExG.mkJ (fun _ => cT) (Sm.out ?_) | refine ExG.mkI (Ob.out ?_) (fun _ => cT) (Sm.out ?_)) | (first | refine CallV.fn (cA) (Sm.out ?_) | refine ExF.mk (cA) (Sm.out ?_) | refine ExG.mk (fun _ => cA) (Sm.out ?_) | refine ExG.mkJ (fun _ => cA) (Sm.out ?_) | refine ExG.mkI (Ob.out ?_) (fun _ => cA) (Sm.out ?_)) | (refine WCt.row (by simp only [hget, ↓reduceIte, FR.out, tk, u, y2, y4, y5]; first | done | rfl) (c1) (Sm.out ?_)) | (refine WCt.mkrow (c1) (Sm.out ?_)) | (refine CallV.row (by simp only [hget, ↓reduceIte, FR.out, tk, u, y2, y4, y5]; first | done | rfl) (c1) (Sm.out ?_)) | refine CallV.mkrow (c1) (Sm.out ?_) | (refine CallV.upd (by simp only [hget, ↓reduceIte, FR.out, tk, u, y2, y4, y5]; first | done | rfl) (c1) (Sm.out ?_)) | refine CallV.mkobj (c1) (Sm.out ?_) | (first | refine CallV.fn (c1) (Sm.out ?_) | refine ExF.mk (c1) (Sm.out ?_) | refine ExG.mk (fun _ => c1) (Sm.out ?_) | refine ExG.mkJ (fun _ => c1) (Sm.out ?_) | refine ExG.mkI (Ob.out ?_) (fun _ => c1) (Sm.out ?_)) | refine YzCoM ?_ | (refine WP.cond rfl (fun hc => ?_) (fun hc => ?_) <;> (try simp only [ZC, reduceCtorEq, ZD] at hc) <;> (try exact absurd hc (by decide)) <;> (try (exfalso; omega))) | refine Rt.mk (And.intro (fun hg => Sm.out ?_) fun hg => Sm.out ?_) | (refine Nu.mk ?_; first | (fail_if_success have := nb1); intro nb1 | (fail_if_success have := nb2); intro nb2 | (fail_if_success have := nb3); intro nb3 | (fail_if_success have := nb4); intro nb4 | (fail_if_success have := nb5); intro nb5 | (fail_if_success have := nb6); intro nb6 | (fail_if_success have := nb7); intro nb7 | (fail_if_success have := nb8); intro nb8 | (fail_if_success have := nb9); intro nb9 | (fail_if_success have := nb10); intro nb10 | (fail_if_success have := nb11); intro nb11 | (fail_if_success have := nb12); intro nb12 | (fail_if_success have := nb13); intro nb13 | (fail_if_success have := nb14); intro nb14 | (fail_if_success have := nb15); intro nb15 | (fail_if_success have := nb16); intro nb16 | (fail_if_success have := nb17); intro nb17 | (fail_if_success have := nb18); intro nb18 | (fail_if_success have := nb19); intro nb19 | (fail_if_success have := nb20); intro nb20 | intro nbz) | (apply Yfr; refine Yf FR fun hFRb FR => ?_) | refine Two.mk ?_ ?_ | (apply Yxc; exact Yx) | refine Cs.mk fun hcs => Sm.out ?_ | go_step | omega | (simp only [maxLen_eq]; omega) | exact trivial | refine Or.inr (Rt.mk (And.intro (fun hg => Sm.out ?_) fun hg => Sm.out ?_))
  all_goals (refine OutQ.row (by simp only [resv, ZK, look, loadv, loadn, loadnm, load1, load1m, hget, ↓reduceIte, Nat.reduceEqDiff, Nat.reduceAdd, Nat.reduceMul, Nat.reduceLeDiff, Nat.reduceLT, reduceCtorEq, TFCoM, FR.out]) (by simp only [resv, resA, ZK, look, loadv, loadn, loadnm, load1, load1m, hget, ↓reduceIte, Nat.reduceEqDiff, Nat.reduceAdd, Nat.reduceMul, Nat.reduceLeDiff, Nat.reduceLT, reduceCtorEq, TFCoM, FR.out]; first | done | rfl) (by simp only [hget, ↓reduceIte, if_true, if_false, FR.out]; first | done | rfl) ?_ ?_ ?_ ?_ <;> first | omega | (simp only [maxLen_eq]; omega) | skip)
  all_goals first | omega | rfl
set_option maxRecDepth 8000 in
set_option maxHeartbeats 4000000 in
theorem rput_9 (tx : ByteArray) (a : Int) (g t : Int) (k : Ky) (s : Sl)  : ACt Tryd.prog 14 [ov ⟨9, tx, a, g, t, k, s⟩] [] (Row .u8 5 (putL 0 9)) := by
  have u : IntKind.u64.wrap 9 = ((9 : Nat) : Int) := by decide
  have cT : ACt Tryd.prog 25 [iv .i64 9] [] (Fn (bv false)) := rtext_ct 9
  have cA : ACt Tryd.prog 26 [iv .i64 9] [] (Fn (bv false)) := rat_ct 9
  have y2 : ((9 : Int) == 2) = false := rfl
  have y4 : ((9 : Int) == 4) = false := rfl
  have y5 : ((9 : Int) == 5) = false := rfl
  have c1 := refNum_ct 9 (by omega)
  have l1 := putL_len 0 9 (by omega)
  obtain ⟨D1, hD1⟩ : ∃ D, D = putL 0 9 := ⟨_, rfl⟩
  rw [← hD1] at c1 l1 ⊢
  have tk : ∀ L : List Int, L.take L.length = L := fun L => List.take_length
  obtain ⟨kg, kr, kp, ke, ks⟩ := k
  obtain ⟨nm, gl, w, f, t2⟩ := s
  refine ACt.intro Tryd.func14 rfl (by kernel_rfl) (by simp [Tryd.ntmps14]) (fun cx => ?_)
  simp only [argE, Tryd.ntmps14, Tryd.results14]
  first | (have FRx := FR; clear FRx) | have FR := fr0S
  have FA := Sm.mk (And.intro TFCoM (And.intro tk (And.intro u (And.intro y2 (And.intro y4 y5)))))
  repeat' first | (apply Sm.mk; refine Ys ?_) | refine WP.seq fun K hK => ?_ | (apply Ob.mk; exact Yo) | refine And.intro (Ob.out ?_) ?_ | refine Y1CoM ?_ | (first | refine CallV.fn (cT) (Sm.out ?_) | refine ExF.mk (cT) (Sm.out ?_) | refine ExG.mk (fun _ => cT) (Sm.out ?_) | refine ExG.mkJ (fun _ => cT) (Sm.out ?_) | refine ExG.mkI (Ob.out ?_) (fun _ => cT) (Sm.out ?_)) | (first | refine CallV.fn (cA) (Sm.out ?_) | refine ExF.mk (cA) (Sm.out ?_) | refine ExG.mk (fun _ => cA) (Sm.out ?_) | refine ExG.mkJ (fun _ => cA) (Sm.out ?_) | refine ExG.mkI (Ob.out ?_) (fun _ => cA) (Sm.out ?_)) | (refine WCt.row (by simp only [hget, ↓reduceIte, FR.out, tk, u, y2, y4, y5]; first | done | rfl) (c1) (Sm.out ?_)) | (refine WCt.mkrow (c1) (Sm.out ?_)) | (refine CallV.row (by simp only [hget, ↓reduceIte, FR.out, tk, u, y2, y4, y5]; first | done | rfl) (c1) (Sm.out ?_)) | refine CallV.mkrow (c1) (Sm.out ?_) | (refine CallV.upd (by simp only [hget, ↓reduceIte, FR.out, tk, u, y2, y4, y5]; first | done | rfl) (c1) (Sm.out ?_)) | refine CallV.mkobj (c1) (Sm.out ?_) | (first | refine CallV.fn (c1) (Sm.out ?_) | refine ExF.mk (c1) (Sm.out ?_) | refine ExG.mk (fun _ => c1) (Sm.out ?_) | refine ExG.mkJ (fun _ => c1) (Sm.out ?_) | refine ExG.mkI (Ob.out ?_) (fun _ => c1) (Sm.out ?_)) | refine YzCoM ?_ | (refine WP.cond rfl (fun hc => ?_) (fun hc => ?_) <;> (try simp only [ZC, reduceCtorEq, ZD] at hc) <;> (try exact absurd hc (by decide)) <;> (try (exfalso; omega))) | refine Rt.mk (And.intro (fun hg => Sm.out ?_) fun hg => Sm.out ?_) | (refine Nu.mk ?_; first | (fail_if_success have := nb1); intro nb1 | (fail_if_success have := nb2); intro nb2 | (fail_if_success have := nb3); intro nb3 | (fail_if_success have := nb4); intro nb4 | (fail_if_success have := nb5); intro nb5 | (fail_if_success have := nb6); intro nb6 | (fail_if_success have := nb7); intro nb7 | (fail_if_success have := nb8); intro nb8 | (fail_if_success have := nb9); intro nb9 | (fail_if_success have := nb10); intro nb10 | (fail_if_success have := nb11); intro nb11 | (fail_if_success have := nb12); intro nb12 | (fail_if_success have := nb13); intro nb13 | (fail_if_success have := nb14); intro nb14 | (fail_if_success have := nb15); intro nb15 | (fail_if_success have := nb16); intro nb16 | (fail_if_success have := nb17); intro nb17 | (fail_if_success have := nb18); intro nb18 | (fail_if_success have := nb19); intro nb19 | (fail_if_success have := nb20); intro nb20 | intro nbz) | (apply Yfr; refine Yf FR fun hFRb FR => ?_) | refine Two.mk ?_ ?_ | (apply Yxc; exact Yx) | refine Cs.mk fun hcs => Sm.out ?_ | go_step | omega | (simp only [maxLen_eq]; omega) | exact trivial | refine Or.inr (Rt.mk (And.intro (fun hg => Sm.out ?_) fun hg => Sm.out ?_))
  all_goals (refine OutQ.row (by simp only [resv, ZK, look, loadv, loadn, loadnm, load1, load1m, hget, ↓reduceIte, Nat.reduceEqDiff, Nat.reduceAdd, Nat.reduceMul, Nat.reduceLeDiff, Nat.reduceLT, reduceCtorEq, TFCoM, FR.out]) (by simp only [resv, resA, ZK, look, loadv, loadn, loadnm, load1, load1m, hget, ↓reduceIte, Nat.reduceEqDiff, Nat.reduceAdd, Nat.reduceMul, Nat.reduceLeDiff, Nat.reduceLT, reduceCtorEq, TFCoM, FR.out]; first | done | rfl) (by simp only [hget, ↓reduceIte, if_true, if_false, FR.out]; first | done | rfl) ?_ ?_ ?_ ?_ <;> first | omega | (simp only [maxLen_eq]; omega) | skip)
  all_goals first | omega | rfl
end Go.Proofs.YtpidkkgjgichdaaDoor
