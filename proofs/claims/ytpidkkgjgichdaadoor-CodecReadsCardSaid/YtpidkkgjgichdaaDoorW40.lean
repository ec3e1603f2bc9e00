/-
  The walks and the laws that the statement leans on, part 40.
-/
import Derived.Test.YtpidkkgjgichdaaDoorW10
import Derived.Test.YtpidkkgjgichdaaDoorW31
import Derived.Test.YtpidkkgjgichdaaDoorW39
namespace Go.Proofs.YtpidkkgjgichdaaDoor
open Go Wi
set_option linter.unusedVariables false
set_option linter.unusedSimpArgs false
set_option linter.defProp false
def TFCoU :=
  And.intro (And.intro (And.intro (And.intro (And.intro tyc4 zmb4) (And.intro tyc5 zmb5)) (And.intro (And.intro tyc9 zmb9) (And.intro tyc30 foff30_0))) (And.intro (And.intro (And.intro fpart30_0 foff30_1) (And.intro fpart30_1 foff30_2)) (And.intro (And.intro fpart30_2 foff30_3) (And.intro fpart30_3 foff30_4)))) (And.intro (And.intro (And.intro (And.intro fpart30_4 foff30_5) (And.intro fpart30_5 zmb30)) (And.intro (And.intro bldT30 tyc33) (And.intro elt33 mkz33))) (And.intro (And.intro (And.intro apT33 elk33) (And.intro zmb33 Tryd.underlying4)) (And.intro (And.intro Tryd.underlying5 Tryd.underlying9) (And.intro Tryd.underlying30 Tryd.underlying33))))
theorem Y1CoU {G R : Prop} (r : R) (h : R → G := by intro r; first | (apply WP.region; exact rvc_sound _ _ (Sm.out r)) | exact WP.drawK rfl mixed (by decide +kernel) (Sm.out r) | (apply WP.block; exact r) | (apply WP.skip; exact Yq r) | (apply WP.exit; exact Yq r) | (apply WP.ret; exact Sm.out r) | exact WP.cond rfl (fun _ => r) (fun hg => absurd hg (by decide)) | exact WP.cond rfl (fun hg => absurd hg (by decide)) (fun _ => r) | exact Rt.mk (And.intro (fun _ => Sm.out r) fun hg => absurd hg (by decide)) | exact Rt.mk (And.intro (fun hg => absurd hg (by decide)) fun _ => Sm.out r)) : G := h r
theorem YzCoU {G R : Prop} (r : R) (h : R → G := by intro r; first | (apply ExG.no; exact Sm.out r) | (apply Or.inl; apply ExG.no; exact Sm.out r) | exact Or.inl (And.intro (fun hg => absurd hg (by decide)) (ExG.no (Sm.out r)))) : G := h r
theorem CallV.newR {P : Program} {f : FuncId} {args : List AV} {H F R : Hp} {F0 : Nat → Nat → Hp} {post : AV → Hp → Prop} {φ : Nat → Nat → Prop} {x : Nat → Nat → AV} {m : Nat → Nat → MB}
    (h : ACt P f args F (fun r F' => ∃ b c, φ b c ∧ r = x b c ∧ F' = (b, m b c) :: F0 b c)) (hP : H.Perm (F ++ R))
    (hp : Nu fun b => Nu fun c => Fr (φ b c ∧ fresh (F0 b c ++ R) b) (post (x b c) ((b, m b c) :: (F0 b c ++ R)))) : CallV P f args H post :=
  ⟨F, R, _, hP, h, fun r F' hr hn => by
    obtain ⟨b, c, e0, e1, e2⟩ := hr
    subst e1 e2
    refine ((hp.out b).out c).out ⟨e0, fun p hp' => ?_⟩
    simp only [List.cons_append, List.map_cons, List.nodup_cons] at hn
    have hne : p.1 ≠ b := fun he => hn.1 (List.mem_map.2 ⟨p, hp', he⟩)
    exact ⟨hne, fun he => hne he.symm⟩⟩
abbrev RowT (L : List Int) (n0 n1 : Nat) (r : AV) (F' : Hp) : Prop := ∃ x c, (L.length ≤ c ∧ c ≤ 9223372036854775807) ∧ r = ms x 0 L.length c ∧ F' = (x, .zs .u8 L c 5) :: [(0, .ro .u8 fsZ 256 n0), (1, .ro .u8 acZ 32 n1)]
theorem cput_nil (n0 n1 : Nat) (o : Oq) (hg : gsB o = true) (hw : Ow o) : ACt Tryd.prog 9 [.lit (.slice none 0 0), ov o] [(0, .ro .u8 fsZ 256 n0), (1, .ro .u8 acZ 32 n1)] (RowT (oL o) n0 n1) := by
  have cG := goes_ct o n0 n1 (.inl hw.z)
  rw [hg] at cG
  obtain ⟨⟨h1, h2⟩, -⟩ := gs_of hg
  obtain ⟨hz, hx, -, ha, hG, hT, hK, hS⟩ := hw
  obtain ⟨kd, tx, a, g, t, k, s⟩ := o
  simp only at h1 h2 hx ha hG hT hK hS
  have hk : kd = 1 ∨ kd = 2 ∨ kd = 3 ∨ kd = 4 ∨ kd = 5 ∨ kd = 6 ∨ kd = 7 ∨ kd = 8 ∨ kd = 9 := by omega
  have e : ∀ {L M : List Int}, L = M → ∀ {r F'}, RowT M n0 n1 r F' → RowT L n0 n1 r F' := fun h _ _ h2 => by rw [h]; exact h2
  rcases hk with rfl | rfl | rfl | rfl | rfl | rfl | rfl | rfl | rfl
  · exact (cput_n1 n0 n1 fsZ acZ tx a g t k s hx cG).mono fun r F' h => e (by simp [oL, txK, atK]) h
  · obtain ⟨g, rfl⟩ := Int.eq_ofNat_of_zero_le hG.1
    obtain ⟨t, rfl⟩ := Int.eq_ofNat_of_zero_le hT.1
    exact (cput_n2 n0 n1 fsZ acZ tx a g t k s hx ha (by omega) (by omega) cG).mono fun r F' h => e (by simp [oL, txK, atK]) h
  · exact (cput_n3 n0 n1 fsZ acZ tx a g t k s ha cG).mono fun r F' h => e (by simp [oL, txK, atK]) h
  · exact (cput_n4 n0 n1 fsZ acZ tx a g t k s hK cG).mono fun r F' h => e (by simp [oL, txK, atK]) h
  · exact (cput_n5 n0 n1 fsZ acZ tx a g t k s hS cG).mono fun r F' h => e (by simp [oL, txK, atK]) h
  · exact (cput_n6 n0 n1 fsZ acZ tx a g t k s hx cG).mono fun r F' h => e (by simp [oL, txK, atK]) h
  · exact (cput_n7 n0 n1 fsZ acZ tx a g t k s hx cG).mono fun r F' h => e (by simp [oL, txK, atK]) h
  · exact (cput_n8 n0 n1 fsZ acZ tx a g t k s cG).mono fun r F' h => e (by simp [oL, txK, atK]) h
  · exact (cput_n9 n0 n1 fsZ acZ tx a g t k s cG).mono fun r F' h => e (by simp [oL, txK, atK]) h
theorem k0_b : Kb k0 := ⟨k0_z, by decide, by decide⟩
theorem s0_b : Sb s0 := ⟨s0_z, by decide, by decide, by decide⟩
set_option maxRecDepth 8000 in
theorem awake_ct (n0 n1 : Nat) : ACt Tryd.prog 6 [] [(0, .ro .u8 fsZ 256 n0), (1, .ro .u8 acZ 32 n1)] (fun x F => x = bv true ∧ F = [(0, .ro .u8 fsZ 256 n0), (1, .ro .u8 acZ 32 n1)]) := by
  have hg : gsB ⟨3, ⟨#[]⟩, 300, 0, 0, k0, s0⟩ = true := gs_mk (by simp) rfl (by simp only; decide) (fun e => by simp at e) (fun e => by simp at e)
  have c1 := cput_nil n0 n1 ⟨3, ⟨#[]⟩, 300, 0, 0, k0, s0⟩ hg ⟨⟨k0_z, s0_z⟩, by simp only; decide, by simp, by simp, by simp, by simp, k0_b, s0_b⟩
  have hL : oL ⟨3, ⟨#[]⟩, 300, 0, 0, k0, s0⟩ = [1, 3, 2, 1, 44] := by decide +kernel
  rw [hL] at c1
  obtain ⟨D, hD⟩ : ∃ D : List Int, D = [1, 3, 2, 1, 44] := ⟨_, rfl⟩
  have hl : D.length = 5 := by rw [hD]; rfl
  have tk : D.take 5 = D := by rw [hD]; rfl
  have hs : ((bstr D).toList == (⟨#[1, 3, 2, 1, 44]⟩ : ByteArray).toList) = true := by rw [hD]; decide +kernel
  rw [← hD] at c1
  unfold RowT at c1
  rw [hl] at c1
  obtain ⟨FZ, hFZ⟩ : ∃ FZ, FZ = fsZ := ⟨_, rfl⟩
  obtain ⟨AZ, hAZ⟩ : ∃ AZ, AZ = acZ := ⟨_, rfl⟩
  rw [← hFZ, ← hAZ] at c1 ⊢
  refine ACt.intro Tryd.func6 rfl (by kernel_rfl) (by simp [Tryd.ntmps6]) (fun cx => ?_)
  simp only [argE, Tryd.ntmps6, Tryd.results6]
  first | (have FRx := FR; clear FRx) | have FR := fr0S
  have FA := Sm.mk (And.intro TFCoU (And.intro hl (And.intro tk hs)))
  repeat' first | (apply Sm.mk; refine Ys ?_) | refine WP.seq fun K hK => ?_ | (apply Ob.mk; exact Yo) | refine And.intro (Ob.out ?_) ?_ | refine Y1CoU ?_ | (refine CallV.newR (c1) ((perm2 (by simp only [hget, hdel, ↓reduceIte, FR.out]; first | done | rfl) (by simp only [hget, hdel, ↓reduceIte, FR.out]; first | done | rfl))) (Sm.out ?_)) | refine YzCoU ?_ | (refine WP.cond rfl (fun hc => ?_) (fun hc => ?_) <;> (try simp only [ZC, reduceCtorEq, ZD] at hc) <;> (try exact absurd hc (by decide)) <;> (try (exfalso; omega))) | refine Rt.mk (And.intro (fun hg => Sm.out ?_) fun hg => Sm.out ?_) | (refine Nu.mk ?_; first | (fail_if_success have := nb1); intro nb1 | (fail_if_success have := nb2); intro nb2 | (fail_if_success have := nb3); intro nb3 | (fail_if_success have := nb4); intro nb4 | intro nbz) | (apply Yfr; refine Yf FR fun hFRb FR => ?_) | refine Two.mk ?_ ?_ | (apply Yxc; exact Yx) | refine Cs.mk fun hcs => Sm.out ?_ | go_step | omega | (simp only [maxLen_eq]; omega) | exact trivial
  (refine OutQ.drop _ _ (perm2 (by simp only [hget, hdel, ↓reduceIte, if_true, if_false, FR.out]; first | done | rfl) (by simp only [hget, hdel, ↓reduceIte, if_true, if_false, FR.out]; first | done | rfl)) (by simp only [resv, ZK, look, loadv, loadn, loadnm, load1, load1m, hget, ↓reduceIte, Nat.reduceEqDiff, Nat.reduceAdd, Nat.reduceMul, Nat.reduceLeDiff, Nat.reduceLT, reduceCtorEq, TFCoU, FR.out]) ⟨(by simp only [resv, resA, ZK, look, loadv, loadn, loadnm, load1, load1m, hget, ↓reduceIte, Nat.reduceEqDiff, Nat.reduceAdd, Nat.reduceMul, Nat.reduceLeDiff, Nat.reduceLT, reduceCtorEq, TFCoU, FR.out]; first | done | rfl), rfl⟩)
end Go.Proofs.YtpidkkgjgichdaaDoor
