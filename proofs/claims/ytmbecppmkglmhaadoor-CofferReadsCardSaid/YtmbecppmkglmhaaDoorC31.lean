/-
  The walks and the laws that the statement leans on, part 31.
-/
import Derived.Test.YtmbecppmkglmhaaDoorC11
import Derived.Test.YtmbecppmkglmhaaDoorC30
namespace Go.Proofs.YtmbecppmkglmhaaDoor
open Go
set_option linter.unusedVariables false
set_option linter.unusedSimpArgs false
structure LgI (c s n f m : Nat) (P Q : Bs) (L : List Bs) (a : DA) : Prop where
  A : AOk c a
  R : Rg s n f m P Q (frs L ++ zrs (m * s - usd L)) a
  u : usd L ≤ m * s
  sm : Sml L
  hfm : f + m ≤ n
  hm : 1 ≤ m
theorem LgI.ms {c s n f m : Nat} {P Q : Bs} {L : List Bs} {a : DA} (h : LgI c s n f m P Q L a) : m * s ≤ 400 * 512 ∧ a.size = s ∧ a.n = n ∧ 1 ≤ s := by
  have h1 := h.A.n2
  have h2 := h.A.s2
  have h3 := h.A.s1
  have h4 := h.R.st.s
  have h5 := h.R.st.n
  have h6 := h.hfm
  exact ⟨Nat.mul_le_mul (by omega) (by omega), h4, h5, by omega⟩
def lgN (b f m s : Nat) (L : List Bs) (ov : Bool) : MB := lgM b f m (ub (tlB (frs L ++ zrs (m * s - usd L)) (usd L) s)) (usd L) ov
theorem cks_m {s : Nat} {z : List Int} {m : Nat} (hs : 1 ≤ s) (h : z.length ≤ m * s) : (cks s z).length ≤ m := cks_len_le hs h
def apX (f s m : Nat) (L : List Bs) (a : DA) (z : Bs) : DA × Int := lyR a (f + usd L / s) (cks s (ub (tlB (frs L ++ zrs (m * s - usd L)) (usd L) s ++ frameB z)))
theorem tl_len {c s n f m : Nat} {P Q : Bs} {L : List Bs} {a : DA} (h : LgI c s n f m P Q L a) : (tlB (frs L ++ zrs (m * s - usd L)) (usd L) s).length = usd L - usd L / s * s := by
  have := h.u
  simp only [tlB, List.length_drop, List.length_take, List.length_append, zrs, List.length_replicate]
  unfold usd at *; omega
theorem apX_ok {c s n f m : Nat} {P Q : Bs} {L : List Bs} {a : DA} (h : LgI c s n f m P Q L a) (z : Bs) (hz : usd L + (z.length + 10) ≤ m * s) : AOk (c + m + 1) (apX f s m L a z).1 := by
  obtain ⟨h1, h2, h3, h4⟩ := h.ms
  refine (lyR_ok _ a _ c h.A).le ?_
  have hdv := Nat.div_mul_le_self (usd L) s
  have := cks_m (m := m) h4 (z := ub (tlB (frs L ++ zrs (m * s - usd L)) (usd L) s ++ frameB z)) (by rw [ub_len, List.length_append, tl_len h, frame_len]; omega)
  omega
theorem apX_com {c s n f m : Nat} {P Q : Bs} {L : List Bs} {a : DA} (h : LgI c s n f m P Q L a) (z : Bs) (hz : usd L + (z.length + 10) ≤ m * s) : Com s n f m P Q (frs (L ++ [z]) ++ zrs (m * s - usd (L ++ [z]))) (frs L ++ zrs (m * s - usd L)) a (apX f s m L a z) := by
  have := app_rg h.A h.R h.hfm z (by omega)
  rw [show m * s - usd (L ++ [z]) = m * s - usd L - (z.length + 10) by rw [usd_snoc]; omega]
  exact this
theorem LgI.app {c s n f m : Nat} {P Q : Bs} {L : List Bs} {a : DA} (h : LgI c s n f m P Q L a) (z : Bs) (hz : usd L + (z.length + 10) ≤ m * s) (hf : a.f = -1) : (apX f s m L a z).2 = 0 ∧ (apX f s m L a z).1.f = -1 ∧ LgI (c + m + 1) s n f m P Q (L ++ [z]) (apX f s m L a z).1 := by
  obtain ⟨h1, h2, h3⟩ := (apX_com h z hz).up hf
  obtain ⟨g1, g2, g3, g4⟩ := h.ms
  refine ⟨h1, h3, apX_ok h z hz, h2, by rw [usd_snoc]; omega, fun x hx => ?_, h.hfm, h.hm⟩
  rcases List.mem_append.1 hx with hx | hx
  · exact h.sm x hx
  · rw [List.mem_singleton.1 hx]; omega
theorem append_up {c s n f m : Nat} {P Q : Bs} {L : List Bs} {a : DA} (b x : Nat) (l : DL) (h : LgI c s n f m P Q L a) (hl : LOk b a l) (z : Bs) (hz : usd L + (z.length + 10) ≤ m * s) (hz2 : z.length ≤ 5000) (hf : a.f = -1) (hc : c + m ≤ 980) (hL : L = []) :
    ACt Tryd.prog 49 [pt x 0, .slz .u8 (ub z)] ((x, lgN b f m s L false) :: dH b a l) (fun r F' => ∃ q : LS b (apX f s m L a z).1, r = iv .i64 0 ∧ F' = (x, lgN b f m s (L ++ [z]) false) :: dH b (apX f s m L a z).1 q.1) := by
  obtain ⟨g1, g2, g3, g4⟩ := h.ms
  have h1 := (h.app z hz hf).1
  have hA := app_lay0 x b f m (usd L) s (tlB (frs L ++ zrs (m * s - usd L)) (usd L) s) z a l h.A hl h.R.st.dk g2 (by rw [g3]; exact h.hfm) hz (tl_len h) hz2 hc (by subst hL; unfold tlB; rw [show usd [] = 0 from rfl, List.take_zero, List.drop_nil]) h1
  rw [tail_app L z (m * s - usd L) s g4 (by omega)] at hA
  unfold lgN
  rw [show m * s - usd (L ++ [z]) = m * s - usd L - (z.length + 10) by rw [usd_snoc]; omega]
  rw [show usd L + (z.length + 10) = usd (L ++ [z]) by rw [usd_snoc]] at hA
  exact hA
theorem room_up {c s n f m : Nat} {P Q : Bs} {L : List Bs} {a : DA} (b x : Nat) (l : DL) (h : LgI c s n f m P Q L a) (ov : Bool) : ACt Tryd.prog 47 [pt x 0] ((x, lgN b f m s L ov) :: dH b a l) (fun r F' => r = iv .i64 ((m * s - usd L : Nat) : Int) ∧ F' = (x, lgN b f m s L ov) :: dH b a l) := by
  obtain ⟨g1, g2, g3, g4⟩ := h.ms
  exact room_ct x b f m (usd L) s _ ov a l g2 (by omega) h.u
def fmX (f s m : Nat) (a : DA) : DA × Int := lyR a f (cks s (List.replicate (m * s) 0))
theorem LgI.fmt {c s n f m : Nat} {P Q R : Bs} {a : DA} (hA : AOk c a) (hR : Rg s n f m P Q R a) (hfm : f + m ≤ n) (hm : 1 ≤ m) (hf : a.f = -1) : (fmX f s m a).2 = 0 ∧ (fmX f s m a).1.f = -1 ∧ LgI (c + m + 1) s n f m P Q [] (fmX f s m a).1 := by
  obtain ⟨h1, h2, h3⟩ := (fmt_rg hA hR hfm).up hf
  have hs1 : 1 ≤ s := by have := hA.s1; have := hR.st.s; omega
  refine ⟨h1, h3, (lyR_ok _ a _ c hA).le ?_, ?_, Nat.zero_le _, fun x hx => (by cases hx), hfm, hm⟩
  · have := cks_m (m := m) hs1 (z := List.replicate (m * s) (0 : Int)) (by simp)
    omega
  · rw [frs_nil, List.nil_append, show usd [] = 0 from rfl, Nat.sub_zero]; exact h2
theorem format_up {c s n f m : Nat} {P Q R : Bs} {a : DA} (b : Nat) (l : DL) (hA : AOk c a) (hR : Rg s n f m P Q R a) (hl : LOk b a l) (hfm : f + m ≤ n) (hm : 1 ≤ m) (hf : a.f = -1) (hc : c + m ≤ 980) :
    ACt Tryd.prog 46 [pt b 0, iv .i64 (f : Int), iv .i64 (m : Int)] (dH b a l) (fun r F' => ∃ q : LS b (fmX f s m a).1, r = iv .i64 0 ∧ F' = dH b (fmX f s m a).1 q.1) := by
  have h := format_ct b a l hA hR.st hl f m hfm hm hc
  have h1 := (LgI.fmt hA hR hfm hm hf).1
  unfold fmX at h1 ⊢
  rw [h1] at h
  exact h
theorem nwA_stl (n size : Nat) : Stl size n (ub (zrs (n * size))) (nwA n size) := by
  refine ⟨rfl, rfl, rfl, rfl, rfl, ?_⟩
  rw [ub_zrs]
  show (List.replicate n (List.replicate size (0 : Int))).flatten = _
  exact List.flatten_replicate_replicate
end Go.Proofs.YtmbecppmkglmhaaDoor
