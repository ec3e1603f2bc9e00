/-
  Calls over several blocks of ours, that change them, or make new ones; calls that only look, in any region.
-/
import Derived.Test.YtbnkmhlnoaebcaaLayV
namespace Go.Proofs.Ytbnkmhlnoaebcaa
open Go
set_option linter.unusedSimpArgs false
set_option linter.unusedVariables false

section
variable {P : Program} {f : FuncId} {args : List AV} {H F F0 R : Hp} {post : AV → Hp → Prop}

theorem DCt.upd {b : Nat} {m : MB} {x : AV} (hg : hget H b = some m) (h : ACt P f args [(b, m)] (fun r F' => r = x ∧ F' = [(b, m)])) : DCt P f args H x :=
  ⟨[(b, m)], hdel H b, _, hget_perm hg, h, fun r F' hr _ => by obtain ⟨e1, e2⟩ := hr; subst e1 e2; exact ⟨rfl, (hget_perm hg).symm⟩⟩
theorem perm1 {b : Nat} {m : MB} (h : hget H b = some m) : H.Perm ([(b, m)] ++ hdel H b) := hget_perm h
theorem perm2 {b1 b2 : Nat} {m1 m2 : MB} (h1 : hget H b1 = some m1) (h2 : hget (hdel H b1) b2 = some m2) : H.Perm ([(b1, m1), (b2, m2)] ++ hdel (hdel H b1) b2) :=
  (hget_perm h1).trans (List.Perm.append_left [(b1, m1)] (hget_perm h2))
theorem perm3 {b1 b2 b3 : Nat} {m1 m2 m3 : MB} (h1 : hget H b1 = some m1) (h2 : hget (hdel H b1) b2 = some m2) (h3 : hget (hdel (hdel H b1) b2) b3 = some m3) : H.Perm ([(b1, m1), (b2, m2), (b3, m3)] ++ hdel (hdel (hdel H b1) b2) b3) :=
  (hget_perm h1).trans (List.Perm.append_left [(b1, m1)] (perm2 h2 h3))
theorem perm4 {b1 b2 b3 b4 : Nat} {m1 m2 m3 m4 : MB} (h1 : hget H b1 = some m1) (h2 : hget (hdel H b1) b2 = some m2) (h3 : hget (hdel (hdel H b1) b2) b3 = some m3) (h4 : hget (hdel (hdel (hdel H b1) b2) b3) b4 = some m4) :
    H.Perm ([(b1, m1), (b2, m2), (b3, m3), (b4, m4)] ++ hdel (hdel (hdel (hdel H b1) b2) b3) b4) :=
  (hget_perm h1).trans (List.Perm.append_left [(b1, m1)] (perm3 h2 h3 h4))
theorem DCt.updN {x : AV} (hP : H.Perm (F ++ R)) (h : ACt P f args F (fun r F' => r = x ∧ F' = F)) : DCt P f args H x :=
  ⟨F, R, _, hP, h, fun r F' hr _ => by obtain ⟨e1, e2⟩ := hr; subst e1 e2; exact ⟨rfl, hP.symm⟩⟩
theorem CallV.updN {x : AV} (hP : H.Perm (F ++ R)) (h : ACt P f args F (fun r F' => r = x ∧ F' = F0)) (hp : post x (F0 ++ R)) : CallV P f args H post :=
  ⟨F, R, _, hP, h, fun r F' hr _ => by obtain ⟨e1, e2⟩ := hr; subst e1 e2; exact hp⟩
theorem fresh_perm {b : Nat} {m : MB} (hP : H.Perm (F ++ R)) (hk : F0.map (·.1) = F.map (·.1)) (hn : ((((b, m) :: F0) ++ R).map (·.1)).Nodup) : fresh H b := by
  intro p hp
  have hp' := hP.mem_iff.1 hp
  simp only [List.cons_append, List.map_cons, List.nodup_cons, List.map_append, List.mem_append] at hn
  have hne : p.1 ≠ b := by
    rintro rfl
    rcases List.mem_append.1 hp' with h | h
    · exact hn.1 (.inl (by rw [hk]; exact List.mem_map_of_mem h))
    · exact hn.1 (.inr (List.mem_map_of_mem h))
  exact ⟨hne, Ne.symm hne⟩
theorem CallV.new1 {x : Nat → AV} {m : Nat → MB} (hP : H.Perm (F ++ R)) (h : ACt P f args F (fun r F' => ∃ b, r = x b ∧ F' = (b, m b) :: F0)) (hk : F0.map (·.1) = F.map (·.1))
    (hp : Nu fun b => Fr (fresh H b) (post (x b) ((b, m b) :: (F0 ++ R)))) : CallV P f args H post :=
  ⟨F, R, _, hP, h, fun r F' hr hn => by
    obtain ⟨b, e1, e2⟩ := hr
    subst e1 e2
    exact (hp.out b).out (fresh_perm hP hk hn)⟩
theorem CallV.new2 {x : Nat → Nat → AV} {m1 m2 : Nat → Nat → MB} (hP : H.Perm (F ++ R)) (h : ACt P f args F (fun r F' => ∃ b c, r = x b c ∧ F' = (b, m1 b c) :: (c, m2 b c) :: F0)) (hk : F0.map (·.1) = F.map (·.1))
    (hp : Nu fun b => Nu fun c => Fr ((b ≠ c ∧ c ≠ b) ∧ fresh H b ∧ fresh H c) (post (x b c) ((b, m1 b c) :: (c, m2 b c) :: (F0 ++ R)))) : CallV P f args H post :=
  ⟨F, R, _, hP, h, fun r F' hr hn => by
    obtain ⟨b, c, e1, e2⟩ := hr
    subst e1 e2
    have hc : fresh H c := by
      refine fresh_perm (m := m2 b c) hP hk ?_
      simp only [List.cons_append, List.map_cons, List.nodup_cons] at hn ⊢
      exact hn.2
    have hb : fresh H b := by
      refine fresh_perm (m := m1 b c) hP hk ?_
      simp only [List.cons_append, List.map_cons, List.nodup_cons, List.mem_cons] at hn ⊢
      exact ⟨fun hm => hn.1 (.inr hm), hn.2.2⟩
    have hbc : b ≠ c := by
      rintro rfl
      simp only [List.cons_append, List.map_cons, List.nodup_cons, List.mem_cons] at hn
      exact hn.1 (by simp)
    exact ((hp.out b).out c).out ⟨⟨hbc, Ne.symm hbc⟩, hb, hc⟩⟩
/-- A call that may leave things in one of many ways. -/
theorem CallV.ex {Γ : Type} {x : Γ → AV} {m : Γ → Hp} (hP : H.Perm (F ++ R)) (h : ACt P f args F (fun r F' => ∃ g, r = x g ∧ F' = m g)) (hp : ∀ g, post (x g) (m g ++ R)) : CallV P f args H post :=
  ⟨F, R, _, hP, h, fun r F' hr _ => by obtain ⟨g, e1, e2⟩ := hr; subst e1 e2; exact hp g⟩

/-- Cells that are integers of one kind, seen as such. -/
theorem Wk.tozs {env : List (Nat × AV)} {b sz : Nat} {k : IntKind} {zs : List Int} {ty : TypeId} (hg : hget H b = some (.cells (zs.map (iv k)) sz ty)) : Wk ⟨env, H⟩ ⟨env, hset H b (.zs k zs sz ty)⟩ := by
  intro cx n a w ok
  have e : hset H b (.cells (zs.map (iv k)) sz ty) = H := by
    have : ∀ H : Hp, hget H b = some (.cells (zs.map (iv k)) sz ty) → hset H b (.cells (zs.map (iv k)) sz ty) = H := by
      intro H
      induction H with
      | nil => intro h; cases h
      | cons p r ih =>
        obtain ⟨b', m'⟩ := p
        intro h
        simp only [hget] at h
        simp only [hset]
        split at h
        · rename_i he; subst he; cases h; simp
        · rename_i he; rw [if_neg he, ih h]
    exact this H hg
  have hw := ok.world
  simp only at hw
  rw [← e] at hw
  obtain ⟨h1, h2⟩ := hw.as_zs
  refine ⟨ok.defers, ok.size, fun i => (ok.reps i).mono fun c hc => ⟨(h2 c).1 (by rw [e]; exact hc), rfl⟩, h1⟩
end
end Go.Proofs.Ytbnkmhlnoaebcaa
