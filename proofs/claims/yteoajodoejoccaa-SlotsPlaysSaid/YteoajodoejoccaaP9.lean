/-
  The walks and the laws that the statement leans on, part 9.
-/
import Derived.Test.YteoajodoejoccaaProg
import Derived.Test.YteoajodoejoccaaP6
import Derived.Test.YteoajodoejoccaaP8
namespace Go.Proofs.Yteoajodoejoccaa
open Go
theorem tyc0 : tyc Try.prog 0 = some none := by kernel_rfl
theorem tyc3 : tyc Try.prog 3 = some none := by kernel_rfl
theorem zmb3 : zmb Try.prog 3 = some (.cells [(.lit (.int .i64 0))] 1 3) := by kernel_rfl
theorem tyc4 : tyc Try.prog 4 = some none := by kernel_rfl
theorem zmb4 : zmb Try.prog 4 = some (.cells [(.lit (.bool false))] 1 4) := by kernel_rfl
theorem tyc5 : tyc Try.prog 5 = some none := by kernel_rfl
theorem zmb5 : zmb Try.prog 5 = some (.cells [(.lit (.int .u8 0))] 1 5) := by kernel_rfl
theorem tyc9 : tyc Try.prog 9 = some none := by kernel_rfl
theorem zmb9 : zmb Try.prog 9 = some (.cells [(.lit (.string ⟨#[]⟩))] 1 9) := by kernel_rfl
theorem tyc22 : tyc Try.prog 22 = some none := by kernel_rfl
theorem elt22 : elt Try.prog 22 = some (none, 2) := by kernel_rfl
theorem mkz22 : mkz Try.prog 22 = none := by kernel_rfl
theorem mkc22 : mkc Try.prog 22 = some (40, 2, 32, [(.lit (.int .i64 0)), (.lit (.slice none 0 0))]) := by kernel_rfl
theorem apT22 : apT Try.prog 22 = some (40, 2, 32) := by kernel_rfl
theorem elk22 : elk Try.prog 22 = none := by kernel_rfl
theorem zmb22 : zmb Try.prog 22 = some (.cells [(.lit (.slice none 0 0))] 1 22) := by kernel_rfl
theorem tyc25 : tyc Try.prog 25 = some none := by kernel_rfl
theorem mth25_45 : mthOf Try.prog 25 "firebell/block.deed" = some 45 := by kernel_rfl
theorem mth25_44 : mthOf Try.prog 25 "firebell/block.may" = some 44 := by kernel_rfl
theorem mth25_43 : mthOf Try.prog 25 "firebell/block.settle" = some 43 := by kernel_rfl
theorem con25 : Try.prog.concrete 25 = true := by kernel_rfl
theorem zmb25 : zmb Try.prog 25 = some (.cells [(.lit (.pointer none))] 1 25) := by kernel_rfl
theorem tyc28 : tyc Try.prog 28 = some none := by kernel_rfl
theorem zmb28 : zmb Try.prog 28 = some (.cells [(.lit (.int .i64 0))] 1 28) := by kernel_rfl
theorem tyc30 : tyc Try.prog 30 = some none := by kernel_rfl
theorem mth30_37 : mthOf Try.prog 30 "firebell/slots.lay" = some 37 := by kernel_rfl
theorem con30 : Try.prog.concrete 30 = true := by kernel_rfl
theorem zmb30 : zmb Try.prog 30 = some (.cells [(.lit (.pointer none))] 1 30) := by kernel_rfl
theorem tyc31 : tyc Try.prog 31 = some none := by kernel_rfl
theorem tyc35 : tyc Try.prog 35 = some none := by kernel_rfl
theorem zmb35 : zmb Try.prog 35 = some (.cells [(.lit (.int .u64 0))] 1 35) := by kernel_rfl
theorem tyc36 : tyc Try.prog 36 = some none := by kernel_rfl
theorem elt36 : elt Try.prog 36 = some (none, 1) := by kernel_rfl
theorem mkz36 : mkz Try.prog 36 = some (5, 1, .u8) := by kernel_rfl
theorem apT36 : apT Try.prog 36 = some (5, 1, 1) := by kernel_rfl
theorem elk36 : elk Try.prog 36 = (some .u8) := by kernel_rfl
theorem zmb36 : zmb Try.prog 36 = some (.cells [(.lit (.slice none 0 0))] 1 36) := by kernel_rfl
theorem tyc38 : tyc Try.prog 38 = some (some 2) := by kernel_rfl
theorem foff38_0 : foff Try.prog 38 0 = some 0 := by kernel_rfl
theorem fpart38_0 : fpart Try.prog 38 0 = some (0, none) := by kernel_rfl
theorem foff38_1 : foff Try.prog 38 1 = some 1 := by kernel_rfl
theorem fpart38_1 : fpart Try.prog 38 1 = some (1, none) := by kernel_rfl
theorem zmb38 : zmb Try.prog 38 = some (.cells [(.lit (.int .u64 0)), (.lit (.slice none 0 0))] 2 38) := by kernel_rfl
theorem bldT38 : bldT Try.prog 38 = some ([(.int .u64 0), (.slice none 0 0)], [(0, 1), (1, 1)]) := by kernel_rfl
theorem tyc40 : tyc Try.prog 40 = some (some 2) := by kernel_rfl
theorem foff40_0 : foff Try.prog 40 0 = some 0 := by kernel_rfl
theorem fpart40_0 : fpart Try.prog 40 0 = some (0, none) := by kernel_rfl
theorem foff40_1 : foff Try.prog 40 1 = some 1 := by kernel_rfl
theorem fpart40_1 : fpart Try.prog 40 1 = some (1, none) := by kernel_rfl
theorem zmb40 : zmb Try.prog 40 = some (.cells [(.lit (.int .i64 0)), (.lit (.slice none 0 0))] 2 40) := by kernel_rfl
theorem bldT40 : bldT Try.prog 40 = some ([(.int .i64 0), (.slice none 0 0)], [(0, 1), (1, 1)]) := by kernel_rfl
theorem tyc41 : tyc Try.prog 41 = some none := by kernel_rfl
theorem tyc57 : tyc Try.prog 57 = some none := by kernel_rfl
theorem tyc62 : tyc Try.prog 62 = some none := by kernel_rfl
theorem tyc65 : tyc Try.prog 65 = some (some 6) := by kernel_rfl
theorem foff65_0 : foff Try.prog 65 0 = some 0 := by kernel_rfl
theorem fpart65_0 : fpart Try.prog 65 0 = some (0, none) := by kernel_rfl
theorem foff65_1 : foff Try.prog 65 1 = some 1 := by kernel_rfl
theorem fpart65_1 : fpart Try.prog 65 1 = some (1, none) := by kernel_rfl
theorem foff65_2 : foff Try.prog 65 2 = some 2 := by kernel_rfl
theorem fpart65_2 : fpart Try.prog 65 2 = some (2, none) := by kernel_rfl
theorem foff65_3 : foff Try.prog 65 3 = some 3 := by kernel_rfl
theorem fpart65_3 : fpart Try.prog 65 3 = some (3, none) := by kernel_rfl
theorem foff65_4 : foff Try.prog 65 4 = some 4 := by kernel_rfl
theorem fpart65_4 : fpart Try.prog 65 4 = some (4, none) := by kernel_rfl
theorem foff65_5 : foff Try.prog 65 5 = some 5 := by kernel_rfl
theorem fpart65_5 : fpart Try.prog 65 5 = some (5, none) := by kernel_rfl
theorem zmb65 : zmb Try.prog 65 = some (.cells [(.lit (.pointer none)), (.lit (.int .i64 0)), (.lit (.int .i64 0)), (.lit (.int .u64 0)), (.lit (.slice none 0 0)), (.lit (.bool false))] 6 65) := by kernel_rfl
theorem bldT65 : bldT Try.prog 65 = some ([(.pointer none), (.int .i64 0), (.int .i64 0), (.int .u64 0), (.slice none 0 0), (.bool false)], [(0, 1), (1, 1), (2, 1), (3, 1), (4, 1), (5, 1)]) := by kernel_rfl
theorem tyc66 : tyc Try.prog 66 = some none := by kernel_rfl
theorem tyc70 : tyc Try.prog 70 = some none := by kernel_rfl
theorem elt70 : elt Try.prog 70 = some (none, 1) := by kernel_rfl
theorem mkz70 : mkz Try.prog 70 = none := by kernel_rfl
theorem mkc70 : mkc Try.prog 70 = some (36, 1, 24, [(.lit (.slice none 0 0))]) := by kernel_rfl
theorem apT70 : apT Try.prog 70 = some (36, 1, 24) := by kernel_rfl
theorem elk70 : elk Try.prog 70 = none := by kernel_rfl
theorem zmb70 : zmb Try.prog 70 = some (.cells [(.lit (.slice none 0 0))] 1 70) := by kernel_rfl
theorem tyc71 : tyc Try.prog 71 = some none := by kernel_rfl
theorem elt71 : elt Try.prog 71 = some (none, 2) := by kernel_rfl
theorem mkz71 : mkz Try.prog 71 = none := by kernel_rfl
theorem mkc71 : mkc Try.prog 71 = some (76, 2, 32, [(.lit (.int .i64 0)), (.lit (.slice none 0 0))]) := by kernel_rfl
theorem apT71 : apT Try.prog 71 = some (76, 2, 32) := by kernel_rfl
theorem elk71 : elk Try.prog 71 = none := by kernel_rfl
theorem zmb71 : zmb Try.prog 71 = some (.cells [(.lit (.slice none 0 0))] 1 71) := by kernel_rfl
theorem tyc73 : tyc Try.prog 73 = some (some 7) := by kernel_rfl
theorem foff73_0 : foff Try.prog 73 0 = some 0 := by kernel_rfl
theorem fpart73_0 : fpart Try.prog 73 0 = some (0, none) := by kernel_rfl
theorem foff73_1 : foff Try.prog 73 1 = some 1 := by kernel_rfl
theorem fpart73_1 : fpart Try.prog 73 1 = some (1, none) := by kernel_rfl
theorem foff73_2 : foff Try.prog 73 2 = some 2 := by kernel_rfl
theorem fpart73_2 : fpart Try.prog 73 2 = some (2, none) := by kernel_rfl
theorem foff73_3 : foff Try.prog 73 3 = some 3 := by kernel_rfl
theorem fpart73_3 : fpart Try.prog 73 3 = some (3, none) := by kernel_rfl
theorem foff73_4 : foff Try.prog 73 4 = some 4 := by kernel_rfl
theorem fpart73_4 : fpart Try.prog 73 4 = some (4, none) := by kernel_rfl
theorem foff73_5 : foff Try.prog 73 5 = some 5 := by kernel_rfl
theorem fpart73_5 : fpart Try.prog 73 5 = some (5, none) := by kernel_rfl
theorem foff73_6 : foff Try.prog 73 6 = some 6 := by kernel_rfl
theorem fpart73_6 : fpart Try.prog 73 6 = some (6, none) := by kernel_rfl
theorem zmb73 : zmb Try.prog 73 = some (.cells [(.lit (.int .i64 0)), (.lit (.slice none 0 0)), (.lit (.slice none 0 0)), (.lit (.slice none 0 0)), (.lit (.int .i64 0)), (.lit (.bool false)), (.lit (.int .i64 0))] 7 73) := by kernel_rfl
theorem bldT73 : bldT Try.prog 73 = some ([(.int .i64 0), (.slice none 0 0), (.slice none 0 0), (.slice none 0 0), (.int .i64 0), (.bool false), (.int .i64 0)], [(0, 1), (1, 1), (2, 1), (3, 1), (4, 1), (5, 1), (6, 1)]) := by kernel_rfl
theorem tyc76 : tyc Try.prog 76 = some (some 2) := by kernel_rfl
theorem foff76_0 : foff Try.prog 76 0 = some 0 := by kernel_rfl
theorem fpart76_0 : fpart Try.prog 76 0 = some (0, none) := by kernel_rfl
theorem foff76_1 : foff Try.prog 76 1 = some 1 := by kernel_rfl
theorem fpart76_1 : fpart Try.prog 76 1 = some (1, none) := by kernel_rfl
theorem zmb76 : zmb Try.prog 76 = some (.cells [(.lit (.int .i64 0)), (.lit (.slice none 0 0))] 2 76) := by kernel_rfl
theorem bldT76 : bldT Try.prog 76 = some ([(.int .i64 0), (.slice none 0 0)], [(0, 1), (1, 1)]) := by kernel_rfl
theorem tyc88 : tyc Try.prog 88 = some none := by kernel_rfl
theorem tyc90 : tyc Try.prog 90 = some none := by kernel_rfl
theorem mth90_68 : mthOf Try.prog 90 "firebell/wire.fail" = some 68 := by kernel_rfl
theorem mth90_61 : mthOf Try.prog 90 "firebell/wire.get" = some 61 := by kernel_rfl
theorem mth90_67 : mthOf Try.prog 90 "firebell/wire.take" = some 67 := by kernel_rfl
theorem con90 : Try.prog.concrete 90 = true := by kernel_rfl
theorem zmb90 : zmb Try.prog 90 = some (.cells [(.lit (.pointer none))] 1 90) := by kernel_rfl
theorem tyc92 : tyc Try.prog 92 = some none := by kernel_rfl
theorem zmb92 : zmb Try.prog 92 = some (.cells [(.lit .nilFunc)] 1 92) := by kernel_rfl
theorem tyc95 : tyc Try.prog 95 = some none := by kernel_rfl
theorem zmb95 : zmb Try.prog 95 = some (.cells [(.lit (.int .u32 0))] 1 95) := by kernel_rfl
theorem tyc100 : tyc Try.prog 100 = some (some 2) := by kernel_rfl
theorem foff100_0 : foff Try.prog 100 0 = some 0 := by kernel_rfl
theorem fpart100_0 : fpart Try.prog 100 0 = some (0, none) := by kernel_rfl
theorem foff100_1 : foff Try.prog 100 1 = some 1 := by kernel_rfl
theorem fpart100_1 : fpart Try.prog 100 1 = some (1, none) := by kernel_rfl
theorem zmb100 : zmb Try.prog 100 = some (.cells [(.lit (.slice none 0 0)), (.lit (.bool false))] 2 100) := by kernel_rfl
theorem bldT100 : bldT Try.prog 100 = some ([(.slice none 0 0), (.bool false)], [(0, 1), (1, 1)]) := by kernel_rfl
theorem tyc101 : tyc Try.prog 101 = some none := by kernel_rfl
theorem tyc103 : tyc Try.prog 103 = some none := by kernel_rfl
theorem zmb103 : zmb Try.prog 103 = some (.cells [(.lit .nilFunc)] 1 103) := by kernel_rfl
theorem tyc104 : tyc Try.prog 104 = some none := by kernel_rfl
theorem zmb104 : zmb Try.prog 104 = some (.cells [(.lit (.int .u64 0))] 1 104) := by kernel_rfl
theorem tyc108 : tyc Try.prog 108 = some none := by kernel_rfl
theorem tyc110 : tyc Try.prog 110 = some (some 16) := by kernel_rfl
theorem elt110 : elt Try.prog 110 = some ((some 16), 1) := by kernel_rfl
theorem arr1110 : arr1 Try.prog 110 = some 16 := by kernel_rfl
theorem zmb110 : zmb Try.prog 110 = some (.zs .u32 [0, 0, 0, 0, 0, 0, 0, 0, 0, 0, 0, 0, 0, 0, 0, 0] 16 110) := by kernel_rfl
theorem bldT110 : bldT Try.prog 110 = some ([(.int .u32 0), (.int .u32 0), (.int .u32 0), (.int .u32 0), (.int .u32 0), (.int .u32 0), (.int .u32 0), (.int .u32 0), (.int .u32 0), (.int .u32 0), (.int .u32 0), (.int .u32 0), (.int .u32 0), (.int .u32 0), (.int .u32 0), (.int .u32 0)], [(0, 1), (1, 1), (2, 1), (3, 1), (4, 1), (5, 1), (6, 1), (7, 1), (8, 1), (9, 1), (10, 1), (11, 1), (12, 1), (13, 1), (14, 1), (15, 1)]) := by kernel_rfl
theorem mixed : Try.prog.follows .mixedOrders = true := by kernel_rfl
end Go.Proofs.Yteoajodoejoccaa
namespace Go.Proofs.Yteoajodoejoccaa
open Go
set_option linter.unusedVariables false
set_option linter.unusedSimpArgs false
section
variable {P : Program} {cx : Cx} {n : Nat} {ops : Array Oper} {H : Hp}
theorem Ok.permH {env : List (Nat × AV)} {H H' : Hp} {a : Act} {w : World} (hp : H.Perm H') (ok : Ok cx n ⟨env, H⟩ a w) : Ok cx n ⟨env, H'⟩ a w :=
  ⟨ok.defers, ok.size, fun t => (ok.reps t).mono fun b hb => ⟨(imm_perm hp).1 hb, rfl⟩, ok.world.perm hp⟩
theorem fresh_app {E H : Hp} (h : ((E ++ H).map (·.1)).Nodup) : ∀ p ∈ E, fresh H p.1 := by
  intro p hp x hx
  rw [List.map_append, List.nodup_append] at h
  have := h.2.2 p.1 (List.mem_map_of_mem hp) x.1 (List.mem_map_of_mem hx)
  exact ⟨fun he => this he.symm, this⟩
def alF (P : Program) (n : Nat) (K : St → Prop) : List Oper → St → Prop
  | [], s => K s
  | o :: r, s => match o with
    | ⟨some t, .alloc T, _, _, _, none⟩ => match zmb P T with
      | some m => t < n ∧ newB s.H m fun b H => alF P n K r ⟨(t, pt b 0) :: s.env, H⟩
      | none => False
    | _ => False
def drawAF (P : Program) (n : Nat) (l : List Oper) (K : St → Prop) (p r : Nat) (s : St) : Prop :=
  dvc P n l.toArray (l.take p) (fun s1 => alF P n (fun s2 => rvc P n l.toArray (l.drop (p + r)) K s2) ((l.drop p).take r) s1) s
end
end Go.Proofs.Yteoajodoejoccaa
namespace Go.Proofs.Yteoajodoejoccaa
open Go
set_option linter.unusedSimpArgs false
set_option linter.unusedVariables false
section
variable {P : Program} {cx : Cx} {n : Nat} {ops : Array Oper} {H : Hp}
def drawSF (P : Program) (n : Nat) (l : List Oper) (K : St → Prop) (is k : Nat) (s : St) : Prop :=
  match l.drop is with
  | ⟨none, .store T a y, _, _, _, none⟩ :: q => match (og s.env a).2 with
    | .lit (.pointer (some ⟨b, off, none⟩)) => match hget s.H b with
      | some m0 => dvc P n l.toArray (l.take is) (fun s2 => (og s2.env a).1 ∧ (og s2.env a).2 = pt b off ∧ (og s2.env y).1 ∧ (stC P T m0 off (og s2.env y).2).1 ∧
          dvc P n l.toArray (q.take (k - is - 1)) (fun s3 => rvc P n l.toArray (q.drop (k - is - 1)) K ⟨s3.env, (b, (stC P T m0 off (og s2.env y).2).2) :: s3.H⟩) s2) ⟨s.env, hdel s.H b⟩
      | none => False
    | _ => False
  | _ => False
end
end Go.Proofs.Yteoajodoejoccaa
namespace Go.Proofs.Yteoajodoejoccaa
open Go
set_option linter.unusedSimpArgs false
set_option linter.unusedVariables false
section
variable {P : Program} {f : FuncId} {args : List AV} {H F F0 R : Hp} {post : AV → Hp → Prop}
theorem DCt.upd {b : Nat} {m : MB} {x : AV} (hg : hget H b = some m) (h : ACt P f args [(b, m)] (fun r F' => r = x ∧ F' = [(b, m)])) : DCt P f args H x :=
  ⟨[(b, m)], hdel H b, _, hget_perm hg, h, fun r F' hr _ => by obtain ⟨e1, e2⟩ := hr; subst e1 e2; exact ⟨rfl, (hget_perm hg).symm⟩⟩
theorem perm1 {b : Nat} {m : MB} (h : hget H b = some m) : H.Perm ([(b, m)] ++ hdel H b) := hget_perm h
theorem perm2 {b1 b2 : Nat} {m1 m2 : MB} (h1 : hget H b1 = some m1) (h2 : hget (hdel H b1) b2 = some m2) : H.Perm ([(b1, m1), (b2, m2)] ++ hdel (hdel H b1) b2) :=
  (hget_perm h1).trans (List.Perm.append_left [(b1, m1)] (hget_perm h2))
theorem perm3 {b1 b2 b3 : Nat} {m1 m2 m3 : MB} (h1 : hget H b1 = some m1) (h2 : hget (hdel H b1) b2 = some m2) (h3 : hget (hdel (hdel H b1) b2) b3 = some m3) : H.Perm ([(b1, m1), (b2, m2), (b3, m3)] ++ hdel (hdel (hdel H b1) b2) b3) :=
  (hget_perm h1).trans (List.Perm.append_left [(b1, m1)] (perm2 h2 h3))
theorem DCt.updN {x : AV} (hP : H.Perm (F ++ R)) (h : ACt P f args F (fun r F' => r = x ∧ F' = F)) : DCt P f args H x :=
  ⟨F, R, _, hP, h, fun r F' hr _ => by obtain ⟨e1, e2⟩ := hr; subst e1 e2; exact ⟨rfl, hP.symm⟩⟩
theorem CallV.updN {x : AV} (hP : H.Perm (F ++ R)) (h : ACt P f args F (fun r F' => r = x ∧ F' = F0)) (hp : post x (F0 ++ R)) : CallV P f args H post :=
  ⟨F, R, _, hP, h, fun r F' hr _ => by obtain ⟨e1, e2⟩ := hr; subst e1 e2; exact hp⟩
theorem fresh_perm {b : Nat} {m : MB} (hP : H.Perm (F ++ R)) (hk : F0.map (·.1) = F.map (·.1)) (hn : ((((b, m) :: F0) ++ R).map (·.1)).Nodup) : fresh H b := by
  intro p hp
  have hp' := hP.mem_iff.1 hp
  simp only [List.cons_append, List.map_cons, List.nodup_cons, List.map_append, List.mem_append] at hn
  have hne : p.1 ≠ b := by
    rintro rfl
    rcases List.mem_append.1 hp' with h | h
    · exact hn.1 (.inl (by rw [hk]; exact List.mem_map_of_mem h))
    · exact hn.1 (.inr (List.mem_map_of_mem h))
  exact ⟨hne, Ne.symm hne⟩
theorem CallV.new2 {x : Nat → Nat → AV} {m1 m2 : Nat → Nat → MB} (hP : H.Perm (F ++ R)) (h : ACt P f args F (fun r F' => ∃ b c, r = x b c ∧ F' = (b, m1 b c) :: (c, m2 b c) :: F0)) (hk : F0.map (·.1) = F.map (·.1))
    (hp : Nu fun b => Nu fun c => Fr ((b ≠ c ∧ c ≠ b) ∧ fresh H b ∧ fresh H c) (post (x b c) ((b, m1 b c) :: (c, m2 b c) :: (F0 ++ R)))) : CallV P f args H post :=
  ⟨F, R, _, hP, h, fun r F' hr hn => by
    obtain ⟨b, c, e1, e2⟩ := hr
    subst e1 e2
    have hc : fresh H c := by
      refine fresh_perm (m := m2 b c) hP hk ?_
      simp only [List.cons_append, List.map_cons, List.nodup_cons] at hn ⊢
      exact hn.2
    have hb : fresh H b := by
      refine fresh_perm (m := m1 b c) hP hk ?_
      simp only [List.cons_append, List.map_cons, List.nodup_cons, List.mem_cons] at hn ⊢
      exact ⟨fun hm => hn.1 (.inr hm), hn.2.2⟩
    have hbc : b ≠ c := by
      rintro rfl
      simp only [List.cons_append, List.map_cons, List.nodup_cons, List.mem_cons] at hn
      exact hn.1 (by simp)
    exact ((hp.out b).out c).out ⟨⟨hbc, Ne.symm hbc⟩, hb, hc⟩⟩
theorem CallV.ex {Γ : Type} {x : Γ → AV} {m : Γ → Hp} (hP : H.Perm (F ++ R)) (h : ACt P f args F (fun r F' => ∃ g, r = x g ∧ F' = m g)) (hp : ∀ g, post (x g) (m g ++ R)) : CallV P f args H post :=
  ⟨F, R, _, hP, h, fun r F' hr _ => by obtain ⟨g, e1, e2⟩ := hr; subst e1 e2; exact hp g⟩
theorem ExF.up {K : AV → Prop} {x : AV} (hP : ∃ R, H.Perm (F ++ R)) (h : ACt P f args F (fun r F' => r = x ∧ F' = F)) (hk : K x) : ExF P f args H K := let ⟨_, hP⟩ := hP; ExF.on (DCt.updN hP h) hk
theorem ExG.up {c : Bool} {K : AV → Prop} {x : AV} (hP : ∃ R, H.Perm (F ++ R)) (h : c = true → ACt P f args F (fun r F' => r = x ∧ F' = F)) (hk : K x) : ExG c P f args H K := let ⟨_, hP⟩ := hP; ExG.on (fun hc => DCt.updN hP (h hc)) hk
theorem ExG.upJ {c : Bool} {K : AV → Prop} {x : AV} {q : Prop} (hP : ∃ R, H.Perm (F ++ R)) (h : c = true → ACt P f args F (fun r F' => r = x ∧ F' = F)) (hk : K x) : ExG c P f args H K ∨ q := .inl (ExG.up hP h hk)
theorem ExG.upI {c : Bool} {K : AV → Prop} {x : AV} {q ob : Prop} (hP : ∃ R, H.Perm (F ++ R)) (h : c = true → ACt P f args F (fun r F' => r = x ∧ F' = F)) (ho : ob) (hk : K x) : (ob ∧ ExG c P f args H K) ∨ q := .inl ⟨ho, ExG.up hP h hk⟩
theorem CallV.updM {f : FuncId} {args : List AV} {H F F0 R : Hp} {post : AV → Hp → Prop} {x : AV} (h : ACt P f args F (fun r F' => r = x ∧ F' = F0)) (hP : H.Perm (F ++ R)) (hp : post x (F0 ++ R)) : CallV P f args H post := CallV.updN hP h hp
theorem CallV.exM {f : FuncId} {args : List AV} {H F R : Hp} {post : AV → Hp → Prop} {Γ : Type} {x : Γ → AV} {m : Γ → Hp} (h : ACt P f args F (fun r F' => ∃ g, r = x g ∧ F' = m g)) (hP : H.Perm (F ++ R)) (hp : ∀ g, post (x g) (m g ++ R)) : CallV P f args H post := CallV.ex hP h hp
end
end Go.Proofs.Yteoajodoejoccaa
namespace Go.Proofs.Yteoajodoejoccaa
open Go
set_option linter.unusedSimpArgs false
set_option linter.unusedVariables false
section
variable {P : Program} {cx : Cx} {n : Nat} {ops : Array Oper}
def ECt (P : Program) (f : FuncId) (args : List AV) (E : Hp) (x : AV) (E' : Hp) : Prop :=
  ∃ F R F0, E.Perm (F ++ R) ∧ E' = F0 ++ R ∧ F0.map (·.1) = F.map (·.1) ∧ ACt P f args F (fun r F' => r = x ∧ F' = F0)
def calleeV (env : List (Nat × AV)) : Op → Option (Prop × FuncId × List AV)
  | .call c => match c.callee with
    | .value (.func f) => some ((ogs env c.args.toList).1, f, (ogs env c.args.toList).2)
    | _ => none
  | _ => none
def ExW (P : Program) (f : FuncId) (args : List AV) (E : Hp) (K : AV → Hp → Prop) (d : Hd K := .mk) : Prop := ∃ x E', ECt P f args E x E' ∧ K x E'
theorem ExW.mk {f : FuncId} {args : List AV} {E F R F0 : Hp} {K : AV → Hp → Prop} {x : AV} (hP : E.Perm (F ++ R)) (h : ACt P f args F (fun r F' => r = x ∧ F' = F0)) (hk : F0.map (·.1) = F.map (·.1)) (hK : K x (F0 ++ R)) : ExW P f args E K :=
  ⟨x, F0 ++ R, ⟨F, R, F0, hP, rfl, hk, h⟩, hK⟩
def xst (P : Program) (ops : Array Oper) (H : Hp) (o : Oper) (env : List (Nat × AV)) (K : AV → Prop) : Prop :=
  match o.guard with
  | none => match pev P H env o.op with
    | some r => r.1 ∧ K r.2
    | none => match calleeOf P env o.op with
      | some q => q.1 ∧ ExF P q.2.1 q.2.2 H fun x => K x
      | none => False
  | some (j, want) => match gdOf env ops j want with
    | some c => match pev P H env o.op with
      | some r => (c = true → r.1) ∧ K (.gd c r.2)
      | none => match calleeOf P env o.op with
        | some q => (c = true → q.1) ∧ ExG c P q.2.1 q.2.2 H fun x => K (.gd c x)
        | none => False
    | none => False
theorem xst_stdy {o : Oper} {env : List (Nat × AV)} {H : Hp} {K : AV → Prop} (hd : okd n o.dst) (h : xst P ops H o env K) : ∃ x, Stdy P cx n ops o env H x ∧ StdyE P cx n ops o env H x ∧ K x := by
  unfold xst at h
  split at h
  · rename_i hg
    split at h
    · rename_i r hr
      exact ⟨r.2, stdy_pev hd hg hr h.1, fun E hE => stdy_pev hd hg (pev_app hE hr h.1) h.1, h.2⟩
    · split at h
      · rename_i q hq
        obtain ⟨hob, x, h1, h2⟩ := h
        exact ⟨x, stdy_call hd hg (dcall_of (s := ⟨env, H⟩) hq hob h1), fun E hE => stdy_call hd hg (dcall_app (dcall_of (s := ⟨env, H⟩) hq hob h1)), h2⟩
      · exact h.elim
  · rename_i j want hg
    split at h
    · rename_i c hc
      split at h
      · rename_i r hr
        refine ⟨_, stdy_pevG hd hg hc hr h.1, fun E hE => ?_, h.2⟩
        by_cases hct : c = true
        · exact stdy_pevG hd hg hc (pev_app hE hr (h.1 hct)) h.1
        · refine ⟨hd, fun a w X R h1 h2 h3 h4 h5 => ?_⟩
          have ok := ok_renv h1 h2 h3 h4
          rw [wanted_of_gd ok hg (by rw [gdOf_renv hg]; exact hc)]
          rw [if_neg hct]
          have hcf : c = false := by cases c <;> simp_all
          subst hcf
          exact h5 undef w (.gdf _) h3 fun c hc => ⟨hc, rfl⟩
      · split at h
        · rename_i q hq
          obtain ⟨hob, x, h1, h2⟩ := h
          exact ⟨_, stdy_callG hd hg hc fun hct => dcall_of (s := ⟨env, H⟩) hq (hob hct) (h1 hct), fun E hE => stdy_callG hd hg hc fun hct => dcall_app (dcall_of (s := ⟨env, H⟩) hq (hob hct) (h1 hct)), h2⟩
        · exact h.elim
    · exact h.elim
def xvc (P : Program) (n : Nat) (ops : Array Oper) (ws ls : List Nat) (H0 : Hp) : Nat → List Oper → (List (Nat × AV) → Hp → Prop) → List (Nat × AV) → Hp → Prop
  | _, [], K, env, E => K env E
  | i, o :: rest, K, env, E => okd n o.dst ∧
    if i ∈ ws then o.guard = none ∧ match o.op with
      | .store T ad y => match (og env ad).2 with
        | .lit (.pointer (some ⟨b, off, none⟩)) => match hget E b with
          | some m => (og env ad).1 ∧ (og env y).1 ∧ (stC P T m off (og env y).2).1 ∧ xvc P n ops ws ls H0 (i + 1) rest K (putE env o.dst (.lit undef)) (hset E b (stC P T m off (og env y).2).2)
          | none => False
        | _ => False
      | _ => match calleeV env o.op with
        | some q => q.1 ∧ ExW P q.2.1 q.2.2 E fun x E' => xvc P n ops ws ls H0 (i + 1) rest K (putE env o.dst x) E'
        | none => False
    else xst P ops (if i ∈ ls then E ++ H0 else H0) o env fun x => xvc P n ops ws ls H0 (i + 1) rest K (putE env o.dst x) E
theorem SeqG.cons {C : Nat → Oper → AV → List (Nat × AV) → Prop} {o : Oper} {x : AV} {r : List (Oper × AV)} {env : List (Nat × AV)} (h0 : C 0 o x env) (h : SeqG (fun i => C (i + 1)) r (putE env o.dst x)) : SeqG C ((o, x) :: r) env := by
  have := SeqG.app (C := C) (A := [(o, x)]) (B := r) (env := env) (SeqG.one h0) (by
    simp only [envL, if_true, List.length_cons, List.length_nil]
    have e : (fun i => C (0 + 1 + i)) = fun i => C (i + 1) := by funext i; rw [show 0 + 1 + i = i + 1 by omega]
    rw [e]; exact h)
  exact this
/-! ### The order -/
theorem reach_of_ready {listed : Array Bool} (hc : Closed ops listed) {f i j : Nat} (hi : i ∈ Region.ready .any ops listed) (h : reach ops f i j = true) : listed.getD j false = true :=
  reach_listed hc f i j h fun oi' ho' m hw => ready_waits hi ho' hw
/-! ### Ahead of the parting, the parting, behind it -/
theorem head_to {k : Nat} {R : Exit → Act → World → Prop} {Inv : Array Bool → Act → World → Prop} (hle : k ≤ ops.size) (hback : ∀ (i : Nat) oi, ops[i]? = some oi → ∀ e ∈ oi.after, Region.binds .any e = true → e.on < i)
    (htail : ∀ listed a w, Inv listed a w → ∀ i, k ≤ i → i ∈ Region.ready .any ops listed → ∀ j, j < k → listed.getD j false = true)
    (hcl : ∀ listed a w, Inv listed a w → Closed ops listed) (hsz : ∀ listed a w, Inv listed a w → listed.size = ops.size)
    (hstep : ∀ listed a w i (X : Act → World → Prop), Inv listed a w → i ∈ Region.ready .any ops listed → i < k → (∀ a' w', Inv (listed.setIfInBounds i true) a' w' → X a' w') → wpOp P ops R i X a w) {g : Nat}
    (hfin : ∀ listed a w, Inv listed a w → (∀ j, j < k → listed.getD j false = true) → wpAny P .any ops R g listed a w) :
    ∀ (u : Nat) (listed : Array Bool) (a : Act) (w : World), ((List.range k).filter fun i => !listed.getD i false).length = u → Inv listed a w → wpAny P .any ops R (u + g) listed a w
  | 0, listed, a, w, hu, inv => by
    rw [Nat.zero_add]
    refine hfin listed a w inv fun j hj => ?_
    have := List.eq_nil_of_length_eq_zero hu
    rw [List.filter_eq_nil_iff] at this
    simpa using this j (List.mem_range.2 hj)
  | u + 1, listed, a, w, hu, inv => by
    have hls := hsz _ _ _ inv
    rw [show u + 1 + g = (u + g) + 1 by omega]
    obtain ⟨m, hm1, hm2⟩ : ∃ m, m < k ∧ listed.getD m false = false := by
      cases hf : ((List.range k).filter fun i => !listed.getD i false) with
      | nil => rw [hf] at hu; cases hu
      | cons m r =>
        have : m ∈ (List.range k).filter fun i => !listed.getD i false := by rw [hf]; exact List.mem_cons_self ..
        rw [List.mem_filter] at this
        exact ⟨m, List.mem_range.1 this.1, by simpa using this.2⟩
    obtain ⟨i0, h1, h2, h3⟩ := least (p := fun i => listed.getD i false) hm2
    have hi0 : i0 < ops.size := by omega
    have hready0 : i0 ∈ Region.ready .any ops listed := by
      refine mem_ready.2 ⟨by rw [getD_bool (by rw [hls]; exact hi0)]; exact h2, ops[i0], Array.getElem?_eq_getElem hi0, fun e he hb => h3 _ (hback i0 _ (Array.getElem?_eq_getElem hi0) e he hb)⟩
    refine ⟨fun h => (by rw [h] at hready0; cases hready0), fun i hi => ?_⟩
    obtain ⟨hun, oi, hoi, _⟩ := mem_ready.1 hi
    have hilt : i < ops.size := (Array.getElem?_eq_some_iff.1 hoi).1
    have hik : i < k := by
      rcases Nat.lt_or_ge i k with h | h
      · exact h
      · have := htail listed a w inv i h hi m hm1
        rw [hm2] at this
        cases this
    have hun' : listed.getD i false = false := by rw [← getD_bool (by rw [hls]; exact hilt)]; exact hun
    refine hstep listed a w i _ inv hi hik fun a' w' inv' => head_to hle hback htail hcl hsz hstep hfin u _ a' w' ?_ inv'
    have hcount : ∀ (l : List Nat), l.Nodup → i ∈ l → (l.filter fun j => !listed.getD j false).length = ((l.filter fun j => !(listed.setIfInBounds i true).getD j false).length) + 1 := by
      intro l
      induction l with
      | nil => intro _ h; cases h
      | cons c r ih =>
        intro hn hmem
        simp only [List.nodup_cons] at hn
        by_cases hci : c = i
        · subst hci
          have hset : (listed.setIfInBounds c true).getD c false = true := by
            have : c < listed.size := by rw [hls]; exact hilt
            simp [this]
          have hrest : (r.filter fun j => !listed.getD j false) = r.filter fun j => !(listed.setIfInBounds c true).getD j false := by
            refine List.filter_congr fun j hj => ?_
            have : j ≠ c := fun h => hn.1 (h ▸ hj)
            rw [getD_set_ne false (Ne.symm this)]
          rw [List.filter_cons, List.filter_cons, hun', hset, hrest]
          simp
        · have hmem' : i ∈ r := by rcases List.mem_cons.1 hmem with h | h; exact absurd h.symm hci; exact h
          have := ih hn.2 hmem'
          rw [List.filter_cons, List.filter_cons, getD_set_ne false (Ne.symm hci)]
          split
          · simp only [List.length_cons]; omega
          · exact this
    have := hcount (List.range k) List.nodup_range (List.mem_range.2 hik)
    omega
theorem Stdy.congr {o : Oper} {env env' : List (Nat × AV)} {H : Hp} {x : AV} (h : ∀ t, look env t = look env' t) (hS : Stdy P cx n ops o env H x) : Stdy P cx n ops o env' H x :=
  ⟨hS.1, fun a w X R h1 h2 h3 h4 h5 => hS.2 a w X R h1 h2 h3 (fun t ht => by rw [h t]; exact h4 t ht) h5⟩
theorem count_gt (c : Nat) : ∀ N, ((List.range N).filter fun i => !decide (i ≤ c)).length = N - (c + 1)
  | 0 => by simp
  | N + 1 => by
    rw [List.range_succ, List.filter_append, List.length_append, count_gt c N]
    by_cases h : N ≤ c
    · simp [h]; omega
    · simp [h]; omega
def splitH : List Nat → Hp → Option (Hp × Hp)
  | [], H => some ([], H)
  | b :: bs, H => match hget H b with
    | some m => match splitH bs (hdel H b) with
      | some q => some ((b, m) :: q.1, q.2)
      | none => none
    | none => none
theorem splitH_perm : ∀ {bs : List Nat} {H : Hp} {q : Hp × Hp}, splitH bs H = some q → H.Perm (q.1 ++ q.2)
  | [], H, q, h => by cases h; exact .refl _
  | b :: bs, H, q, h => by
    unfold splitH at h
    split at h
    · rename_i m hm
      split at h
      · rename_i q' hq'
        cases h
        exact (hget_perm hm).trans (List.Perm.cons _ (splitH_perm hq'))
      · cases h
    · cases h
def drawCF (P : Program) (n : Nat) (l : List Oper) (K : St → Prop) (c : Nat) (ws ls bs : List Nat) (s : St) : Prop :=
  match splitH bs s.H with
  | some q => xvc P n l.toArray ws ls q.2 0 (l.take c) (fun env E => match l.drop c with
    | o :: r => okd n o.dst ∧ o.guard = none ∧ eff P o (fun s' => dvc P n l.toArray r K s') ⟨env, E ++ q.2⟩
    | [] => False) s.env q.1
  | none => False
end
end Go.Proofs.Yteoajodoejoccaa
namespace Go.Proofs.Yteoajodoejoccaa
open Go
set_option linter.unusedSimpArgs false
set_option linter.unusedVariables false
section
variable {P : Program} {cx : Cx} {n : Nat} {ops : Array Oper} {H : Hp}
theorem tail_to {k0 : Nat} (hback : ∀ (i : Nat) oi, ops[i]? = some oi → ∀ e ∈ oi.after, Region.binds .any e = true → e.on < i) (hr : ∀ i, k0 ≤ i → i < ops.size → ∀ j, k0 ≤ j → j < i → reach ops 12 i j = true) {R : Exit → Act → World → Prop} :
    ∀ (l : List Oper) (k : Nat) (listed : Array Bool) (a : Act) (w : World), k0 ≤ k → (∀ j, l[j]? = ops[k + j]?) → k + l.length = ops.size →
    listed.size = ops.size → (∀ j, j < ops.size → listed.getD j false = decide (j < k)) → wpList P ops R l a w → wpAny P .any ops R l.length listed a w
  | [], k, listed, a, w, hk, hl, hsz, hls, hlist, h => by
    refine ⟨?_, h⟩
    refine List.eq_nil_iff_forall_not_mem.2 fun j hj => ?_
    obtain ⟨h1, o, ho, _⟩ := mem_ready.1 hj
    have hjlt : j < ops.size := (Array.getElem?_eq_some_iff.1 ho).1
    have := hlist j hjlt
    rw [getD_bool (by omega), this] at h1
    simp at h1
    simp at hsz
    omega
  | o :: l, k, listed, a, w, hk, hl, hsz, hls, hlist, h => by
    have h0 : ops[k]? = some o := by simpa using (hl 0).symm
    have hklt : k < ops.size := (Array.getElem?_eq_some_iff.1 h0).1
    have hready : k ∈ Region.ready .any ops listed := by
      refine mem_ready.2 ⟨?_, o, h0, fun e he hb => ?_⟩
      · rw [getD_bool (by omega), hlist k hklt]; simp
      · have := hback k o h0 e he hb
        rw [hlist _ (by omega)]; simp; exact this
    refine ⟨fun h1 => (by rw [h1] at hready; cases hready), fun i hi => ?_⟩
    have hik : i = k := by
      obtain ⟨h1, oi, hoi, _⟩ := mem_ready.1 hi
      have hilt : i < ops.size := (Array.getElem?_eq_some_iff.1 hoi).1
      rw [getD_bool (by omega), hlist i hilt] at h1
      simp at h1
      by_cases h2 : i = k
      · exact h2
      · have hcl : Closed ops listed := fun j oj hj hl c hw => by
          obtain ⟨e, he, hb, rfl⟩ := waits_spec hw
          have h3 := hback j oj hj e he hb
          have h4 : j < ops.size := (Array.getElem?_eq_some_iff.1 hj).1
          rw [hlist j h4] at hl
          simp at hl
          rw [hlist _ (by omega)]
          simp; omega
        have := reach_of_ready hcl hi (hr i (by omega) hilt k hk (by omega))
        rw [hlist k hklt] at this
        simp at this
    subst hik
    have hw : wpOp P ops R i (wpList P ops R l) a w := by unfold wpOp; simp only [h0]; exact h
    refine wpOp_mono (fun a' w' h' => tail_to hback hr l (i + 1) _ a' w' (by omega) (fun j => by have := hl (j + 1); simpa [Nat.add_assoc, Nat.add_comm 1 j] using this) (by simp at hsz; omega) (by simp [hls]) (fun j hj => ?_) h') hw
    by_cases hji : j = i
    · subst hji
      have : j < listed.size := by omega
      simp [this]
    · rw [getD_set_ne false (Ne.symm hji), hlist j hj, Bool.eq_iff_iff]
      simp
      omega
def mkS (P : Program) (env : List (Nat × AV)) : Op → Option (Prop × MB × Nat)
  | .buildSlice T len parts => match apT P T with
    | some (e, sz, _) => match fillA (plN sz len 0) (List.replicate (len * sz) .any) (ogp env parts.toList).2 with
      | some cs => some ((ogp env parts.toList).1 ∧ len * sz ≤ 16777216, rowMB (elk P T) cs (len * sz) e, len)
      | none => none
    | none => none
  | _ => none
theorem mkS_congr {env env' : List (Nat × AV)} {op : Op} (h : ∀ x ∈ op.operands, opd env x = opd env' x) : mkS P env op = mkS P env' op := by
  cases op <;> try rfl
  rename_i T len parts
  have : ogp env parts.toList = ogp env' parts.toList := ogp_congr fun x hx => h x.2 (by simp [Op.operands]; exact ⟨x.1, by simpa using hx⟩)
  simp only [mkS, this]
theorem mkS_eff {s : St} {o : Oper} {K : St → Prop} {c : Prop} {m : MB} {len : Nat} (h : mkS P s.env o.op = some (c, m, len)) (hc : c) (hk : ∀ b, fresh s.H b → K ⟨(s.put o.dst (ms b 0 len len)).env, (b, m) :: s.H⟩) : eff P o K s := by
  unfold mkS at h
  split at h
  · rename_i T len' parts hop
    split at h
    · rename_i e sz by_ hT
      split at h
      · rename_i cs hcs
        simp only [Option.some.injEq, Prod.mk.injEq] at h
        obtain ⟨rfl, rfl, rfl⟩ := h
        unfold eff
        rw [hop]
        simp only [hT, hcs]
        exact ⟨hc.1, hc.2, ⟨fun b => ⟨fun hf => hk b hf⟩⟩⟩
      · cases h
    · cases h
  · cases h
structure QM where
  ia : Nat
  t : Nat
  len : Nat
  m : MB
def SeqM (P : Program) (cx : Cx) (n : Nat) (ops : Array Oper) (H : Hp) (k : Nat) (lx : List (Oper × AV)) (env : List (Nat × AV)) (q : QM) : Prop :=
  SeqG (fun i o x env => 0 < i → i < k → if i = q.ia then o.guard = none ∧ x = .any ∧ o.dst = some q.t ∧ q.t < n ∧ ∃ c, mkS P env o.op = some (c, q.m, q.len) ∧ c
    else StdyE P cx n ops o env H x) lx env
structure DInvM (cx : Cx) (n : Nat) (ops : Array Oper) (lx : List (Oper × AV)) (env : List (Nat × AV)) (H : Hp) (k : Nat) (q : QM) (listed : Array Bool) (a : Act) (w : World) : Prop where
  lsize : listed.size = ops.size
  closed : Closed ops listed
  zero : listed.getD 0 false = true
  behind : ∀ j, k ≤ j → listed.getD j false = false
  ph : (listed.getD q.ia false = false ∧ DInv cx n ops lx env H listed a w) ∨
    (listed.getD q.ia false = true ∧ ∃ b, fresh H b ∧ a.tmps.getD q.t undef = .slice (some ⟨b, 0, none⟩) q.len q.len ∧ DInv cx n ops lx env ((b, q.m) :: H) listed a w)
theorem dinvM_step {k : Nat} {lx : List (Oper × AV)} {env : List (Nat × AV)} {q : QM} {listed : Array Bool} {a : Act} {w : World} {i : Nat} (hD : DrawOk ops lx.length) (hlx : ∀ (j : Nat) o x, lx[j]? = some (o, x) → ops[j]? = some o)
    (hS : SeqM P cx n ops H k lx env q) (hsole : ∀ j o x, lx[j]? = some (o, x) → j < k → o.dst = some q.t → j = q.ia) (h0 : 0 < q.ia) (hkl : k ≤ lx.length)
    (inv : DInvM cx n ops lx env H k q listed a w) (hi : i ∈ Region.ready .any ops listed) (hik : i < k) {R : Exit → Act → World → Prop} {X : Act → World → Prop}
    (hX : ∀ a' w', DInvM cx n ops lx env H k q (listed.setIfInBounds i true) a' w' → X a' w') : wpOp P ops R i X a w := by
  obtain ⟨⟨o, x⟩, hp⟩ : ∃ p, lx[i] = p := ⟨_, rfl⟩
  have hli : lx[i]? = some (o, x) := by rw [List.getElem?_eq_getElem (by omega), hp]
  have hoi := hlx i o x hli
  have hilt : i < ops.size := (Array.getElem?_eq_some_iff.1 hoi).1
  have hun : listed.getD i false = false := by
    have := (mem_ready.1 hi).1
    rwa [getD_bool (by rw [inv.lsize]; exact hilt)] at this
  have hi0 : 0 < i := by
    apply Classical.byContradiction; intro hn
    have : i = 0 := by omega
    subst this
    rw [inv.zero] at hun; cases hun
  have hSi := hS i o x hli hi0 hik
  have hset : ∀ j, (listed.setIfInBounds i true).getD j false = if j = i then true else listed.getD j false := by
    intro j
    by_cases hji : j = i
    · subst hji
      have : j < listed.size := by rw [inv.lsize]; exact hilt
      simp [this]
    · rw [if_neg hji, getD_set_ne false (Ne.symm hji)]
  have hls : (listed.setIfInBounds i true).size = ops.size := by simp [inv.lsize]
  have hz : (listed.setIfInBounds i true).getD 0 false = true := by rw [hset, if_neg (by omega)]; exact inv.zero
  have hbh : ∀ j, k ≤ j → (listed.setIfInBounds i true).getD j false = false := fun j hj => by rw [hset, if_neg (by omega)]; exact inv.behind j hj
  have hcl := closed_set inv.closed hi
  by_cases hia : i = q.ia
  · rw [if_pos hia] at hSi
    obtain ⟨hg, rfl, hdt, htn, c, hmk, hc⟩ := hSi
    rcases inv.ph with ⟨h1, hinv⟩ | ⟨h1, _⟩
    · have hlook := dinv_look hD hlx hinv hi hli
      have hmk' : mkS P (envL (fun j => listed.getD j false) lx 0 env) o.op = some (c, q.m, q.len) := by
        rw [← hmk]
        refine mkS_congr fun z hz => opd_congr fun t ht => ?_
        subst ht
        exact hlook t (by unfold Oper.looksAt; exact List.mem_append_left _ (List.mem_filterMap.2 ⟨Operand.tmp t, by simpa using hz, rfl⟩))
      have he : eff P o (fun s' => ∃ b, fresh H b ∧ s' = ⟨putE (envL (fun j => listed.getD j false) lx 0 env) o.dst (ms b 0 q.len q.len), (b, q.m) :: H⟩) ⟨envL (fun j => listed.getD j false) lx 0 env, H⟩ :=
        mkS_eff hmk' hc fun b hb => ⟨b, hb, by rw [put_eq]⟩
      unfold wpOp
      rw [hoi]
      simp only
      rw [if_pos (by simp [Region.wanted, hg])]
      refine .inl ?_
      refine eff_sound (cx := cx) (by rw [hdt]; exact htn) he _ _ (fun s' a' w' hs' ok' => ?_) a w hinv.ok
      obtain ⟨b, hb, rfl⟩ := hs'
      refine hX _ _ ⟨hls, hcl, hz, hbh, .inr ⟨by rw [hset, if_pos hia.symm], b, hb, ?_, hls, hcl, fun t ht ht' => ?_, ok'.defers, ok'.size, fun t => ?_, ok'.world⟩⟩
      · have := ok'.reps q.t
        rw [hdt] at this
        simp only [putE, look, if_true] at this
        exact this.lit_inv
      · rw [getD_set_ne true (by omega)]; exact hinv.tail t ht ht'
      · by_cases ht : t = q.t
        · have e : look (envL (fun j => (listed.setIfInBounds i true).getD j false) lx 0 env) t = .any := by
            rw [ht, ← envL_at lx 0 i env o .any hli hdt]
            refine envL_congr lx 0 env env rfl fun j oj xj hj hdj => ?_
            rw [Nat.zero_add, hset]
            by_cases hjk : j < k
            · have hji := hsole j oj xj hj hjk hdj
              rw [if_pos (by omega)]
              simp; omega
            · rw [if_neg (by omega), inv.behind j (by omega)]
              simp; omega
          rw [e]; exact .any _
        · have := ok'.reps t
          rw [hdt] at this
          simp only [putE, look, if_neg ht] at this
          have e : look (envL (fun j => (listed.setIfInBounds i true).getD j false) lx 0 env) t = look (envL (fun j => listed.getD j false) lx 0 env) t := by
            refine envL_congr lx 0 env env rfl fun j oj xj hj hdj => ?_
            rw [Nat.zero_add, hset]
            by_cases hji : j = i
            · subst hji
              rw [hli] at hj
              cases hj
              rw [hdt] at hdj
              exact absurd (Option.some.inj hdj).symm ht
            · rw [if_neg hji]
          rw [e]; exact this
    · rw [hia, h1] at hun; cases hun
  · rw [if_neg hia] at hSi
    have hnt : ∀ v, (a.put o.dst v).tmps.getD q.t undef = a.tmps.getD q.t undef := by
      intro v
      cases hdd : o.dst with
      | none => rfl
      | some d =>
        have : d ≠ q.t := fun h => hia (hsole i o x hli hik (by rw [hdd, h]))
        simp [Act.put, Array.getElem?_setIfInBounds_ne this]
    have e : (listed.setIfInBounds i true).getD q.ia false = listed.getD q.ia false := by rw [hset, if_neg (fun h => hia h.symm)]
    rcases inv.ph with ⟨h1, hinv⟩ | ⟨h1, b, hfr, hb, hinv⟩
    · exact dinv_stepS hD hlx hli (by simpa using hSi [] (by simp)) hinv hi fun v w' hd => hX _ _ ⟨hls, hcl, hz, hbh, .inl ⟨by rw [e]; exact h1, hd⟩⟩
    · exact dinv_stepS hD hlx hli (hSi _ (fresh_one hfr)) hinv hi fun v w' hd => hX _ _ ⟨hls, hcl, hz, hbh, .inr ⟨by rw [e]; exact h1, b, hfr, by rw [hnt]; exact hb, hd⟩⟩
def drawMF (P : Program) (n : Nat) (l : List Oper) (K : St → Prop) (ia k : Nat) (s : St) : Prop :=
  match l with
  | ⟨some d, .move (.tmp x), _, _, _, none⟩ :: l1 => d < n ∧ dvc P n l.toArray (l1.take (ia - 1)) (fun s1 => match l1.drop (ia - 1) with
    | ⟨some t, op, _, _, _, none⟩ :: r => match mkS P s1.env op with
      | some q => t < n ∧ q.1 ∧ dvc P n l.toArray (r.take (k - ia - 1)) (fun s3 => newB s3.H q.2.1 fun b H => rvc P n l.toArray (r.drop (k - ia - 1)) K ⟨(t, ms b 0 q.2.2 q.2.2) :: s3.env, H⟩) ⟨(t, .any) :: s1.env, s1.H⟩
      | none => False
    | _ => False) ⟨(d, look s.env x) :: s.env, s.H⟩
  | _ => False
def firstB (ops : Array Oper) : Bool :=
  match ops[0]? with
  | some o => o.after.all (fun e => !Region.binds .any e) && (List.range ops.size).all fun j => match ops[j]? with
    | some oj => decide (j = 0) || waits oj 0 || o.apart ops oj
    | none => false
  | none => false
def isBS : Option Oper → Bool
  | some o => match o.op with
    | .buildSlice _ _ _ => true
    | _ => false
  | none => false
def isMv : Option Oper → Bool
  | some o => match o.op with
    | .move _ => true
    | _ => false
  | none => false
def tailB (ops : Array Oper) (ia k : Nat) (l : List Oper) : Bool :=
  decide (0 < ia) && decide (ia < k) && decide (k ≤ ops.size) && ((List.range ops.size).all fun i => decide (i < k) || (List.range i).all fun j => decide (j = 0) || reach ops 12 i j) &&
    ((List.range k).all fun j => decide (j = ia) || !((l[j]?).bind (·.dst) == (l[ia]?).bind (·.dst))) &&
    isBS (l[ia]?) && isMv (l[0]?)
theorem WP.drawMk {id ia k : Nat} {l : List Oper} {Q : Exit → St → Prop} {s : St} (hm : P.follows .mixedOrders = true) (hB : drawB l.toArray l.length = true) (hF : firstB l.toArray = true) (hT : tailB l.toArray ia k l = true) (hN : Region.noSelect l.toArray = true)
    (h : drawMF P n l (Q .normal) ia k s) : WP P cx n (.region id l.toArray true) Q s := by
  intro a w ok
  have hD : DrawOk l.toArray l.toArray.size := by have := drawB_spec hB; simpa using this
  unfold tailB at hT
  simp only [Bool.and_eq_true, decide_eq_true_eq] at hT
  obtain ⟨⟨⟨⟨⟨⟨hia0, hiak⟩, hks⟩, hreach⟩, hso⟩, hbs⟩, hmv⟩ := hT
  clear hbs hmv
  have hr : ∀ i, k ≤ i → i < l.toArray.size → ∀ j, 0 < j → j < i → reach l.toArray 12 i j = true := fun i hi his j hj hji => by
    have := List.all_eq_true.1 hreach i (List.mem_range.2 his)
    rw [Bool.or_eq_true] at this
    rcases this with h | h
    · have := of_decide_eq_true h; omega
    · have := List.all_eq_true.1 h j (List.mem_range.2 hji)
      rw [Bool.or_eq_true] at this
      rcases this with h | h
      · have := of_decide_eq_true h; omega
      · exact h
  unfold drawMF at h
  split at h
  case h_2 => exact h.elim
  rename_i d x ty0 p0 af0 l1
  obtain ⟨o0, ho0⟩ : ∃ o0 : Oper, o0 = ⟨some d, .move (.tmp x), ty0, p0, af0, none⟩ := ⟨_, rfl⟩
  rw [← ho0] at h hB hF hks hreach hso hr hD hN ⊢
  obtain ⟨hdn, h⟩ := h
  obtain ⟨xs1, x1, S1, K1⟩ := dvc_seqvE (cx := cx) _ _ h
  simp only at K1 S1
  split at K1
  case h_2 => exact K1.elim
  rename_i t op ty1 p1 af1 r hr1
  split at K1
  case h_2 => exact K1.elim
  rename_i q hmk
  obtain ⟨hq1, hq2, K1⟩ := K1
  obtain ⟨xs3, x3, S3, K3⟩ := dvc_seqvE (cx := cx) _ _ K1
  simp only at K3 S3
  obtain ⟨mk, hmkk⟩ : ∃ mk : Oper, mk = ⟨some t, op, ty1, p1, af1, none⟩ := ⟨_, rfl⟩
  rw [← hmkk] at hr1
  obtain ⟨env0, henv0⟩ : ∃ env0, env0 = (d, look s.env x) :: s.env := ⟨_, rfl⟩
  rw [← henv0] at S1 K1 S3 K3 hmk
  generalize hA1 : (l1.take (ia - 1)).zip xs1 = A1 at S1 K1 S3 K3 hmk
  generalize hA3 : (r.take (k - ia - 1)).zip xs3 = A3 at S3 K3
  have hll : (o0 :: l1).toArray.size = l1.length + 1 := by simp
  have hlr : r.length = l1.length - ia := by have := congrArg List.length hr1; simp at this; omega
  have l1a : A1.length = ia - 1 := by rw [← hA1]; simp [x1]; omega
  have l3a : A3.length = k - ia - 1 := by rw [← hA3]; simp [x3]; omega
  have f1 : A1.map (·.1) = l1.take (ia - 1) := by rw [← hA1]; exact List.map_fst_zip (by omega)
  have f3 : A3.map (·.1) = r.take (k - ia - 1) := by rw [← hA3]; exact List.map_fst_zip (by omega)
  obtain ⟨D, hDD⟩ : ∃ D : List (Oper × AV), D = (r.drop (k - ia - 1)).map fun o => (o, AV.any) := ⟨_, rfl⟩
  have fD : D.map (·.1) = r.drop (k - ia - 1) := by rw [hDD, List.map_map]; exact List.map_id' _
  obtain ⟨lx, hlxe⟩ : ∃ lx, lx = (o0, look s.env x) :: (A1 ++ ((mk, AV.any) :: (A3 ++ D))) := ⟨_, rfl⟩
  have hlxf : lx.map (·.1) = o0 :: l1 := by
    have e1 : l1 = l1.take (ia - 1) ++ l1.drop (ia - 1) := (List.take_append_drop _ _).symm
    have e2 : r = r.take (k - ia - 1) ++ r.drop (k - ia - 1) := (List.take_append_drop _ _).symm
    rw [hlxe]
    simp only [List.map_cons, List.map_append, f1, f3, fD]
    rw [← e2, ← hr1, ← e1]
  have llx : lx.length = (o0 :: l1).toArray.size := by have := congrArg List.length hlxf; simpa using this
  have hlx : ∀ (j : Nat) o x, lx[j]? = some (o, x) → (o0 :: l1).toArray[j]? = some o := by
    intro j o x hj
    have h1 : (lx.map (·.1))[j]? = some o := by rw [List.getElem?_map, hj]; rfl
    rw [hlxf] at h1; simpa using h1
  obtain ⟨pb, hpb⟩ : ∃ pb : QM, pb = ⟨ia, t, q.2.2, q.2.1⟩ := ⟨_, rfl⟩
  have hpia : pb.ia = ia := by rw [hpb]
  have hSP : SeqM P cx n (o0 :: l1).toArray s.H k lx s.env pb := by
    unfold SeqM
    rw [hlxe]
    refine SeqG.cons (fun h => by omega) ?_
    have e0 : putE s.env o0.dst (look s.env x) = env0 := by rw [ho0, henv0]; rfl
    rw [e0]
    refine SeqG.app (fun i o x' hi _ _ => ?_) (SeqG.cons ?_ (SeqG.app (fun i o x' hi _ _ => ?_) (fun i o x' hi _ hlt => ?_)))
    · have hlt := (List.getElem?_eq_some_iff.1 hi).1
      rw [if_neg (by omega)]
      exact S1 i o x' hi
    · intro _ _
      rw [if_pos (by omega)]
      refine ⟨by rw [hmkk], rfl, by rw [hmkk, hpb], by rw [hpb]; exact hq1, q.1, ?_, hq2⟩
      rw [hmkk, hpb]
      exact hmk
    · have hlt := (List.getElem?_eq_some_iff.1 hi).1
      rw [if_neg (by omega)]
      have := S3 i o x' hi
      simp only [hmkk, putE] at this ⊢
      exact this
    · omega
  have hsole : ∀ j o x, lx[j]? = some (o, x) → j < k → o.dst = some pb.t → j = pb.ia := by
    intro j o x' hj hjk hd'
    have h1 := List.all_eq_true.1 hso j (List.mem_range.2 hjk)
    have h2 : (o0 :: l1)[j]? = some o := by simpa using hlx j o x' hj
    have h3 : (o0 :: l1)[ia]? = some mk := by
      have : (l1.drop (ia - 1))[0]? = some mk := by rw [hr1]; rfl
      obtain ⟨ia', rfl⟩ : ∃ ia', ia = ia' + 1 := ⟨ia - 1, by omega⟩
      simpa using this
    rw [h2, h3] at h1
    simp only [Option.bind_some, hd', hpb, hmkk, beq_self_eq_true, Bool.not_true, Bool.or_false, decide_eq_true_eq] at h1
    rw [h1, hpb]
  have hD' : DrawOk (o0 :: l1).toArray lx.length := by rw [llx]; exact hD
  have hsz1 : (o0 :: l1).toArray.size = l1.length + 1 := hll
  have hoi0 : (o0 :: l1).toArray[0]? = some o0 := by simp
  have okw : Ok cx n s a { w with drawn := w.drawn + 1 } := by
    have hIw : ∀ b, imm cx w s.H b → imm cx { w with drawn := w.drawn + 1 } s.H b ∧ ({ w with drawn := w.drawn + 1 } : World).heap[b]? = w.heap[b]? := fun b hb => ⟨hb, rfl⟩
    refine ⟨ok.defers, ok.size, fun i => (ok.reps i).mono hIw, ⟨ok.world.nodup, ok.world.keys, fun x hx => (ok.world.mem x hx).mono hIw rfl, ⟨ok.world.ext.os, ok.world.ext.tape, ok.world.ext.output, ok.world.ext.size, ok.world.ext.blk⟩, ok.world.ro⟩⟩
  refine Go.wp_mono (wp_region_any (Q := fun e a' w' => e = .normal ∧ ∃ s', Q .normal s' ∧ Ok cx n s' a' w') hm ?_) (fun e a' w' he => by
    obtain ⟨rfl, s', hq, hok⟩ := he; exact ⟨s', hq, hok⟩)
  generalize ({ w with drawn := w.drawn + 1 } : World) = w1 at okw
  clear ok
  have hF' := hF
  unfold firstB at hF'
  rw [hoi0] at hF'
  simp only [Bool.and_eq_true] at hF'
  obtain ⟨hf1, hf2⟩ := hF'
  have hrep : ∀ j, (Array.replicate (o0 :: l1).toArray.size false).getD j false = false := fun j => getD_rep_false _ _
  rw [show (o0 :: l1).toArray.size = l1.length + 1 from hsz1]
  rw [hsz1] at hrep
  have hl0 : ∀ j, ((Array.replicate (l1.length + 1) false).setIfInBounds 0 true).getD j false = decide (j = 0) := by
    intro j
    by_cases hj : j = 0
    · subst hj; simp
    · rw [getD_set_ne false (Ne.symm hj), hrep]; simp [hj]
  refine wpAny_first (ops := (o0 :: l1).toArray) (i := 0) (oi := o0) (v := a.eval (.tmp x)) hoi0 (fun j o cs b hj => Region.noSelect_spec hN j o cs b hj) (fun c a w hp => by cases hp.1) l1.length _ a w1
    (fun j oj hj hj0 _ hno => ?_) (mem_ready.2 ⟨by simp, o0, hoi0, fun e he hb => ?_⟩) ?_ ?_
  · have hjs := (Array.getElem?_eq_some_iff.1 hj).1
    have := List.all_eq_true.1 hf2 j (List.mem_range.2 hjs)
    rw [hj] at this
    simp only [Bool.or_eq_true, decide_eq_true_eq] at this
    rcases this with (h | h) | h
    · exact absurd h hj0
    · obtain ⟨e, he, hb, he0⟩ := waits_spec h
      exact absurd he0 (hno e he hb)
    · exact h
  · have := Array.all_eq_true'.1 hf1 e he
    rw [hb] at this; cases this
  · refine .inl ⟨by rw [ho0]; rfl, fun w' => ?_⟩
    rw [ho0]
    simp [execOp]
  have hput : Ok cx n ⟨env0, s.H⟩ (a.put o0.dst (a.eval (.tmp x))) w1 := by
    have := okw.put (d := some d) hdn (v := a.eval (.tmp x)) (x := look s.env x) (okw.reps x)
    rw [ho0, henv0]
    exact this
  have hcl0 : Closed (o0 :: l1).toArray ((Array.replicate (l1.length + 1) false).setIfInBounds 0 true) := by
    intro j oj hj hl c hw
    rw [hl0] at hl
    have hj0 := of_decide_eq_true hl
    subst hj0
    rw [hoi0] at hj
    cases hj
    obtain ⟨e, he, hb, _⟩ := waits_spec hw
    have := Array.all_eq_true'.1 hf1 e he
    rw [hb] at this; cases this
  have henvl : ∀ f : Nat → Bool, f 0 = true → (∀ j, 0 < j → f j = false) → envL f lx 0 s.env = env0 := by
    intro f h0 h1
    rw [hlxe]
    simp only [envL, h0, if_true]
    rw [envL_none _ _ _ fun j hj => h1 j (by omega), ho0, henv0]
    rfl
  have inv0 : DInvM cx n (o0 :: l1).toArray lx s.env s.H k pb ((Array.replicate (l1.length + 1) false).setIfInBounds 0 true) (a.put o0.dst (a.eval (.tmp x))) w1 := by
    refine ⟨by simp, hcl0, by rw [hl0]; simp, fun j hj => by rw [hl0]; simp; omega, .inl ⟨by rw [hl0, hpia]; simp; omega, by simp, hcl0, fun t ht ht' => by omega, ?_⟩⟩
    rw [henvl _ (by rw [hl0]; simp) (fun j hj => by rw [hl0]; simp; omega)]
    exact hput
  have hcount : ((List.range k).filter fun i => !((Array.replicate (l1.length + 1) false).setIfInBounds 0 true).getD i false).length = k - 1 := by
    have e : (fun i => !((Array.replicate (l1.length + 1) false).setIfInBounds 0 true).getD i false) = fun i => !decide (i ≤ 0) := by funext i; rw [hl0]; simp
    rw [e]
    exact count_gt 0 k
  have := head_to (P := P) (ops := (o0 :: l1).toArray) (k := k) (R := fun e a' w' => e = .normal ∧ ∃ s', Q .normal s' ∧ Ok cx n s' a' w') (g := l1.length + 1 - k) (Inv := DInvM cx n (o0 :: l1).toArray lx s.env s.H k pb) (by omega) hD.back
    (fun li a w inv i hi hri j hj => by
      by_cases hj0 : j = 0
      · subst hj0; exact inv.zero
      · obtain ⟨_, oi, hoi, _⟩ := mem_ready.1 hri
        exact reach_of_ready inv.closed hri (hr i hi (Array.getElem?_eq_some_iff.1 hoi).1 j (by omega) (by omega)))
    (fun _ _ _ inv => inv.closed) (fun _ _ _ inv => inv.lsize)
    (fun li a w i X inv hi hik hX => dinvM_step hD' hlx hSP hsole (by omega) (by omega) inv hi hik hX)
    (fun li a w inv hall => by
      rcases inv.ph with ⟨g1, _⟩ | ⟨_, b, hfr, hb, hinv⟩
      · rw [hpia, hall ia hiak] at g1; cases g1
      · have hli : ∀ j, li.getD j false = decide (j < k) := fun j => by
          by_cases hj : j < k
          · rw [hall j hj, decide_eq_true hj]
          · rw [inv.behind j (by omega), decide_eq_false hj]
        have henv : ∀ t', look (envL (fun j => li.getD j false) lx 0 s.env) t' = look (envL (fun _ => true) A3 0 ((t, AV.any) :: envL (fun _ => true) A1 0 env0)) t' := by
          intro t'
          have e0 : putE s.env o0.dst (look s.env x) = env0 := by rw [ho0, henv0]; rfl
          rw [hlxe]
          simp only [envL, hli]
          rw [if_pos (by simp; omega), e0, envL_append, show A1 = A1 from rfl]
          simp only [envL]
          rw [show 0 + 1 + A1.length = ia by omega, if_pos (by simp; omega), envL_append, envL_none D _ _ (fun j hj => by simp; omega)]
          have e1 : envL (fun j => decide (j < k)) A1 (0 + 1) env0 = envL (fun _ => true) A1 0 env0 := by
            rw [show 0 + 1 = 1 + 0 from rfl, envL_shiftk 1 A1 0]
            exact envL_ext A1 0 _ fun j _ hj => by simp; omega
          rw [e1]
          have e2 : ∀ env, envL (fun j => decide (j < k)) A3 (ia + 1) env = envL (fun _ => true) A3 0 env := fun env => by
            rw [show ia + 1 = (ia + 1) + 0 from rfl, envL_shiftk (ia + 1) A3 0]
            exact envL_ext A3 0 _ fun j _ hj => by simp; omega
          rw [e2, hmkk]
          rfl
        have hok : Ok cx n ⟨(t, ms b 0 q.2.2 q.2.2) :: envL (fun _ => true) A3 0 ((t, AV.any) :: envL (fun _ => true) A1 0 env0), (b, q.2.1) :: s.H⟩ a w := by
          have hpm : pb.m = q.2.1 := by rw [hpb]
          have hpt : pb.t = t := by rw [hpb]
          have hpl : pb.len = q.2.2 := by rw [hpb]
          rw [hpm] at hinv
          rw [hpt, hpl] at hb
          refine ⟨hinv.ok.defers, hinv.ok.size, fun t' => ?_, hinv.ok.world⟩
          simp only [look]
          split
          · rename_i ht
            rw [ht, hb]
            exact .lit _
          · have := hinv.ok.reps t'
            simp only [henv t'] at this
            exact this
        have hK := (K3.out b).out hfr
        have hdrop : r.drop (k - ia - 1) = (o0 :: l1).drop k := by
          obtain ⟨k', rfl⟩ : ∃ k', k = k' + 1 := ⟨k - 1, by omega⟩
          rw [List.drop_succ_cons]
          have : l1.drop k' = (l1.drop (ia - 1)).drop (k' - (ia - 1)) := by rw [List.drop_drop]; congr 1; omega
          rw [this, hr1, show k' - (ia - 1) = (k' + 1 - ia - 1) + 1 by omega, List.drop_succ_cons]
        rw [hdrop] at hK
        have hwl := rvc_sound (cx := cx) _ _ hK (fun e a' w' => e = .normal ∧ ∃ s', Q .normal s' ∧ Ok cx n s' a' w') (fun s' a' w' hk ok' => ⟨rfl, s', hk, ok'⟩) a w hok
        have hdl : ((o0 :: l1).drop k).length = l1.length + 1 - k := by simp
        have := tail_to (k0 := k) hD.back (fun i hi his j hj hji => hr i hi his j (by omega) hji) ((o0 :: l1).drop k) k li a w (Nat.le_refl _) (fun j => by simp [List.getElem?_drop]) (by rw [hdl, hsz1]; omega) inv.lsize (fun j hj => hli j) hwl
        rw [hdl] at this
        exact this)
    (k - 1) _ _ _ hcount inv0
  rw [show k - 1 + (l1.length + 1 - k) = l1.length by omega] at this
  exact this
end
end Go.Proofs.Yteoajodoejoccaa
namespace Go.Proofs.Yteoajodoejoccaa
open Go
set_option linter.unusedSimpArgs false
set_option linter.unusedVariables false
section
variable {P : Program} {cx : Cx} {n : Nat} {ops : Array Oper}
def WCt (P : Program) (f : FuncId) (args : List AV) (E H0 : Hp) (post : AV → Hp → Prop) (d : Hd post := .mk) : Prop :=
  ∃ F R p, E.Perm (F ++ R) ∧ ACt P f args F p ∧ ∀ r F', p r F' → (((F' ++ R) ++ H0).map (·.1)).Nodup → post r (F' ++ R)
theorem run_wct {f : FuncId} {args : List AV} {env : List (Nat × AV)} {E H0 : Hp} {post : AV → Hp → Prop} {a : Act} {w : World} {vs : Array Value} (ok : Ok cx n ⟨env, E ++ H0⟩ a w) (h : WCt P f args E H0 post) (hs : vs.size = args.length)
    (hv : ∀ i, i < args.length → Rep w (imm cx w (E ++ H0)) (vs.getD i undef) (args.getD i .any)) :
    CallX P f vs w fun e w' => ∃ v x E', e = .returned v ∧ post x E' ∧ (∀ y ∈ E', fresh H0 y.1) ∧ Rep w' (imm cx w' (E' ++ H0)) v x ∧ OkW cx (E' ++ H0) w' ∧
      ∀ c, imm cx w (E ++ H0) c → imm cx w' (E' ++ H0) c ∧ w'.heap[c]? = w.heap[c]? := by
  obtain ⟨F, R, p, hP0, hct, hpost⟩ := h
  have hP : (E ++ H0).Perm (F ++ (R ++ H0)) := by rw [← List.append_assoc]; exact hP0.append_right H0
  have hw := ok.world.perm hP
  have hIp : ∀ b, imm cx w (E ++ H0) b → imm cx w (F ++ (R ++ H0)) b := fun b hb => (imm_perm hP).1 hb
  have hI : ∀ b, imm cx w (E ++ H0) b → b < w.heap.size ∧ (b ∉ F.map (·.1) ∨ b ∈ roK F) := fun b hb => ⟨imm_lt hw.ext.size hb, imm_out hw (hIp b hb)⟩
  have hT := roK_lt hw
  have hnd := hw.nodup
  rw [List.map_append, List.nodup_append] at hnd
  have := hct ⟨w, imm cx w (E ++ H0), F.map (·.1), roK F, hI, hT⟩ vs rfl rfl ⟨hnd.1, fun x hx => .inl (List.mem_map_of_mem hx), fun x hx => (hw.mem x (List.mem_append_left _ hx)).mono (fun b hb => ⟨.inl ((imm_perm hP).2 hb), rfl⟩) rfl,
    ⟨rfl, rfl, rfl, Nat.le_refl _, fun _ _ _ => rfl⟩, roK_ro hnd.1⟩ hs hv
  refine this.mono ?_
  rintro e w' ⟨v, r, F', he, hp, hw', hr⟩
  obtain ⟨c1, c2, c3⟩ := call_frame hIp hw hw'
  rw [show F' ++ (R ++ H0) = F' ++ R ++ H0 from (List.append_assoc ..).symm] at c1 c2 c3
  exact ⟨v, r, F' ++ R, he, hpost r F' hp c1.nodup, fresh_app c1.nodup, hr.mono fun b hb => ⟨c3 b hb, rfl⟩, c1, fun c hc => c2 c (hIp c hc)⟩
theorem effW_call {o : Oper} {env : List (Nat × AV)} {E H0 : Hp} {post : AV → Hp → Prop} {q : Prop × FuncId × List AV} (hc : calleeV env o.op = some q) (hq : q.1) (h : WCt P q.2.1 q.2.2 E H0 post)
    {a : Act} {w : World} {X : Act → World → Prop} {R : Exit → Act → World → Prop} (h1 : a.defers = []) (h2 : a.tmps.size = n) (h3 : OkW cx (E ++ H0) w)
    (h4 : ∀ t ∈ o.looksAt ops, Rep w (imm cx w (E ++ H0)) (a.tmps.getD t undef) (look env t))
    (h5 : ∀ v x E' w', post x E' → (∀ y ∈ E', fresh H0 y.1) → Rep w' (imm cx w' (E' ++ H0)) v x → OkW cx (E' ++ H0) w' → (∀ c, imm cx w (E ++ H0) c → imm cx w' (E' ++ H0) c ∧ w'.heap[c]? = w.heap[c]?) → X (a.put o.dst v) w') : o.wp P a w X R := by
  have ok := ok_renv h1 h2 h3 h4
  have hre := opd_renv (ops := ops) (o := o) (env := env)
  obtain ⟨dst, op, type, pos, after, guard⟩ := o
  simp only at hc h5 hre ok
  unfold calleeV at hc
  split at hc
  · rename_i cl
    obtain ⟨callee, args, ts⟩ := cl
    simp only at hc
    split at hc
    · rename_i f
      simp only [Option.some.injEq] at hc
      subst hc
      simp only at hq h
      have he : ogs env args.toList = ogs (renv env (Oper.looksAt ops ⟨dst, .call ⟨.value (.func f), args, ts⟩, type, pos, after, guard⟩)) args.toList :=
        ogs_congr fun x hx => hre x (by simp [Op.operands, Call.operands]; exact .inr (by simpa using hx))
      rw [he] at hq h
      have hlen := ogs_length (env := renv env (Oper.looksAt ops ⟨dst, .call ⟨.value (.func f), args, ts⟩, type, pos, after, guard⟩)) args.toList
      have := run_wct (vs := args.map a.eval) ok h (by rw [hlen]; simp) (fun i hi => by
        have := ok.ogs hq i (by rw [hlen] at hi; exact hi)
        simpa [List.getD] using this)
      unfold Oper.wp
      have hrun : (execOp a.eval ⟨dst, .call ⟨.value (.func f), args, ts⟩, type, pos, after, guard⟩).run P w = (callFunc f (args.map a.eval)).run P w := by
        simp only [execOp, resolve, Act.eval, Deferred.ofValue, Sem.run_bind, Sem.run_pure, Result.andThen_ok, invoke, Array.append_empty, Array.empty_append]
        try simp
      refine this.upon hrun ?_
      rintro e w' ⟨v, x, E', rfl, hp, hf, hrep, c1, c2⟩
      exact ⟨_, rfl, h5 v x E' w' hp hf hrep c1 c2⟩
    · cases hc
  · cases hc
def drawWF (P : Program) (n : Nat) (l : List Oper) (K : St → Prop) (c k : Nat) (bs : List Nat) (s : St) : Prop :=
  match splitH bs s.H with
  | some q => dvc P n l.toArray (l.take c) (fun s1 => match l.drop c with
    | ⟨some t, op, _, _, _, none⟩ :: r => t < n ∧ match calleeV s1.env op with
      | some g => g.1 ∧ dvc P n l.toArray (r.take (k - c - 1)) (fun s3 => WCt P g.2.1 g.2.2 q.1 q.2 fun x E' => rvc P n l.toArray (r.drop (k - c - 1)) K ⟨(t, x) :: s3.env, E' ++ q.2⟩) ⟨(t, .any) :: s1.env, s1.H⟩
      | none => False
    | _ => False) ⟨s.env, q.2⟩
  | none => False
theorem WCt.row {f : FuncId} {args : List AV} {E H0 : Hp} {b : Nat} {m : MB} {k : IntKind} {ty : TypeId} {zs : List Int} {post : AV → Hp → Prop} (hg : hget E b = some m) (h : ACt P f args [(b, m)] (Row k ty zs))
    (hp : Nu fun b' => Nu fun cap' => Fr (zs.length ≤ cap' ∧ cap' ≤ maxLen ∧ fresh (hdel E b ++ H0) b') (post (ms b' 0 zs.length cap') ((b', .zs k zs cap' ty) :: hdel E b))) : WCt P f args E H0 post := by
  refine ⟨[(b, m)], hdel E b, _, hget_perm hg, h, ?_⟩
  rintro r F' ⟨b', cap', h1, h2, rfl, rfl⟩ hn
  exact ((hp.out b').out cap').out ⟨h1, h2, fresh_of_nodup hn⟩
theorem WCt.mkrow {f : FuncId} {args : List AV} {E H0 : Hp} {k : IntKind} {ty : TypeId} {zs : List Int} {post : AV → Hp → Prop} (h : ACt P f args [] (Row k ty zs))
    (hp : Nu fun b' => Nu fun cap' => Fr (zs.length ≤ cap' ∧ cap' ≤ maxLen ∧ fresh (E ++ H0) b') (post (ms b' 0 zs.length cap') ((b', .zs k zs cap' ty) :: E))) : WCt P f args E H0 post := by
  refine ⟨[], E, _, by simp, h, ?_⟩
  rintro r F' ⟨b', cap', h1, h2, rfl, rfl⟩ hn
  exact ((hp.out b').out cap').out ⟨h1, h2, fresh_of_nodup hn⟩
theorem ACt.fz {f : FuncId} {args : List AV} {F F0 : Hp} {k : IntKind} {ty : TypeId} {zs : List Int}
    (h : ACt P f args F (fun r F' => ∃ q : {p : Nat × Nat // zs.length ≤ p.2 ∧ p.2 ≤ 9223372036854775807}, r = ms q.1.1 0 zs.length q.1.2 ∧ F' = (q.1.1, .zs k zs q.1.2 ty) :: F0)) :
    ACt P f args F (fun r F' => r = .slz k zs ∧ F' = F0) := by
  intro cx vs h1 h1' h2 h3 h4
  refine (h cx vs h1 h1' h2 h3 h4).mono ?_
  rintro e w' ⟨v, r, F', he, ⟨q, rfl, rfl⟩, hw, hr⟩
  have hv := hr.lit_inv
  have hp : OkW cx (F0 ++ [(q.1.1, .zs k zs q.1.2 ty)]) w' := hw.perm (List.perm_append_comm (l₁ := [(q.1.1, MB.zs k zs q.1.2 ty)]))
  obtain ⟨d1, d2⟩ := hp.drop
  refine ⟨v, _, F0, he, ⟨rfl, rfl⟩, d1, ?_⟩
  rw [hv]
  have hm := hw.mem _ (List.mem_cons_self ..)
  have hlt := hm.lt
  obtain ⟨cur, e1, e2, e3, e4⟩ := hm
  have hn := hw.nodup
  simp only [List.map_cons, List.nodup_cons] at hn
  refine .slz _ _ _ _ q.2.1 (by rw [maxLen_eq]; exact q.2.2) (.inr ⟨q.1.1, 0, rfl, .inr ⟨hw.keys _ (List.mem_cons_self ..), hlt, fun x hx he => hn.1 (List.mem_map.2 ⟨x, hx, he⟩)⟩, fun i hi => ?_⟩)
  rw [Nat.zero_add, cell_of_block e1, e4 i hi]
end
end Go.Proofs.Yteoajodoejoccaa
