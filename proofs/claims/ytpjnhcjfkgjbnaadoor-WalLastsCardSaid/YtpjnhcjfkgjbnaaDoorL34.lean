/-
  The walks and the laws that the statement leans on, part 34.
-/
import Derived.Test.YtpjnhcjfkgjbnaaDoorL10
import Derived.Test.YtpjnhcjfkgjbnaaDoorL33
namespace Go.Proofs.YtpjnhcjfkgjbnaaDoor
open Go
set_option linter.unusedVariables false
set_option linter.unusedSimpArgs false
theorem ACt.sub {Γ : Type} {φ : Γ → Prop} {x : Γ → AV} {m : Γ → Hp} {P : Program} {f : FuncId} {args : List AV} {F : Hp} (h : ACt P f args F (fun r F' => ∃ g, φ g ∧ r = x g ∧ F' = m g)) : ACt P f args F (fun r F' => ∃ g : {g // φ g}, r = x g.1 ∧ F' = m g.1) :=
  h.mono fun r F' ⟨g, h1, h2, h3⟩ => ⟨⟨g, h1⟩, h2, h3⟩
theorem vw_row {x n c s ty : Nat} {C : List AV} (h2 : n ≤ c) (h3 : c ≤ maxLen) : Vw [(x, .cells C s ty)] (ms x 0 n c) (.sl n C) :=
  .rowc (sz := s) (ty := ty) (cs := C) (by simp [hget]) (by omega) h2 h3 fun i hi => by
    rw [Nat.zero_add, List.getD_eq_getElem?_getD, List.getElem?_eq_getElem hi, Option.getD_some]
    exact .same _
theorem same_o (L M : List Bs) (b cap : Nat) (hl : L.length ≤ 1000000) (hm : M.length ≤ 1000000) (h2 : M.length ≤ cap) (h3 : cap ≤ 9223372036854775807) :
    ACt Tryd.prog 16 [.sl L.length (rowsA L), ms b 0 M.length cap] [(b, .cells (rowsA M) cap 38)] (fun r F' => r = bv (decide (L = M)) ∧ F' = [(b, .cells (rowsA M) cap 38)]) :=
  (same_any L M hl hm).view rfl ⟨.same _, vw_row h2 (by rw [maxLen_eq]; omega), trivial⟩
theorem same_n (L : List Bs) (hl : L.length ≤ 1000000) : ACt Tryd.prog 16 [.sl L.length (rowsA L), nl] [] (fun r F' => r = bv (decide (L = [])) ∧ F' = []) :=
  (same_any L [] hl (by simp)).view rfl ⟨.same _, .nils, trivial⟩
def mH (mb A : Nat) (L : List Bs) (b2 cap : Nat) : Hp := match L with
  | [] => [(mb, .cells [nl, iv .i64 (A : Int)] 2 37)]
  | y :: r => [(mb, .cells [ms b2 0 (y :: r).length cap, iv .i64 (A : Int)] 2 37), (b2, .cells (rowsA (y :: r)) cap 38)]
theorem mH_ne {mb A : Nat} {L : List Bs} (h : L ≠ []) (b2 cap : Nat) : mH mb A L b2 cap = [(mb, .cells [ms b2 0 L.length cap, iv .i64 (A : Int)] 2 37), (b2, .cells (rowsA L) cap 38)] := by
  cases L with
  | nil => exact absurd rfl h
  | cons y r => rfl
def mV (M : List Bs) (b2 cap : Nat) : AV := match M with
  | [] => nl
  | y :: r => ms b2 0 (y :: r).length cap
def mR (M : List Bs) (b2 cap : Nat) : Hp := match M with
  | [] => []
  | y :: r => [(b2, .cells (rowsA (y :: r)) cap 38)]
theorem mH_eq (mb A : Nat) (M : List Bs) (b2 cap : Nat) : mH mb A M b2 cap = (mb, .cells [mV M b2 cap, iv .i64 (A : Int)] 2 37) :: mR M b2 cap := by cases M <;> rfl
structure MOkL (mb : Nat) (L : List Bs) (b2 cap : Nat) : Prop where
  ne : L ≠ [] → (mb ≠ b2 ∧ b2 ≠ mb)
  c1 : L.length ≤ cap
  c2 : cap ≤ 9223372036854775807
theorem rtext_m {mb A : Nat} {L : List Bs} {b2 cap : Nat} (h : MOkL mb L b2 cap) (hu : usd L ≤ A) (hA : A ≤ 1000000) : ACt Tryd.prog 21 [pt mb 0] (mH mb A L b2 cap) (fun r F' => r = .lit (.string (bstr (ub (frs L ++ zrs (A - usd L))))) ∧ F' = mH mb A L b2 cap) := by
  cases L with
  | nil => exact rtextN_ct mb A hA
  | cons y r => exact rtextO_ct (y :: r) mb A b2 cap (h.ne (by simp)) h.c1 hu hA
theorem rapp_full_m {mb A : Nat} {L : List Bs} {b2 cap : Nat} (h : MOkL mb L b2 cap) (hu : usd L ≤ 1000000) (z : Bs) (hz : z.length ≤ 1000000) (hA : A ≤ 1000000) (hf : A < usd L + (z.length + 10)) : ACt Tryd.prog 14 [pt mb 0, .slz .u8 (ub z)] (mH mb A L b2 cap) (fun r F' => r = iv .i64 11 ∧ F' = mH mb A L b2 cap) := by
  cases L with
  | nil => exact rapp_fullN mb A z hz hA (.inr (by omega))
  | cons y r => exact rapp_fullO (y :: r) mb A b2 cap (h.ne (by simp)) h.c1 hu z hz hA (.inr (by omega))
theorem same_m {mb : Nat} {M : List Bs} {b2 cap : Nat} (h : MOkL mb M b2 cap) (L : List Bs) (hl : L.length ≤ 1000000) (hm : M.length ≤ 1000000) : ACt Tryd.prog 16 [.sl L.length (rowsA L), mV M b2 cap] (mR M b2 cap) (fun r F' => r = bv (decide (L = M)) ∧ F' = mR M b2 cap) := by
  cases M with
  | nil => exact same_n L hl
  | cons y r => exact same_o L (y :: r) b2 cap hl hm h.c1 h.c2
abbrev MQ (mb : Nat) (L : List Bs) : Type := {p : Nat × Nat // MOkL mb L p.1 p.2}
theorem rapp_ok_m {mb A : Nat} {L : List Bs} {b2 cap : Nat} (h : MOkL mb L b2 cap) (hu : usd L ≤ 1000000) (z : Bs) (hA : A ≤ 1000000) (hf : usd L + (z.length + 10) ≤ A) : ACt Tryd.prog 14 [pt mb 0, .slz .u8 (ub z)] (mH mb A L b2 cap) (fun r F' => ∃ g : MQ mb (L ++ [z]), r = iv .i64 0 ∧ F' = mH mb A (L ++ [z]) g.1.1 g.1.2) := by
  have key : ∀ F, ACt Tryd.prog 14 [pt mb 0, .slz .u8 (ub z)] F (fun r F' => ∃ b c : Nat, (L.length + 1 ≤ c ∧ c ≤ 9223372036854775807) ∧ r = iv .i64 0 ∧ F' = [(b, .cells (rowsA (L ++ [z])) c 38), (mb, .cells [ms b 0 (L.length + 1) c, iv .i64 (A : Int)] 2 37)]) →
      ACt Tryd.prog 14 [pt mb 0, .slz .u8 (ub z)] F (fun r F' => ∃ g : MQ mb (L ++ [z]), r = iv .i64 0 ∧ F' = mH mb A (L ++ [z]) g.1.1 g.1.2) := fun F hF => by
    refine ACt.frm (R := []) hF (by rw [List.append_nil]) fun r F' hr hn => ?_
    obtain ⟨b, c, hc, e1, e2⟩ := hr
    subst e1 e2
    have hnd : b ≠ mb := by
      simp only [List.append_nil, List.map_cons, List.map_nil, List.nodup_cons, List.mem_singleton] at hn
      exact hn.1
    have hl : (L ++ [z]).length = L.length + 1 := by simp
    refine ⟨mH mb A (L ++ [z]) b c, [], ?_, ⟨(b, c), fun _ => ⟨Ne.symm hnd, hnd⟩, by rw [hl]; exact hc.1, hc.2⟩, rfl, rfl⟩
    rw [mH_ne (by simp), hl, List.append_nil, List.append_nil]
    exact .swap _ _ _
  cases L with
  | nil => exact key _ (rapp_okN mb A z hA (by omega))
  | cons y r => exact key _ (rapp_okO (y :: r) mb A b2 cap (h.ne (by simp)) h.c1 h.c2 hu z hA (by omega))
theorem lift1 {Γ : Type} {f : FuncId} {args : List AV} {k0 : Nat × MB} {k1 : Γ → Nat × MB} {D : Hp} {v : Γ → AV} {D' : Γ → Hp} (K : Hp) (c : ACt Tryd.prog f args (k0 :: D) (fun r F' => ∃ g, r = v g ∧ F' = k1 g :: D' g)) :
    ACt Tryd.prog f args (k0 :: (K ++ D)) (fun r F' => ∃ g, r = v g ∧ F' = k1 g :: (K ++ D' g)) :=
  ACt.frm (R := K) c (.cons _ List.perm_append_comm) fun r F' hr _ => by
    obtain ⟨g, e1, e2⟩ := hr
    subst e1 e2
    exact ⟨k1 g :: (K ++ D' g), [], by rw [List.append_nil]; exact .cons _ List.perm_append_comm, g, rfl, rfl⟩
theorem lift0 {Γ : Type} {f : FuncId} {args : List AV} {D : Hp} {v : Γ → AV} {D' : Γ → Hp} (K : Hp) (c : ACt Tryd.prog f args D (fun r F' => ∃ g, r = v g ∧ F' = D' g)) :
    ACt Tryd.prog f args (K ++ D) (fun r F' => ∃ g, r = v g ∧ F' = K ++ D' g) :=
  ACt.frm (R := K) c List.perm_append_comm fun r F' hr _ => by
    obtain ⟨g, e1, e2⟩ := hr
    subst e1 e2
    exact ⟨K ++ D' g, [], by rw [List.append_nil]; exact List.perm_append_comm, g, rfl, rfl⟩
theorem liftM {Γ : Type} {f : FuncId} {args : List AV} {K : Hp} {v : Γ → AV} {K' : Γ → Hp} (k : Nat × MB) (D : Hp) (c : ACt Tryd.prog f args K (fun r F' => ∃ g, r = v g ∧ F' = K' g)) :
    ACt Tryd.prog f args (k :: (K ++ D)) (fun r F' => ∃ g, r = v g ∧ F' = k :: (K' g ++ D)) :=
  ACt.frm (R := k :: D) c (by exact (List.perm_middle (l₁ := K) (l₂ := D) (a := k)).symm) fun r F' hr _ => by
    obtain ⟨g, e1, e2⟩ := hr
    subst e1 e2
    exact ⟨k :: (K' g ++ D), [], by rw [List.append_nil]; exact List.perm_middle, g, rfl, rfl⟩
theorem look1 {f : FuncId} {args : List AV} {k : Nat × MB} {D : Hp} {v : AV} (K : Hp) (c : ACt Tryd.prog f args (k :: D) (fun r F' => r = v ∧ F' = k :: D)) : ACt Tryd.prog f args (k :: (K ++ D)) (fun r F' => r = v ∧ F' = k :: (K ++ D)) :=
  c.lookU (R := K) (.cons _ List.perm_append_comm)
theorem look0 {f : FuncId} {args : List AV} {D : Hp} {v : AV} (K : Hp) (c : ACt Tryd.prog f args D (fun r F' => r = v ∧ F' = D)) : ACt Tryd.prog f args (K ++ D) (fun r F' => r = v ∧ F' = K ++ D) :=
  c.lookU (R := K) List.perm_append_comm
theorem lookM {f : FuncId} {args : List AV} {K : Hp} {v : AV} (k : Nat × MB) (D : Hp) (c : ACt Tryd.prog f args K (fun r F' => r = v ∧ F' = K)) : ACt Tryd.prog f args (k :: (K ++ D)) (fun r F' => r = v ∧ F' = k :: (K ++ D)) :=
  c.lookU (R := k :: D) (List.perm_middle (l₁ := K) (l₂ := D) (a := k)).symm
section
variable {c s n f m : Nat} {P Q : Bs} {M : List Bs} {a : DA} (b x mb b2 cap : Nat) (l : DL)
theorem k_all {k : Nat} (hA : AOk k a) (hl : LOk b a l) (hk : a.dk = false) : ACt Tryd.prog 9 [pt b 0] ((x, lgN b f m s M false) :: (mH mb (m * s) M b2 cap ++ dH b a l)) (fun r F' => r = .lit (.string (bstr a.S.flatten)) ∧ F' = (x, lgN b f m s M false) :: (mH mb (m * s) M b2 cap ++ dH b a l)) :=
  look0 ((x, lgN b f m s M false) :: mH mb (m * s) M b2 cap) (all_ct b a l hA hl hk)
theorem k_rtext (hM : MOkL mb M b2 cap) (hu : usd M ≤ m * s) (hA : m * s ≤ 1000000) : ACt Tryd.prog 21 [pt mb 0] ((x, lgN b f m s M false) :: (mH mb (m * s) M b2 cap ++ dH b a l)) (fun r F' => r = .lit (.string (bstr (ub (frs M ++ zrs (m * s - usd M))))) ∧ F' = (x, lgN b f m s M false) :: (mH mb (m * s) M b2 cap ++ dH b a l)) :=
  lookM _ _ (rtext_m hM hu hA)
theorem k_same (hM : MOkL mb M b2 cap) (L : List Bs) (hl : L.length ≤ 1000000) (hm : M.length ≤ 1000000) : ACt Tryd.prog 16 [.sl L.length (rowsA L), mV M b2 cap] ((x, lgN b f m s M false) :: (mb, .cells [mV M b2 cap, iv .i64 ((m * s : Nat) : Int)] 2 37) :: (mR M b2 cap ++ dH b a l)) (fun r F' => r = bv (decide (L = M)) ∧ F' = (x, lgN b f m s M false) :: (mb, .cells [mV M b2 cap, iv .i64 ((m * s : Nat) : Int)] 2 37) :: (mR M b2 cap ++ dH b a l)) :=
  ACt.lookU (R := (x, lgN b f m s M false) :: (mb, .cells [mV M b2 cap, iv .i64 ((m * s : Nat) : Int)] 2 37) :: dH b a l) (same_m hM L hl hm)
    (by exact (List.perm_append_comm_assoc [(x, lgN b f m s M false), (mb, .cells [mV M b2 cap, iv .i64 ((m * s : Nat) : Int)] 2 37)] (mR M b2 cap) (dH b a l)))
end
theorem rg_of {s n f m : Nat} {Z : Bs} {a : DA} (h : Stl s n (ub Z) a) (hZ : Z.length = n * s) (hfm : f + m ≤ n) : Rg s n f m (Z.take (f * s)) (Z.drop ((f + m) * s)) ((Z.drop (f * s)).take (m * s)) a := by
  have h1 := Nat.mul_le_mul_right s hfm
  rw [Nat.add_mul] at h1
  refine ⟨?_, by rw [List.length_take]; omega, by rw [List.length_take, List.length_drop]; omega⟩
  have e : Z.take (f * s) ++ ((Z.drop (f * s)).take (m * s) ++ Z.drop ((f + m) * s)) = Z := by
    rw [Nat.add_mul, ← List.drop_drop, List.take_append_drop, List.take_append_drop]
  rw [e]; exact h
end Go.Proofs.YtpjnhcjfkgjbnaaDoor
