/-
  The walks and the laws that the statement leans on, part 35.
-/
import Derived.Test.YtpjnhcjfkgjbnaaDoorL10
import Derived.Test.YtpjnhcjfkgjbnaaDoorL34
namespace Go.Proofs.YtpjnhcjfkgjbnaaDoor
open Go
set_option linter.unusedVariables false
set_option linter.unusedSimpArgs false
theorem MkI.write {n s c : Nat} {a : DA} (h : MkI n s c a) {i : Nat} (hi : i < n) (z : Bs) (hz : z.length ≤ s) : MkI n s (c + 1) (wrA a (i : Int) (ub z)) := by
  have hm := writeC (a := a) (i := i) (k := z.length) h.dk (by rw [h.n]; omega) (by rw [h.s]; omega)
  have e : wrA a (i : Int) (ub z) = { a with f := fuseN a.f, de := a.de + 1, W := a.W ++ [(i, pad a.size (ub z))], S := a.S.set i (pad a.size (ub z)) } := by
    unfold wrA
    rw [if_neg (by rw [ub_len]; exact fun h => h hm), if_neg (by rw [h.f]; omega)]
    rfl
  have hA := wrA_ok h.A (i : Int) (ub z)
  refine ⟨hA, by rw [e]; exact h.s, by rw [e]; exact h.n, by rw [e]; simp only [h.f]; rfl, by rw [e]; exact h.dk, fun y hy => ?_⟩
  rw [e] at hy
  rcases List.mem_or_eq_of_mem_set hy with h' | rfl
  · exact h.by_ y h'
  · refine ⟨z ++ zrs (a.size - z.length), ?_⟩
    rw [ub_append, ub_zrs]
    unfold pad
    rw [ub_len]
theorem MkI.sync {n s c : Nat} {a : DA} (h : MkI n s c a) : MkI n s (c + 1) (syA a) ∧ ∃ Z : Bs, Stl s n (ub Z) (syA a) := by
  have e : syA a = { a with f := fuseN a.f, de := a.de + 1, L := a.S, W := [] } := by
    unfold syA
    rw [if_neg (by rw [h.dk]; simp), if_neg (by rw [h.f]; omega)]
  have hA := syA_ok h.A
  have hb : ∀ (S : List (List Int)), (∀ z ∈ S, ∃ x : Bs, z = ub x) → ∃ Z : Bs, S.flatten = ub Z := by
    intro S
    induction S with
    | nil => intro _; exact ⟨[], rfl⟩
    | cons x r ih =>
      intro hS
      obtain ⟨Z, hZ⟩ := ih fun z hz => hS z (List.mem_cons_of_mem _ hz)
      obtain ⟨y, hy⟩ := hS x (List.mem_cons_self ..)
      exact ⟨y ++ Z, by rw [List.flatten_cons, hZ, hy, ub_append]⟩
  obtain ⟨Z, hZ⟩ := hb _ h.by_
  refine ⟨⟨hA, by rw [e]; exact h.s, by rw [e]; exact h.n, by rw [e]; simp only [h.f]; rfl, by rw [e]; exact h.dk, fun z hz => ?_⟩, Z, ?_⟩
  · rw [e] at hz; exact h.by_ z hz
  · rw [e]; exact ⟨h.s, h.n, rfl, rfl, h.dk, hZ⟩
end Go.Proofs.YtpjnhcjfkgjbnaaDoor
namespace Go.Proofs.YtpjnhcjfkgjbnaaDoor
open Go
set_option linter.unusedVariables false
set_option linter.unusedSimpArgs false
section
variable {c s n f m : Nat} {P Q R : Bs} {a : DA}
theorem open_go (b : Nat) (l : DL) (hA : AOk c a) (hR : Rg s n f m P Q R a) (hl : LOk b a l) (hfm : f + m ≤ n) (hm : 1 ≤ m) (hc : c + m ≤ 980) (h0 : (opR a f s R).2 = 0) :
    ACt Tryd.prog 12 [pt b 0, iv .i64 (f : Int), iv .i64 (m : Int)] (dH b a l) (fun r F' => ∃ g : OpG b (opR a f s R).1, r = .tup [pt g.x 0, .sl (all R).1.length (rowsA (all R).1), iv .i64 0] ∧ F' = (g.x, lgM b f m (ub (tlB R (all R).2 s)) (all R).2 false) :: dH b (opR a f s R).1 g.q.1) := by
  cases hD : opD R with
  | true => exact (open_dirty b a l hA hR hl hfm hm hD hc).1 h0
  | false =>
    have e : opR a f s R = (a, 0) := by unfold opR; rw [if_neg (by rw [hD]; simp)]
    rw [e]
    exact (open_clean b a l hA hR hl hfm hm hD).mono fun r F' ⟨x, h1, h2⟩ => ⟨⟨x, ⟨l, hl⟩⟩, h1, h2⟩
theorem open_dk (b : Nat) (l : DL) (hA : AOk c a) (hR : Rg s n f m P Q R a) (hl : LOk b a l) (hfm : f + m ≤ n) (hm : 1 ≤ m) (hc : c + m ≤ 980) (h0 : (opR a f s R).2 = 12) :
    ACt Tryd.prog 12 [pt b 0, iv .i64 (f : Int), iv .i64 (m : Int)] (dH b a l) (fun r F' => ∃ q : LS b (opR a f s R).1, r = .tup [.lit (.pointer none), .sl 0 [], iv .i64 12] ∧ F' = dH b (opR a f s R).1 q.1) := by
  cases hD : opD R with
  | true =>
    have := (open_dirty b a l hA hR hl hfm hm hD hc).2 (by rw [h0]; decide)
    rwa [h0] at this
  | false =>
    have e : opR a f s R = (a, 0) := by unfold opR; rw [if_neg (by rw [hD]; simp)]
    rw [e] at h0; cases h0
theorem opR_ok (hA : AOk c a) (hR : Rg s n f m P Q R a) : AOk (c + m + 1) (opR a f s R).1 := by
  unfold opR
  cases hD : opD R with
  | false => rw [if_neg (by simp)]; exact hA.le (by omega)
  | true =>
    rw [if_pos rfl]
    have hs1 : 1 ≤ s := by have := hA.s1; have := hR.st.s; omega
    obtain ⟨hzl, hdv, hkm⟩ := opZ_len R s m _ hs1 hR.lR rfl
    have hcl : (cks s (ub (opZ R s))).length ≤ m - (all R).2 / s := cks_len_le hs1 (by rw [ub_len, hzl]; omega)
    exact (lyR_ok _ a _ c hA).le (by have := Nat.sub_le m ((all R).2 / s); omega)
theorem Stl.crA {s n : Nat} {T : List Int} {a : DA} (h : Stl s n T a) (K T' : Int) : Stl s n T (crA a K T') := by
  have e : crL a.L a.W (hN K a.W.length) (hN T' a.size) = a.S := by rw [h.W, ← h.LS]; simp [crL, layW]
  unfold Go.Proofs.YtpjnhcjfkgjbnaaDoor.crA
  rw [e]
  exact ⟨h.s, h.n, rfl, rfl, rfl, h.T⟩
theorem Com.crash {N : Bs} {X : DA × Int} (h : Com s n f m P Q N R a X) (K T : Int) : ∃ R4, (R4 = N ∨ ∃ p, R4 = mix N R p) ∧ Rg s n f m P Q R4 (crA X.1 K T) := by
  rcases h with ⟨-, h2, -⟩ | ⟨-, -, h2⟩
  · exact ⟨N, .inl rfl, ⟨h2.st.crA K T, h2.lP, h2.lR⟩⟩
  · obtain ⟨p, hp⟩ := h2.cr K T
    exact ⟨_, .inr ⟨p, rfl⟩, hp⟩
theorem all_sml (R : Bs) : Sml (all R).1 := (all_split _ R (Nat.le_refl _)).2.2.2.1
theorem all_usd (R : Bs) : (all R).2 = usd (all R).1 := (all_split _ R (Nat.le_refl _)).2.1
theorem all_clR (R : Bs) : all (clR R) = all R := by
  rw [clR_frs, all_frz _ _ (all_sml R), ← all_usd]
theorem all_open {R4 : Bs} (h : R4 = clR R ∨ ∃ p, R4 = mix (clR R) R p) : all R4 = all R := by
  rcases h with rfl | ⟨p, rfl⟩
  · exact all_clR R
  · exact mix_clean R p
theorem Rg.fuse (h : Rg s n f m P Q R a) (F : Int) : Rg s n f m P Q R (fuA a F) := ⟨⟨h.st.s, h.st.n, h.st.W, h.st.LS, h.st.dk, h.st.T⟩, h.lP, h.lR⟩
theorem LOk.fuse {b : Nat} {l : DL} (h : LOk b a l) (F : Int) : LOk b (fuA a F) l := ⟨h.cl, h.cs, h.k, h.nd⟩
theorem LgI.of_open (hA : AOk c a) (hR : Rg s n f m P Q (clR R) a) (hfm : f + m ≤ n) (hm : 1 ≤ m) : LgI c s n f m P Q (all R).1 a := by
  have h1 := hR.lR
  rw [clR_len] at h1
  refine ⟨hA, ?_, ?_, all_sml R, hfm, hm⟩
  · rw [← h1, ← clR_frs]; exact hR
  · rw [← all_usd, ← h1]; exact all_le R
end
theorem upd0 {f : FuncId} {args : List AV} {F F0 : Hp} {x : AV} (X : Hp) (h : ACt Tryd.prog f args F (fun r F' => r = x ∧ F' = F0)) : ACt Tryd.prog f args (X ++ F) (fun r F' => r = x ∧ F' = X ++ F0) :=
  ACt.frm (R := X) h List.perm_append_comm fun r F' hr _ => by
    obtain ⟨e1, e2⟩ := hr
    subst e1 e2
    exact ⟨_, [], by rw [List.append_nil]; exact List.perm_append_comm, rfl, rfl⟩
end Go.Proofs.YtpjnhcjfkgjbnaaDoor
