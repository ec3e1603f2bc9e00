/-
  The two rings, side by side, through one act.
-/
import Derived.Test.YtbnkmhlnoaebcaaRgO
namespace Go.Proofs.Ytbnkmhlnoaebcaa
open Go
set_option linter.unusedVariables false
set_option linter.unusedSimpArgs false

structure RS where
  E : List Ev
  now : Nat
  o : Option (Nat × Nat)
structure Inv (w k n : Nat) (s : RS) : Prop where
  now : s.now ≤ 253402300799
  at_ : ∀ e ∈ s.E, e.at_ ≤ s.now
  gt : ∀ e ∈ s.E, e.g ≤ e.t
  len : s.E.length ≤ n
  sum : sT (winP s.now w k) s.E ≤ 9223372036854775807
  ok : evOk s.E s.o
abbrev R1 (lb w k : Nat) (E : List Ev) (now : Nat) : MB := rbM lb w k (now / w) now (sG (winP now w k) E) (sT (winP now w k) E)
abbrev L1 (w k : Nat) (E : List Ev) (now : Nat) : MB := lbM k (slG (now / w) w k E) (slT (now / w) w k E)
def blk (rb lb mb W G w k : Nat) (s : RS) : Hp := [(rb, R1 lb w k s.E s.now), (lb, L1 w k s.E s.now), (mb, mM W G s.now (evL s.E s.o))] ++ evB s.E s.o
theorem sT_mono {p q : Nat → Bool} : ∀ {E : List Ev}, (∀ e ∈ E, p e.at_ = true → q e.at_ = true) → sT p E ≤ sT q E
  | [], _ => Nat.le_refl _
  | e :: r, h => by
    have h1 := h e (List.mem_cons_self ..)
    have h2 := sT_mono (p := p) (q := q) fun x hx => h x (List.mem_cons_of_mem _ hx)
    rw [sT, sT]
    by_cases hp : p e.at_ = true
    · rw [if_pos hp, if_pos (h1 hp)]; omega
    · rw [if_neg hp]; omega
theorem Move_step (rb lb : Nat) {w k n : Nat} {s : RS} (n' : Nat) (hne : rb ≠ lb ∧ lb ≠ rb) (hw : 1 ≤ w) (hk1 : 1 ≤ k) (hk2 : k ≤ 60) (h : Inv w k n s) (hn : n' ≤ 253402300799) (hl : s.now ≤ n') :
    ACt Try.prog 20 [pt rb 0, iv .i64 (n' : Int)] [(rb, R1 lb w k s.E s.now), (lb, L1 w k s.E s.now)] (fun r F' => r = iv .i64 0 ∧ F' = [(rb, R1 lb w k s.E n'), (lb, L1 w k s.E n')]) := by
  have h0 := h.now
  have hq : s.now / w ≤ s.now := Nat.div_le_self _ _
  have hs := h.sum
  have hg : sG (winP s.now w k) s.E ≤ sT (winP s.now w k) s.E := sG_le_sT h.gt
  have c := Move_ok rb lb w k (s.now / w) s.now (slG (s.now / w) w k s.E) (slT (s.now / w) w k s.E) n' (n' / w) _ hne hn hl hw hk1 hk2 (by omega) rfl rfl
    (by rw [slG_sum _ _ _ hk1]; exact Nat.lt_of_le_of_lt (Nat.le_trans hg hs) (by omega)) (by rw [slT_sum _ _ _ hk1]; exact Nat.lt_of_le_of_lt hs (by omega))
  have hE : ∀ e ∈ s.E, e.at_ / w ≤ s.now / w := fun e he => Nat.div_le_div_right (h.at_ e he)
  rw [move_slG hk1 (Nat.div_le_div_right hl) hE, move_slT hk1 (Nat.div_le_div_right hl) hE, slG_sum _ _ _ hk1, slT_sum _ _ _ hk1, slG_sum _ _ _ hk1, slT_sum _ _ _ hk1] at c
  exact c
theorem codeAB (at_ : Int) (g t now w k st : Nat) : codeA at_ g t w k (now / w) now st = codeB at_ g t now w k st := by
  unfold codeA codeB
  simp only [Nat.not_lt]
theorem Add_step (rb lb : Nat) {w k n : Nat} {s : RS} (m g t : Nat) (hne : rb ≠ lb ∧ lb ≠ rb) (hw : 1 ≤ w) (hk1 : 1 ≤ k) (hk2 : k ≤ 60) (h : Inv w k n s) (hc : codeB m g t s.now w k (sT (winP s.now w k) s.E) = 0) (hwin : s.now / w < m / w + k) :
    ACt Try.prog 21 [pt rb 0, iv .i64 (m : Int), cnt g t] [(rb, R1 lb w k s.E s.now), (lb, L1 w k s.E s.now)] (fun r F' => r = iv .i64 0 ∧ F' = [(rb, R1 lb w k (s.E ++ [⟨m, g, t⟩]) s.now), (lb, L1 w k (s.E ++ [⟨m, g, t⟩]) s.now)]) := by
  have h0 := h.now
  have hq : s.now / w ≤ s.now := Nat.div_le_self _ _
  have hs := h.sum
  have hg : sG (winP s.now w k) s.E ≤ sT (winP s.now w k) s.E := sG_le_sT h.gt
  have hj : m / w % k < k := Nat.mod_lt _ (by omega)
  have hG := sumN_ge (slG (s.now / w) w k s.E) hj
  have hT := sumN_ge (slT (s.now / w) w k s.E) hj
  rw [slG_sum _ _ _ hk1] at hG
  rw [slT_sum _ _ _ hk1] at hT
  have c := Add_ok rb lb w k (s.now / w) s.now (sG (winP s.now w k) s.E) (sT (winP s.now w k) s.E) g t m (m / w % k) (slG (s.now / w) w k s.E) (slT (s.now / w) w k s.E) hne hw hk1 hk2 (by omega) hs hg rfl hG hT (by rw [codeAB]; exact hc)
  rw [← add_slG (g := g) (t := t) hwin, ← add_slT (g := g) (t := t) hwin] at c
  have e1 : sG (winP s.now w k) (s.E ++ [⟨m, g, t⟩]) = sG (winP s.now w k) s.E + g := by
    rw [sG_app]; simp [sG, winP, hwin]
  have e2 : sT (winP s.now w k) (s.E ++ [⟨m, g, t⟩]) = sT (winP s.now w k) s.E + t := by
    rw [sT_app]; simp [sT, winP, hwin]
  rw [← e1, ← e2] at c
  exact c
end Go.Proofs.Ytbnkmhlnoaebcaa
