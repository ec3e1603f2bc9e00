/-
  The walks and the laws that the statement leans on, part 27.
-/
import Derived.Test.YtdkkfgcdnojmaaaDoorS25
import Derived.Test.YtdkkfgcdnojmaaaDoorS26
namespace Go.Proofs.YtdkkfgcdnojmaaaDoor
open Go
set_option linter.unusedVariables false
set_option linter.unusedSimpArgs false
theorem enc42 : enc8 42 = [42] := by decide
theorem enc63 : enc8 63 = [63] := by decide
theorem enc_nm {r : Int} (hr : Gr r) (h1 : r ≠ 42) (h2 : r ≠ 63) : ∀ z ∈ enc8 r, z ≠ 42 ∧ z ≠ 63 := by
  obtain ⟨g1, g2, -⟩ := hr
  unfold enc8
  intro z hz
  split at hz
  · simp only [List.mem_cons, List.not_mem_nil, or_false] at hz; subst hz; exact ⟨h1, h2⟩
  · split at hz
    · simp only [List.mem_cons, List.not_mem_nil, or_false] at hz; omega
    · split at hz
      · simp only [List.mem_cons, List.not_mem_nil, or_false] at hz; omega
      · simp only [List.mem_cons, List.not_mem_nil, or_false] at hz; omega
theorem mkE_enc : ∀ (k : Nat) (b : Bool), (mkE k b).flatMap enc8 = mkE k b
  | 0, b => by cases b <;> simp [mkE, enc42]
  | k + 1, b => by rw [mkE_succ, List.flatMap_cons, enc63, mkE_enc k]; rfl
theorem sq_enc : ∀ (l : List Int) (h : ∀ r ∈ l, Gr r) (k : Nat) (b : Bool), sq k b (l.flatMap enc8) = (sq k b l).flatMap enc8
  | [], h, k, b => by show mkE k b = (mkE k b).flatMap enc8; rw [mkE_enc]
  | c :: l, h, k, b => by
    have ih := sq_enc l fun r hr => h r (List.mem_cons_of_mem _ hr)
    rw [List.flatMap_cons]
    by_cases h1 : c = 42
    · subst h1; rw [enc42, List.singleton_append, sq_star, sq_star, ih]
    · by_cases h2 : c = 63
      · subst h2; rw [enc63, List.singleton_append, sq_one, sq_one, ih]
      · have hg := h c (List.mem_cons_self ..)
        have hl := enc8_len c
        rw [sq_else k b l h1 h2, sq_plain _ _ _ _ (fun e => by rw [e] at hl; simp at hl) (enc_nm hg h1 h2), ih, List.flatMap_append, List.flatMap_cons, mkE_enc]
theorem sq_facts {zs : List Int} (hb : By zs) (h : rtB zs = true) : By (sq 0 false zs) ∧ rtB (sq 0 false zs) = true ∧ sq 0 false (sq 0 false zs) = sq 0 false zs ∧ rn (sq 0 false zs) = sq 0 false (rn zs) ∧
    (∀ r ∈ sq 0 false (rn zs), Gr r) ∧ sq 0 false zs = (sq 0 false (rn zs)).flatMap enc8 ∧ ∀ ss, mtB (sq 0 false zs) ss = mtB zs ss := by
  obtain ⟨h0, hg, hl⟩ := rt_iff.1 h
  have hgr := gr_rn hb hg
  have e : sq 0 false zs = (sq 0 false (rn zs)).flatMap enc8 := by rw [← sq_enc _ hgr, enc_rn hb hg]
  have hq : ∀ r ∈ sq 0 false (rn zs), Gr r := fun r hr => by
    rcases sq_mem _ _ _ _ hr with h | h | h
    · subst h; unfold Gr; omega
    · subst h; unfold Gr; omega
    · exact hgr r h
  have er : rn (sq 0 false zs) = sq 0 false (rn zs) := by rw [e, rn_encs0 hq]
  have hne : rn zs ≠ [] := fun e => h0 (rn_nil_iff.1 e)
  have hsl := sq_len (rn zs) 0 false
  simp at hsl
  have hr : rtB (sq 0 false zs) = true := by rw [e]; exact rt_encs hq (sq_ne _ _ _ (.inl hne)) (by omega)
  refine ⟨by rw [e]; exact by_encs hq, hr, ?_, er, hq, e, fun ss => ?_⟩
  · have := sq_sq zs 0 0 false false
    simpa using this
  · rw [Bool.eq_iff_iff, mt_iff, mt_iff, er]
    refine and_congr (by rw [h, hr]) ?_
    have := Mt_sq (rn zs) 0 false (rn ss)
    rwa [mkE_zero, List.nil_append] at this
end Go.Proofs.YtdkkfgcdnojmaaaDoor
