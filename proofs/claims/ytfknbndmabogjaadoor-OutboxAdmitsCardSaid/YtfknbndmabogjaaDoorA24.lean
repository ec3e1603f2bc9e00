/-
  The walks and the laws that the statement leans on, part 24.
-/
import Derived.Test.YtfknbndmabogjaaDoorA20
import Derived.Test.YtfknbndmabogjaaDoorA23
namespace Go.Proofs.YtfknbndmabogjaaDoor
open Go
set_option linter.unusedVariables false
set_option linter.unusedSimpArgs false
theorem hv_kz {k : Ky} (h : hvB k = false) : Kz k := by
  unfold hvB at h
  simp only [Bool.or_eq_false_iff, decide_eq_false_iff_not] at h
  exact ⟨by omega, by omega⟩
theorem hb_kz {b : Bx} (h : hbB b = false) : b.l.length ≤ 80 ∧ ∀ e ∈ b.l, Kz e.k := by
  unfold hbB at h
  simp only [Bool.or_eq_false_iff, decide_eq_false_iff_not] at h
  refine ⟨by omega, fun e he => hv_kz ?_⟩
  have := h.2
  rw [List.any_eq_false] at this
  simpa using this e he
theorem ixE_cons (e : En) (l : List En) (k : Ky) (i : Int) : ixE (e :: l) k i = if keqB e.k k then i else ixE l k (i + 1) := rfl
theorem ixE_app : ∀ (l m : List En) (k : Ky) (i : Int), 0 ≤ i → ixE (l ++ m) k i = if 0 ≤ ixE l k i then ixE l k i else ixE m k (i + l.length)
  | [], m, k, i, h => by
    rw [List.nil_append, if_neg (by simp [ixE])]; simp
  | e :: l, m, k, i, h => by
    rw [List.cons_append, ixE_cons, ixE_cons]
    by_cases hq : keqB e.k k = true
    · rw [if_pos hq, if_pos hq, if_pos h]
    · rw [if_neg hq, if_neg hq, ixE_app l m k (i + 1) (by omega)]
      simp only [List.length_cons]
      rw [show i + 1 + (l.length : Int) = i + ((l.length + 1 : Nat) : Int) by omega]
theorem rgB_iff : ∀ (L l : List En) (i : Nat), rgB L l i = true ↔ ∀ j (h : j < l.length), erB l[j] = true ∧ ixE L l[j].k 0 = ((i + j : Nat) : Int)
  | L, [], i => by simp [rgB]
  | L, e :: l, i => by
    rw [rgB, Bool.and_eq_true, Bool.and_eq_true, rgB_iff L l (i + 1)]
    constructor
    · rintro ⟨⟨h1, h2⟩, h3⟩ j h
      cases j with
      | zero => exact ⟨h1, by simpa using h2⟩
      | succ j =>
        have := h3 j (by simpa using h)
        exact ⟨this.1, by rw [List.getElem_cons_succ, this.2]; omega⟩
    · intro h
      refine ⟨⟨(h 0 (by simp)).1, ?_⟩, fun j hj => ?_⟩
      · have := (h 0 (by simp)).2
        simpa using this
      · have := h (j + 1) (by simpa using hj)
        rw [List.getElem_cons_succ] at this
        exact ⟨this.1, by rw [this.2]; omega⟩
theorem bx_app {b : Bx} {e : En} (hb : bxB b = true) (hl : b.l.length < 64) (he : erB e = true) (hx : ¬ 0 ≤ ixE b.l e.k 0) : bxB ⟨b.l ++ [e], b.d⟩ = true := by
  unfold bxB at hb ⊢
  simp only [Bool.and_eq_true, decide_eq_true_eq] at hb ⊢
  refine ⟨⟨by rw [List.length_append]; simp; omega, hb.1.2⟩, ?_⟩
  rw [rgB_iff] at hb ⊢
  intro j hj
  rw [List.length_append, List.length_singleton] at hj
  rw [ixE_app _ _ _ _ (by omega)]
  by_cases h : j < b.l.length
  · rw [List.getElem_append_left h]
    have := hb.2 j h
    rw [this.2, if_pos (by omega)]
    exact ⟨this.1, rfl⟩
  · obtain rfl : j = b.l.length := by omega
    rw [List.getElem_append_right (by omega)]
    simp only [Nat.sub_self, List.getElem_singleton]
    rw [if_neg hx]
    refine ⟨he, ?_⟩
    unfold ixE
    rw [if_pos ((keqB_iff _ _).2 rfl)]
    omega
theorem ad_right {n : Nt} {b : Bx} {k : Ky} {now : Int} (hb : bxB b = true) (hd0 : 0 ≤ b.d) : bxB (adB n b k now) = true := by
  unfold adB
  split
  · exact hb
  rename_i h
  have h : (ntB n && bxB b && krB k && tkB now) = true := by simpa using h
  simp only [Bool.and_eq_true] at h
  split
  · exact hb
  rename_i hx
  split
  · have hd := bx_d hb
    unfold bxB at hb ⊢
    simp only [Bool.and_eq_true, decide_eq_true_eq] at hb ⊢
    refine ⟨⟨hb.1.1, ?_⟩, hb.2⟩
    split <;> omega
  · rename_i hr
    have hr : rmB n b k = true := by simpa using hr
    have hn := h.1.1.1
    unfold ntB at hn
    have hn := of_decide_eq_true hn
    unfold rmB at hr
    have hr := of_decide_eq_true hr
    refine bx_app hb ?_ ?_ hx
    · split at hr <;> omega
    · have ht := h.2
      unfold erB
      simp only [h.1.2, ht, Bool.true_and]
      unfold tkB at ht
      have ht := of_decide_eq_true ht
      rw [decide_eq_true (show now ≥ now from Int.le_refl _), decide_eq_true (show now ≤ 253404892799 by omega)]
      rfl
theorem ad_pre (n : Nt) (b : Bx) (k : Ky) (now : Int) : ∃ t, (adB n b k now).l = b.l ++ t := by
  unfold adB
  split
  · exact ⟨[], by simp⟩
  split
  · exact ⟨[], by simp⟩
  split
  · exact ⟨[], by simp⟩
  · exact ⟨_, rfl⟩
theorem ad_len (n : Nt) (b : Bx) (k : Ky) (now : Int) : (adB n b k now).l.length ≤ b.l.length + 1 := by
  unfold adB
  split
  · simp
  split
  · simp
  split
  · simp
  · simp
theorem ad_kz {n : Nt} {b : Bx} {k : Ky} {now : Int} (h : ∀ e ∈ b.l, Kz e.k) (hk : Kz k) : ∀ e ∈ (adB n b k now).l, Kz e.k := by
  unfold adB
  split
  · exact h
  split
  · exact h
  split
  · exact h
  · intro e he
    rcases List.mem_append.1 he with h1 | h1
    · exact h e h1
    · rw [List.mem_singleton.1 h1]; exact hk
end Go.Proofs.YtfknbndmabogjaaDoor
