/-
  The walks and the laws that the statement leans on, part 35.
-/
import Derived.Test.YtfknbndmabogjaaDoorB25
import Derived.Test.YtfknbndmabogjaaDoorB34
namespace Go.Proofs.YtfknbndmabogjaaDoor
open Go
set_option linter.unusedVariables false
set_option linter.unusedSimpArgs false
theorem ixE_at : ∀ (l : List En) (k : Ky) (j : Nat) (h : j < l.length) (i : Int), (∀ q (hq : q < l.length), q < j → l[q].k ≠ k) → l[j].k = k → ixE l k i = i + (j : Int)
  | e :: l, k, 0, h, i, h1, h2 => by
    rw [ixE_cons, if_pos ((keqB_iff e.k k).2 h2)]; omega
  | e :: l, k, j + 1, h, i, h1, h2 => by
    have h0 : ¬ keqB e.k k = true := fun hh => h1 0 (by simp) (by omega) ((keqB_iff _ _).1 hh)
    rw [ixE_cons, if_neg h0, ixE_at l k j (by simpa using h) (i + 1) (fun q hq hqj => h1 (q + 1) (by simpa using hq) (by omega)) (by simpa using h2)]
    omega
theorem ixE_key : ∀ (l : List En) (k : Ky) (i : Int) (j : Nat), ixE l k i = i + (j : Int) → 0 ≤ i → ∃ h : j < l.length, l[j].k = k
  | [], k, i, j, h, hi => by simp [ixE] at h; omega
  | e :: l, k, i, j, h, hi => by
    rw [ixE_cons] at h
    by_cases hq : keqB e.k k = true
    · rw [if_pos hq] at h
      obtain rfl : j = 0 := by omega
      exact ⟨by simp, (keqB_iff _ _).1 hq⟩
    · rw [if_neg hq] at h
      rcases ixE_lt l k (i + 1) (by omega) with h1 | h1
      · omega
      obtain ⟨j', rfl⟩ : ∃ j', j = j' + 1 := ⟨j - 1, by omega⟩
      obtain ⟨h2, h3⟩ := ixE_key l k (i + 1) j' (by omega) (by omega)
      exact ⟨by simpa using h2, by simpa using h3⟩
theorem ixE_mem : ∀ (l : List En) (k : Ky) (i : Int), 0 ≤ i → k ∈ l.map (·.k) → 0 ≤ ixE l k i
  | [], k, i, hi, h => by simp at h
  | e :: l, k, i, hi, h => by
    rw [ixE_cons]
    by_cases hq : keqB e.k k = true
    · rw [if_pos hq]; exact hi
    · rw [if_neg hq]
      refine ixE_mem l k (i + 1) (by omega) ?_
      rcases List.mem_cons.1 h with h1 | h1
      · exact absurd ((keqB_iff _ _).2 h1.symm) hq
      · exact h1
theorem rg_nodup (l : List En) : rgB l l 0 = true ↔ (∀ e ∈ l, erB e = true) ∧ (l.map (·.k)).Nodup := by
  rw [rgB_iff]
  constructor
  · intro h
    refine ⟨fun e he => ?_, ?_⟩
    · obtain ⟨j, hj, rfl⟩ := List.mem_iff_getElem.1 he
      exact (h j hj).1
    · rw [List.Nodup, List.pairwise_iff_getElem]
      intro i j hi hj hij he
      simp only [List.length_map] at hi hj
      simp only [List.getElem_map] at he
      have h1 := (h i hi).2
      have h2 := (h j hj).2
      rw [he, h2] at h1
      omega
  · intro ⟨h1, h2⟩ j hj
    refine ⟨h1 _ (List.getElem_mem _), ?_⟩
    rw [ixE_at l _ j hj 0 (fun q hq hqj he => ?_) rfl]
    · omega
    · rw [List.Nodup, List.pairwise_iff_getElem] at h2
      exact h2 q j (by simpa using hq) (by simpa using hj) hqj (by simpa using he)
theorem bx_iff (b : Bx) : bxB b = true ↔ (b.l.length ≤ 64 ∧ b.d ≤ 9223372036854775807) ∧ (∀ e ∈ b.l, erB e = true) ∧ (b.l.map (·.k)).Nodup := by
  unfold bxB
  rw [Bool.and_eq_true, Bool.and_eq_true, decide_eq_true_eq, decide_eq_true_eq, rg_nodup]
theorem bx_sub {b : Bx} {l : List En} (hb : bxB b = true) (h : l.Sublist b.l) : bxB ⟨l, b.d⟩ = true := by
  rw [bx_iff] at hb ⊢
  exact ⟨⟨Nat.le_trans h.length_le hb.1.1, hb.1.2⟩, fun e he => hb.2.1 e (h.subset he), hb.2.2.sublist (h.map _)⟩
theorem st_right {ks : List Ky} {b : Bx} (hb : bxB b = true) : bxB (stB ks b) = true := by
  unfold stB
  rw [if_pos hb]
  exact bx_sub hb List.filter_sublist
theorem st_keep {ks : List Ky} {b : Bx} {e : En} (he : e ∈ b.l) (ha : e.a = false) : 0 ≤ ixE (stB ks b).l e.k 0 := by
  refine ixE_mem _ _ _ (Int.le_refl _) (List.mem_map_of_mem ?_)
  unfold stB
  split
  · exact List.mem_filter.2 ⟨he, by unfold dlB; rw [ha]; rfl⟩
  · exact he
theorem getD_of {l : List En} {j : Nat} (h : j < l.length) : l.getD j dEn = l[j] := by rw [List.getD_eq_getElem?_getD, List.getElem?_eq_getElem h]; rfl
theorem ak_right {n : Nt} {b : Bx} {k : Ky} {now : Int} {f : Bool} (hb : bxB b = true) : bxB (akB n b k now f) = true := by
  unfold akB
  split
  · exact hb
  rename_i h
  have h : (ntB n && bxB b && tkB now) = true := by simpa using h
  simp only [Bool.and_eq_true] at h
  split
  · exact hb
  rename_i hx
  split
  · exact hb
  obtain ⟨j, hj⟩ := Int.eq_ofNat_of_zero_le (show 0 ≤ ixE b.l k 0 by omega)
  obtain ⟨hjl, hjk⟩ := ixE_key b.l k 0 j (by omega) (Int.le_refl _)
  rw [hj, Int.toNat_natCast, getD_of hjl]
  split
  · rename_i hf
    simp only [Bool.and_eq_true, decide_eq_true_eq] at hf
    rw [bx_iff] at hb ⊢
    refine ⟨⟨by rw [List.length_set]; exact hb.1.1, hb.1.2⟩, fun e he => ?_, ?_⟩
    · rcases List.mem_or_eq_of_mem_set he with h1 | h1
      · exact hb.2.1 e h1
      · have ho := hb.2.1 _ (List.getElem_mem hjl)
        subst h1
        have ht := h.2
        have hn := h.1.1
        unfold tkB at ht
        unfold ntB at hn
        have ht := of_decide_eq_true ht
        have hn := of_decide_eq_true hn
        unfold erB at ho ⊢
        simp only [Bool.and_eq_true, decide_eq_true_eq] at ho ⊢
        have hbt := ho.1.1.1.1.2
        unfold tkB at hbt
        have hbt := of_decide_eq_true hbt
        have hr := hf.2
        unfold akN
        have hw : IntKind.i64.wrap ((if now < b.l[j].b then b.l[j].b else now) + n.rep) = (if now < b.l[j].b then b.l[j].b else now) + n.rep := wrap_i64 (by split <;> omega) (by split <;> omega)
        rw [hw]
        refine ⟨⟨⟨⟨ho.1.1.1.1, ?_⟩, ?_⟩, ho.1.2⟩, ho.2⟩
        · split <;> omega
        · split <;> omega
    · have : (b.l.set j ⟨b.l[j].k, b.l[j].b, akN n b.l[j] now, b.l[j].t, true⟩).map (·.k) = b.l.map (·.k) := by
        rw [List.map_set]
        refine List.ext_getElem (by simp) fun q h1 h2 => ?_
        rw [List.getElem_set]
        split
        · rename_i e; subst e; simp
        · rfl
      rw [this]; exact hb.2.2
  · refine bx_sub hb ?_
    rw [← List.eraseIdx_eq_take_drop_succ]
    exact List.eraseIdx_sublist ..
theorem ak_keeps {n : Nt} {b : Bx} {k : Ky} {now : Int} {f : Bool} {e : En} (he : e ∈ b.l) (hk : e.k ≠ k) : 0 ≤ ixE (akB n b k now f).l e.k 0 := by
  refine ixE_mem _ _ _ (Int.le_refl _) ?_
  have hm : e.k ∈ b.l.map (·.k) := List.mem_map_of_mem he
  unfold akB
  split
  · exact hm
  split
  · exact hm
  rename_i hx
  split
  · exact hm
  obtain ⟨j, hj⟩ := Int.eq_ofNat_of_zero_le (show 0 ≤ ixE b.l k 0 by omega)
  obtain ⟨hjl, hjk⟩ := ixE_key b.l k 0 j (by omega) (Int.le_refl _)
  rw [hj, Int.toNat_natCast, getD_of hjl]
  obtain ⟨i, hi, rfl⟩ := List.mem_iff_getElem.1 he
  have hij : i ≠ j := fun h => hk (by subst h; exact hjk)
  split
  · refine List.mem_map.2 ⟨b.l[i], ?_, rfl⟩
    refine List.mem_iff_getElem.2 ⟨i, by simpa using hi, ?_⟩
    rw [List.getElem_set_ne (Ne.symm hij)]
  · refine List.mem_map_of_mem ?_
    rw [← List.eraseIdx_eq_take_drop_succ]
    exact (List.mem_eraseIdx_iff_getElem).2 ⟨i, hi, hij, rfl⟩
theorem ak_kz {n : Nt} {b : Bx} {k : Ky} {now : Int} {f : Bool} (h : ∀ e ∈ b.l, Kz e.k) : ∀ e ∈ (akB n b k now f).l, Kz e.k := by
  have hs : ∀ e ∈ (akB n b k now f).l, e.k ∈ b.l.map (·.k) := by
    unfold akB
    split
    · exact fun e he => List.mem_map_of_mem he
    split
    · exact fun e he => List.mem_map_of_mem he
    rename_i hx
    split
    · exact fun e he => List.mem_map_of_mem he
    obtain ⟨j, hj⟩ := Int.eq_ofNat_of_zero_le (show 0 ≤ ixE b.l k 0 by omega)
    obtain ⟨hjl, hjk⟩ := ixE_key b.l k 0 j (by omega) (Int.le_refl _)
    rw [hj, Int.toNat_natCast, getD_of hjl]
    split
    · intro e he
      rcases List.mem_or_eq_of_mem_set he with h1 | h1
      · exact List.mem_map_of_mem h1
      · rw [h1]
        show b.l[j].k ∈ b.l.map (·.k)
        exact List.mem_map.2 ⟨_, List.getElem_mem hjl, rfl⟩
    · intro e he
      rw [← List.eraseIdx_eq_take_drop_succ] at he
      exact List.mem_map_of_mem ((List.eraseIdx_sublist ..).subset he)
  intro e he
  obtain ⟨e', h1, h2⟩ := List.mem_map.1 (hs e he)
  rw [← h2]; exact h e' h1
theorem st_kz {ks : List Ky} {b : Bx} (h : ∀ e ∈ b.l, Kz e.k) : ∀ e ∈ (stB ks b).l, Kz e.k := by
  unfold stB
  split
  · exact fun e he => h e (List.mem_filter.1 he).1
  · exact h
theorem ak_len (n : Nt) (b : Bx) (k : Ky) (now : Int) (f : Bool) : (akB n b k now f).l.length ≤ b.l.length := by
  unfold akB
  split
  · simp
  split
  · simp
  split
  · simp
  split
  · simp
  · simp; omega
theorem st_len (ks : List Ky) (b : Bx) : (stB ks b).l.length ≤ b.l.length := by
  unfold stB
  split
  · exact List.length_filter_le ..
  · exact Nat.le_refl _
end Go.Proofs.YtfknbndmabogjaaDoor
