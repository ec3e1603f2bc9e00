/-
  The walks and the laws that the statement leans on, part 35.
-/
import Derived.Test.YtfknbndmabogjaaDoorC34
namespace Go.Proofs.YtfknbndmabogjaaDoor
open Go
set_option linter.unusedVariables false
set_option linter.unusedSimpArgs false
theorem waitN_le (f m i : Nat) : waitN f m i ≤ m := by unfold waitN; split <;> omega
theorem wt_bd {n : Nt} {e : En} (hn : ntB n = true) : 0 ≤ wtN n e ∧ wtN n e ≤ 2592000 := by
  unfold ntB at hn
  have hn := of_decide_eq_true hn
  unfold wtN
  split
  · omega
  · have := waitN_le n.first.toNat n.cap.toNat ((if e.t < 1000000 then e.t + 1 else e.t).toNat - 1)
    omega
theorem sn_er {n : Nt} {now : Int} {hs : List Ky} {e : En} (hn : ntB n = true) (ht : tkB now = true) (he : erB e = true) (hg : gsB n now hs e = true) : erB (snE n now e) = true := by
  have hw := wt_bd (e := e) hn
  unfold gsB dueB at hg
  simp only [Bool.and_eq_true, decide_eq_true_eq] at hg
  unfold tkB at ht
  have ht := of_decide_eq_true ht
  unfold erB at he ⊢
  simp only [Bool.and_eq_true, decide_eq_true_eq] at he
  have hb := he.1.1.1.1.2
  have hg1 := hg.1.1
  have h1 : now + wtN n e ≥ e.b := by omega
  have h2 : now + wtN n e ≤ 253404892799 := by omega
  have h3 : (if e.t < 1000000 then e.t + 1 else e.t) ≥ 0 := by split <;> omega
  have h4 : (if e.t < 1000000 then e.t + 1 else e.t) ≤ 1000000 := by split <;> omega
  show (krB e.k && tkB e.b && decide (now + wtN n e ≥ e.b) && decide (now + wtN n e ≤ 253404892799) && decide ((if e.t < 1000000 then e.t + 1 else e.t) ≥ 0) && decide ((if e.t < 1000000 then e.t + 1 else e.t) ≤ 1000000)) = true
  rw [he.1.1.1.1.1, hb, decide_eq_true h1, decide_eq_true h2, decide_eq_true h3, decide_eq_true h4]; rfl
theorem sn_right {n : Nt} {b : Bx} {now : Int} {hs : List Ky} (hb : bxB b = true) : bxB (snB n b now hs) = true := by
  unfold snB
  split
  · rename_i h
    simp only [Bool.and_eq_true] at h
    rw [bx_iff] at hb ⊢
    refine ⟨⟨by simpa using hb.1.1, hb.1.2⟩, fun e he => ?_, ?_⟩
    · obtain ⟨e', h1, rfl⟩ := List.mem_map.1 he
      split
      · rename_i hg; exact sn_er h.1.1 h.2 (hb.2.1 e' h1) hg
      · exact hb.2.1 e' h1
    · have : (b.l.map fun e => if gsB n now hs e then snE n now e else e).map (·.k) = b.l.map (·.k) := by
        rw [List.map_map]
        refine List.map_congr_left fun e _ => ?_
        simp only [Function.comp]
        split <;> rfl
      rw [this]; exact hb.2.2
  · exact hb
theorem sn_len (n : Nt) (b : Bx) (now : Int) (hs : List Ky) : (snB n b now hs).l.length = b.l.length := by
  unfold snB
  split
  · simp
  · rfl
theorem sn_sent {n : Nt} {b : Bx} {now : Int} {hs : List Ky} {k : Ky} (h : k ∈ snK n b now hs) : hasB hs k = false ∧ 0 ≤ ixE b.l k 0 := by
  unfold snK at h
  split at h
  · obtain ⟨e, h1, rfl⟩ := List.mem_map.1 h
    obtain ⟨h2, h3⟩ := List.mem_filter.1 h1
    unfold gsB at h3
    simp only [Bool.and_eq_true, Bool.not_eq_true'] at h3
    exact ⟨h3.2, ixE_mem _ _ _ (Int.le_refl _) (List.mem_map.2 ⟨e, h2, rfl⟩)⟩
  · cases h
end Go.Proofs.YtfknbndmabogjaaDoor
