/-
  The law RingPlays, as the frame asks for it.
-/
import Derived.Test.YtbnkmhlnoaebcaaRgS
namespace Go.Proofs.Ytbnkmhlnoaebcaa
open Go
abbrev acTy : Ty := .st [.int .i64, .int .i64, .st [.int .u64, .int .u64]]
theorem ac_rows : ∀ (rows : List (List AV)), (∀ r ∈ rows, Shp acTy r) → ∃ L : List Act, L.length = rows.length ∧ rows.flatten = acC L ∧ ∀ e ∈ L, e.tt < 18446744073709551616
  | [], _ => ⟨[], rfl, rfl, fun p hp => by cases hp⟩
  | r :: rows, h => by
    obtain ⟨L, l1, l2, l3⟩ := ac_rows rows fun x hx => h x (List.mem_cons_of_mem _ hx)
    have h0 := h r (List.mem_cons_self ..)
    simp only [Shp, ShpL] at h0
    obtain ⟨_, _, rfl, ⟨a, rfl, ha⟩, _, _, rfl, ⟨b, rfl, hb⟩, _, _, rfl, ⟨_, _, rfl, ⟨c, rfl, hc⟩, _, _, rfl, ⟨d, rfl, hd⟩, rfl⟩, rfl⟩ := h0
    have hc := wf_u64 hc
    have hd := wf_u64 hd
    obtain ⟨c, rfl⟩ := Int.eq_ofNat_of_zero_le hc.1
    obtain ⟨d, rfl⟩ := Int.eq_ofNat_of_zero_le hd.1
    refine ⟨⟨a, b, c, d⟩ :: L, by simp [l1], by simp [l2, acC], fun e he => ?_⟩
    rcases List.mem_cons.1 he with rfl | he
    · simp only; omega
    · exact l3 e he
theorem plays_law (W G : Int) (h1 : -9223372036854775808 ≤ W ∧ W ≤ 9223372036854775807) (h2 : -9223372036854775808 ≤ G ∧ G ≤ 9223372036854775807) {y : AV} (hy : Shp (.sl acTy) [y]) : ACt Try.prog 4 [iv .i64 W, iv .i64 G, y] [] (fun r _ => r = bv true) := by
  simp only [Shp] at hy
  obtain ⟨rows, e, hr⟩ := hy
  obtain rfl : y = _ := (List.cons.inj e).1
  obtain ⟨L, l1, l2, l3⟩ := ac_rows rows hr
  rw [← l1, l2]
  exact plays_ct W G L h1 h2 l3
end Go.Proofs.Ytbnkmhlnoaebcaa
