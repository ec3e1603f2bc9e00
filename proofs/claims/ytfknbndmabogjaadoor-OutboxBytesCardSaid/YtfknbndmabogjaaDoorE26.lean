/-
  The walks and the laws that the statement leans on, part 26.
-/
import Derived.Test.YtfknbndmabogjaaDoorE10
import Derived.Test.YtfknbndmabogjaaDoorE25
namespace Go.Proofs.YtfknbndmabogjaaDoor
open Go
set_option linter.unusedVariables false
set_option linter.unusedSimpArgs false
abbrev keyTy : Ty := .st [.str, .str, .bool, .int .u64, .bool]
abbrev enTy : Ty := .st [keyTy, .int .i64, .int .i64, .int .i64, .bool]
abbrev bxTy : Ty := .st [.sl enTy, .int .u64]
theorem key_shp {xs : List AV} (h : Shp keyTy xs) : ∃ k : Ky, xs = [.lit (.string k.g), .lit (.string k.r), bv k.p, iv .u64 k.e, bv k.s] := by
  simp only [Shp, ShpL] at h
  obtain ⟨_, _, rfl, ⟨a, rfl, ha⟩, _, _, rfl, ⟨b, rfl, hb⟩, _, _, rfl, ⟨c, rfl⟩, _, _, rfl, ⟨d, rfl, hd⟩, _, _, rfl, ⟨e, rfl⟩, rfl⟩ := h
  exact ⟨⟨a, b, c, d, e⟩, rfl⟩
theorem en_rows : ∀ (rows : List (List AV)), (∀ r ∈ rows, Shp enTy r) → ∃ L : List En, L.length = rows.length ∧ rows.flatten = ecs L
  | [], _ => ⟨[], rfl, rfl⟩
  | r :: rows, h => by
    obtain ⟨L, l1, l2⟩ := en_rows rows fun x hx => h x (List.mem_cons_of_mem _ hx)
    have h0 := h r (List.mem_cons_self ..)
    simp only [enTy, Shp, ShpL] at h0
    obtain ⟨_, _, rfl, hk, _, _, rfl, ⟨b, rfl, hb⟩, _, _, rfl, ⟨c, rfl, hc⟩, _, _, rfl, ⟨d, rfl, hd⟩, _, _, rfl, ⟨e, rfl⟩, rfl⟩ := h0
    obtain ⟨k, rfl⟩ := key_shp (by simpa only [Shp, ShpL] using hk)
    exact ⟨⟨k, b, c, d, e⟩ :: L, by simp [l1], by simp [l2, ecs]⟩
theorem bx_shp {xs : List AV} (h : Shp bxTy xs) : ∃ b : Bx, xs = [.sl b.l.length (ecs b.l), iv .u64 b.d] ∧ 0 ≤ b.d ∧ b.d ≤ 18446744073709551615 := by
  simp only [bxTy, Shp, ShpL] at h
  obtain ⟨_, _, rfl, ⟨rows, rfl, hr⟩, _, _, rfl, ⟨d, rfl, hd⟩, rfl⟩ := h
  obtain ⟨L, l1, l2⟩ := en_rows rows fun r hr' => by
    have := hr r hr'
    simpa only [Shp, ShpL] using this
  refine ⟨⟨L, d⟩, by simp [l1, l2], wf_u64 hd⟩
end Go.Proofs.YtfknbndmabogjaaDoor
