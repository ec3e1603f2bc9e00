/-
  The law of AlertRuns out of its walk.
-/
import Derived.Test.YtljfldoekamccaaAlI
namespace Go.Proofs.Ytljfldoekamccaa
open Go
abbrev lookTy : Ty := .st [.int .i64, .bool]
theorem looks_rows : ∀ rows : List (List AV), (∀ r ∈ rows, Shp lookTy r) → ∃ l : List Look, l.length = rows.length ∧ rows.flatten = looksC l
  | [], _ => ⟨[], rfl, rfl⟩
  | r :: rs, h => by
    obtain ⟨l, h1, h2⟩ := looks_rows rs fun x hx => h x (List.mem_cons_of_mem _ hx)
    have hr := h r (List.mem_cons_self ..)
    simp only [Shp, ShpL] at hr
    obtain ⟨_, _, rfl, ⟨t, rfl, _⟩, _, _, rfl, ⟨b, rfl⟩, rfl⟩ := hr
    exact ⟨(t, b) :: l, by simp [h1], by simp [h2, looksC]⟩
theorem looks_shp {ys : List AV} (h : Shp (.sl lookTy) ys) : ∃ l : List Look, ys = [.sl l.length (looksC l)] := by
  simp only [Shp] at h
  obtain ⟨rows, rfl, hr⟩ := h
  obtain ⟨l, h1, h2⟩ := looks_rows rows hr
  exact ⟨l, by rw [h1, h2]⟩
abbrev ruleTy : Ty := .st [.str, .bool, .int .i64, .int .i64, .int .u64, .int .i64, .int .i64]
theorem ruleK_shp {xs : List AV} (h : Shp ruleTy xs) : ∃ nm pg lg sh fa fr kp, AV.agg xs = ruleA nm pg lg sh fa fr kp := by
  simp only [Shp, ShpL] at h
  obtain ⟨_, _, rfl, ⟨nm, rfl, _⟩, _, _, rfl, ⟨pg, rfl⟩, _, _, rfl, ⟨lg, rfl, _⟩, _, _, rfl, ⟨sh, rfl, _⟩, _, _, rfl, ⟨fa, rfl, _⟩, _, _, rfl, ⟨fr, rfl, hf⟩, _, _, rfl, ⟨kp, rfl, hk⟩, rfl⟩ := h
  exact ⟨nm, pg, lg, sh, fa, fr, kp, rfl⟩
theorem runs_law {xs : List AV} {y : AV} (hx : Shp ruleTy xs) (hy : Shp (.sl lookTy) [y]) : ACt Try.prog 3 [.agg xs, y] [] (fun r _ => r = bv true) := by
  obtain ⟨nm, pg, lg, sh, fa, fr, kp, e1⟩ := ruleK_shp hx
  obtain ⟨l, e2⟩ := looks_shp hy
  obtain rfl : y = _ := (List.cons.inj e2).1
  rw [e1]
  exact runs_ct nm pg lg sh fa fr kp l
end Go.Proofs.Ytljfldoekamccaa
