/-
  The walks and the laws that the statement leans on, part 44: a law over listed tables that are looked at only, whatever its arguments are.
-/
import Derived.Test.YtpidkkgjgichdaaDoorW43
namespace Go.Proofs.YtpidkkgjgichdaaDoor
open Go
set_option linter.unusedSimpArgs false
set_option linter.unusedVariables false

/-- The law's call, with listed tables, whatever the arguments are. -/
theorem ACt.lawR {P : Program} {f : FuncId} {args : List AV} {G : Hp} (h : ACt P f args G fun r F' => r = bv true ∧ F' = G) (hb : ((P.funcs[f]?).any fun fn => fn.body.isSome && !(fn.name == "runtime.NumGoroutine")) = true) {w : World} {vs : Array Value} (hs : vs.size = args.length)
    (hv : ∀ i, i < args.length → Rep w (fun b => b < w.heap.size) (vs.getD i undef) (args.getD i .any)) (hn : (G.map (·.1)).Nodup) (hG : ∀ x ∈ G, TabR w x) :
    Calls P f vs w fun e w' => e = .returned (.bool true) ∧ Go.RowKit.Below w.heap.size w w' := by
  have hT : ∀ b ∈ G.map (·.1), b ∈ roK G := fun b hb => by
    obtain ⟨x, hx, rfl⟩ := List.mem_map.1 hb
    exact roK_mem.2 ⟨x, hx, rfl, (hG x hx).ro⟩
  have := h ⟨w, fun b => b < w.heap.size, G.map (·.1), roK G, fun b hb => ⟨hb, (Classical.em (b ∈ G.map (·.1))).elim (fun h => .inr (hT b h)) .inl⟩, fun b hb => by
      obtain ⟨x, hx, rfl, -⟩ := roK_mem.1 hb
      exact ((hG x hx).mok (I := fun _ => False)).lt⟩ vs rfl rfl ⟨hn, fun x hx => .inl (List.mem_map_of_mem hx), fun x hx => (hG x hx).mok, ⟨rfl, rfl, rfl, Nat.le_refl _, fun _ _ _ => rfl⟩, roK_ro hn⟩ hs hv
  obtain ⟨fn, hf, hb⟩ : ∃ fn, P.funcs[f]? = some fn ∧ (fn.body.isSome && !(fn.name == "runtime.NumGoroutine")) = true := by
    cases e : P.funcs[f]? with
    | none => rw [e] at hb; cases hb
    | some fn => exact ⟨fn, rfl, by rw [e] at hb; exact hb⟩
  have hcl : (callFunc f vs).run P w = .ok (.enter f vs) w := by
    simp at hb
    obtain ⟨h1, h2⟩ := hb
    obtain ⟨c, hc⟩ := Option.isSome_iff_exists.1 h1
    simp [callFunc, program, Sem.run, hf, hc, h2]
  rcases Or.symm this with ⟨v, w', h1, _⟩ | ⟨_, this⟩
  · exact absurd (h1.symm.trans hcl) (by simp)
  refine this.mono ?_
  rintro e w' ⟨v, r, F', rfl, ⟨rfl, rfl⟩, hw, hr⟩
  rw [hr.lit_inv]
  refine ⟨rfl, ⟨hw.ext.os, hw.ext.tape, hw.ext.output, hw.ext.size, fun k hk => ?_⟩⟩
  refine hw.ext.blk k hk ?_
  by_cases hm : k ∈ F'.map (·.1)
  · exact .inr (hT k hm)
  · exact .inl hm
end Go.Proofs.YtpidkkgjgichdaaDoor
