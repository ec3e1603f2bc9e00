/-
  The walks and the laws that the statement leans on, part 31.
-/
import Derived.Shelf.Strings.Repeat
import Derived.Shelf.Lay
import Derived.Ground.NamesProg
import Derived.Lib.Agree
import Derived.Test.YtdkkfgcdnojmaaaDoorS14
namespace Go.Proofs.YtdkkfgcdnojmaaaDoor
open Go Go.Shelf Go.RowKit
set_option linter.unusedVariables false
set_option linter.unusedSimpArgs false
shelf_lay Lays.n105 Nm 105 at Tryd as Tryd.laysRepeat
theorem Tryd.extra : Builder.Extra Tryd.prog Tryd.laysRepeat_ren where
  sizeBuilder := by kernel_rfl
  liesBuilder := by kernel_rfl
  t5 := Tryd.laysRepeat.t5
  a5 := Tryd.laysRepeat.a5
  z5 := Tryd.laysRepeat.z5
  v5 := Tryd.laysRepeat.v5
  infoByte := by kernel_rfl
  cellsByte := by kernel_rfl
  sizeByte := by kernel_rfl
  neB5 := by decide
theorem fRep : Tryd.laysRepeat_ren.f 105 = 25 := by kernel_rfl
theorem ACt.of_calls {P : Program} {f : FuncId} {fn : Func} {c : Code} {ls : List Value} {v : Value} (hf : P.funcs[f]? = some fn) (hb : fn.body = some c) (hname : (fn.name == "runtime.NumGoroutine") = false)
    (h : ∀ w : World, Calls P f ls.toArray w fun e w' => e = .returned v ∧ Below w.heap.size w w') : ACt P f (ls.map .lit) [] (Fn (.lit v)) := by
  intro cx vs hK hKT hw hs hv
  have hvs : vs = ls.toArray := by
    apply Array.ext
    · simpa using hs
    · intro i h1 h2
      have h3 : i < ls.length := by simpa using h2
      have := hv i (by simpa using h3)
      have e1 : (ls.map AV.lit).getD i .any = .lit ls[i] := by simp [List.getD, h3]
      have e2 : vs.getD i undef = vs[i] := by simp [h1]
      rw [e1, e2] at this
      simpa using this.lit_inv
  subst hvs
  refine .inl ⟨?_, (h cx.w0).mono fun e w' ⟨he, hB⟩ => ⟨v, .lit v, [], he, ⟨rfl, rfl⟩, ⟨by simp, by simp, by simp, ⟨hB.os, hB.tape, hB.output, hB.size, fun b hb _ => hB.block b hb⟩, by simp⟩, .lit _⟩⟩
  simp [callFunc, program, Sem.run, hf, hb]
  simpa using hname
theorem rep_ct (k : Nat) (hk : k ≤ 100) : ACt Tryd.prog 25 [.lit (.string ⟨#[63]⟩), iv .i64 (k : Int)] [] (Fn (stz (List.replicate k 63))) := by
  have h := ACt.of_calls (P := Tryd.prog) (f := 25) (ls := [.string ⟨#[63]⟩, .int .i64 (k : Int)]) (v := .string (bstr (List.replicate k 63))) Tryd.func25 rfl (by kernel_rfl) (fun w => by
    have h := Any.strings_Repeat Tryd.laysRepeat Tryd.extra ⟨#[63]⟩ k w (by omega) (by show 1 * k ≤ _; omega)
    rw [fRep] at h
    refine h.mono fun e w' ⟨he, hw⟩ => ⟨?_, hw⟩
    rw [he]
    have e : Lib.repeatL (ByteArray.mk #[63]).data.toList k = List.replicate k 63 := by
      have := Lib.repeatL_replicate 63 1 k
      simpa using this
    rw [e]
    congr 2
    unfold bstr
    simp)
  exact h
theorem lift0' {Γ : Type} {f : FuncId} {args : List AV} {D : Hp} {v : Γ → AV} {D' : Γ → Hp} (K : Hp) (c : ACt Tryd.prog f args D (fun r F' => ∃ g, r = v g ∧ F' = D' g)) :
    ACt Tryd.prog f args (K ++ D) (fun r F' => ∃ g, r = v g ∧ F' = K ++ D' g) :=
  ACt.frm (R := K) c List.perm_append_comm fun r F' hr _ => by
    obtain ⟨g, e1, e2⟩ := hr
    subst e1 e2
    exact ⟨K ++ D' g, [], by rw [List.append_nil]; exact List.perm_append_comm, g, rfl, rfl⟩
end Go.Proofs.YtdkkfgcdnojmaaaDoor
