/-
  The walks and the laws that the statement leans on, part 31.
-/
import Derived.Shelf.Strings.Repeat
import Derived.Ground.NamesProg
import Derived.Lib.Agree
import Derived.Test.YtdkkfgcdnojmaaaDoorS14
namespace Go.Proofs.YtdkkfgcdnojmaaaDoor
open Go Go.Shelf Go.RowKit
set_option linter.unusedVariables false
set_option linter.unusedSimpArgs false
def Tryd.laysRepeat_ren : Go.Shelf.Ren := ⟨fun | 105 => 25 | 212 => 39 | 99 => 29 | 165 => 40 | 166 => 24 | 170 => 41 | 169 => 27 | 263 => 50 | 264 => 51 | 206 => 44 | 240 => 38 | 241 => 52 | 276 => 49 | 277 => 57 | n => n, fun | 9 => 9 | 3 => 3 | 4 => 4 | 20 => 20 | 0 => 0 | 46 => 53 | 109 => 54 | 5 => 5 | 72 => 37 | 76 => 40 | 51 => 71 | 146 => 72 | 53 => 74 | 148 => 75 | 70 => 34 | 37 => 35 | 75 => 39 | 127 => 59 | 164 => 69 | 80 => 44 | n => n, fun | n => n⟩
theorem Tryd.laysRepeat : Go.Proofs.Lays.n105 Tryd.prog Tryd.laysRepeat_ren := {
  mixed := by kernel_rfl
  f99 := Tryd.func29.trans (congrArg some (by kernel_rfl))
  f105 := Tryd.func25.trans (congrArg some (by kernel_rfl))
  f165 := Tryd.func40.trans (congrArg some (by kernel_rfl))
  f166 := Tryd.func24.trans (congrArg some (by kernel_rfl))
  f169 := Tryd.func27.trans (congrArg some (by kernel_rfl))
  f170 := Tryd.func41.trans (congrArg some (by kernel_rfl))
  f206 := Tryd.func44.trans (congrArg some (by kernel_rfl))
  f212 := Tryd.func39.trans (congrArg some (by kernel_rfl))
  f240 := Tryd.func38.trans (congrArg some (by kernel_rfl))
  f241 := Tryd.func52.trans (congrArg some (by kernel_rfl))
  f263 := Tryd.func50.trans (congrArg some (by kernel_rfl))
  f264 := Tryd.func51.trans (congrArg some (by kernel_rfl))
  f276 := Tryd.func49.trans (congrArg some (by kernel_rfl))
  f277 := Tryd.func57.trans (congrArg some (by kernel_rfl))
  t0 := Tryd.underlying0
  a0 := Tryd.isAgg0
  z0 := Tryd.sizeOf0
  v0 := Tryd.zeroValue0
  t3 := Tryd.underlying3
  a3 := Tryd.isAgg3
  z3 := Tryd.sizeOf3
  v3 := Tryd.zeroValue3
  t4 := Tryd.underlying4
  a4 := Tryd.isAgg4
  z4 := Tryd.sizeOf4
  v4 := Tryd.zeroValue4
  t5 := Tryd.underlying5
  a5 := Tryd.isAgg5
  z5 := Tryd.sizeOf5
  v5 := Tryd.zeroValue5
  t9 := Tryd.underlying9
  a9 := Tryd.isAgg9
  z9 := Tryd.sizeOf9
  v9 := Tryd.zeroValue9
  t20 := Tryd.underlying20
  a20 := Tryd.isAgg20
  z20 := Tryd.sizeOf20
  v20 := Tryd.zeroValue20
  t37 := Tryd.underlying35
  a37 := Tryd.isAgg35
  z37 := Tryd.sizeOf35
  v37 := Tryd.zeroValue35
  t46 := Tryd.underlying53
  a46 := Tryd.isAgg53
  z46 := Tryd.sizeOf53
  v46 := Tryd.zeroValue53
  t51 := Tryd.underlying71
  a51 := Tryd.isAgg71
  z51 := Tryd.sizeOf71
  v51 := Tryd.zeroValue71
  t53 := Tryd.underlying74
  a53 := Tryd.isAgg74
  z53 := Tryd.sizeOf74
  v53 := Tryd.zeroValue74
  t70 := Tryd.underlying34
  a70 := Tryd.isAgg34
  z70 := Tryd.sizeOf34
  v70 := Tryd.zeroValue34
  t72 := Tryd.underlying37
  a72 := Tryd.isAgg37
  z72 := Tryd.sizeOf37
  v72 := Tryd.zeroValue37
  t75 := Tryd.underlying39
  a75 := Tryd.isAgg39
  z75 := Tryd.sizeOf39
  v75 := Tryd.zeroValue39
  t76 := Tryd.underlying40
  a76 := Tryd.isAgg40
  z76 := Tryd.sizeOf40
  v76 := Tryd.zeroValue40
  t109 := Tryd.underlying54
  a109 := Tryd.isAgg54
  z109 := Tryd.sizeOf54
  v109 := Tryd.zeroValue54
  t127 := Tryd.underlying59
  a127 := Tryd.isAgg59
  z127 := Tryd.sizeOf59
  v127 := Tryd.zeroValue59
  t146 := Tryd.underlying72
  a146 := Tryd.isAgg72
  z146 := Tryd.sizeOf72
  v146 := Tryd.zeroValue72
  t148 := Tryd.underlying75
  a148 := Tryd.isAgg75
  z148 := Tryd.sizeOf75
  v148 := Tryd.zeroValue75
  t164 := Tryd.underlying69
  a164 := Tryd.isAgg69
  z164 := Tryd.sizeOf69
  v164 := Tryd.zeroValue69 }
theorem Tryd.extra : Builder.Extra Tryd.prog Tryd.laysRepeat_ren := {
  sizeBuilder := by kernel_rfl
  liesBuilder := by kernel_rfl
  t5 := Tryd.laysRepeat.t5
  a5 := Tryd.laysRepeat.a5
  z5 := Tryd.laysRepeat.z5
  v5 := Tryd.laysRepeat.v5
  infoByte := by kernel_rfl
  cellsByte := by kernel_rfl
  sizeByte := by kernel_rfl
  neB5 := by decide }
theorem fRep : Tryd.laysRepeat_ren.f 105 = 25 := by kernel_rfl
theorem ACt.of_calls {P : Program} {f : FuncId} {fn : Func} {c : Code} {ls : List Value} {v : Value} (hf : P.funcs[f]? = some fn) (hb : fn.body = some c) (hname : (fn.name == "runtime.NumGoroutine") = false)
    (h : ∀ w : World, Calls P f ls.toArray w fun e w' => e = .returned v ∧ Below w.heap.size w w') : ACt P f (ls.map .lit) [] (Fn (.lit v)) := by
  intro cx vs hK hKT hw hs hv
  have hvs : vs = ls.toArray := by
    apply Array.ext
    · simpa using hs
    · intro i h1 h2
      have h3 : i < ls.length := by simpa using h2
      have := hv i (by simpa using h3)
      have e1 : (ls.map AV.lit).getD i .any = .lit ls[i] := by simp [List.getD, h3]
      have e2 : vs.getD i undef = vs[i] := by simp [h1]
      rw [e1, e2] at this
      simpa using this.lit_inv
  subst hvs
  refine .inl ⟨?_, (h cx.w0).mono fun e w' ⟨he, hB⟩ => ⟨v, .lit v, [], he, ⟨rfl, rfl⟩, ⟨by simp, by simp, by simp, ⟨hB.os, hB.tape, hB.output, hB.size, fun b hb _ => hB.block b hb⟩, by simp⟩, .lit _⟩⟩
  simp [callFunc, program, Sem.run, hf, hb]
  simpa using hname
theorem rep_ct (k : Nat) (hk : k ≤ 100) : ACt Tryd.prog 25 [.lit (.string ⟨#[63]⟩), iv .i64 (k : Int)] [] (Fn (stz (List.replicate k 63))) := by
  have h := ACt.of_calls (P := Tryd.prog) (f := 25) (ls := [.string ⟨#[63]⟩, .int .i64 (k : Int)]) (v := .string (bstr (List.replicate k 63))) Tryd.func25 rfl (by kernel_rfl) (fun w => by
    have h := Any.strings_Repeat Tryd.laysRepeat Tryd.extra ⟨#[63]⟩ k w (by omega) (by show 1 * k ≤ _; omega)
    rw [fRep] at h
    refine h.mono fun e w' ⟨he, hw⟩ => ⟨?_, hw⟩
    rw [he]
    have e : Lib.repeatL (ByteArray.mk #[63]).data.toList k = List.replicate k 63 := by
      have := Lib.repeatL_replicate 63 1 k
      simpa using this
    rw [e]
    congr 2
    unfold bstr
    simp)
  exact h
theorem lift0' {Γ : Type} {f : FuncId} {args : List AV} {D : Hp} {v : Γ → AV} {D' : Γ → Hp} (K : Hp) (c : ACt Tryd.prog f args D (fun r F' => ∃ g, r = v g ∧ F' = D' g)) :
    ACt Tryd.prog f args (K ++ D) (fun r F' => ∃ g, r = v g ∧ F' = K ++ D' g) :=
  ACt.frm (R := K) c List.perm_append_comm fun r F' hr _ => by
    obtain ⟨g, e1, e2⟩ := hr
    subst e1 e2
    exact ⟨K ++ D' g, [], by rw [List.append_nil]; exact List.perm_append_comm, g, rfl, rfl⟩
end Go.Proofs.YtdkkfgcdnojmaaaDoor
