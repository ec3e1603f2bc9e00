/-
  The walks and the laws that the statement leans on, part 33.
-/
import Derived.Test.YtpidkkgjgichdaaDoorV9
import Derived.Test.YtpidkkgjgichdaaDoorV32
namespace Go.Proofs.YtpidkkgjgichdaaDoor
open Go Wi
set_option linter.unusedVariables false
set_option linter.unusedSimpArgs false
def kgX (zs : List Int) : Option (Ky × List Int) :=
  match tF 96 zs with
  | none => none
  | some (g, z1) => match tF 96 z1 with
    | none => none
    | some (r, z2) => match fF z2 with
      | none => none
      | some (p, z3) => match nF z3 with
        | none => none
        | some (e, z4) => match fF z4 with
          | none => none
          | some (s, z5) => some (⟨bstr g, bstr r, p, (e : Nat), s⟩, z5)
def sgX (zs : List Int) : Option (Sl × List Int) :=
  match tF 160 zs with
  | none => none
  | some (g, z1) => match tF 160 z1 with
    | none => none
    | some (r, z2) => match iF z2 with
      | none => none
      | some (w, z3) => match iF z3 with
        | none => none
        | some (f, z4) => match iF z4 with
          | none => none
          | some (t, z5) => some (⟨bstr g, bstr r, w, f, t⟩, z5)
end Go.Proofs.YtpidkkgjgichdaaDoor
