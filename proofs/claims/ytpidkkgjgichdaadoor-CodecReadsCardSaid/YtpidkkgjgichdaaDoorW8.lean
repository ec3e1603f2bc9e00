/-
  The walks and the laws that the statement leans on, part 8.
-/
import Derived.Test.YtpidkkgjgichdaaDoorProg
import Derived.Test.YtpidkkgjgichdaaDoorW6
import Derived.Test.YtpidkkgjgichdaaDoorW7
namespace Go.Proofs.YtpidkkgjgichdaaDoor
open Go
theorem tyc0 : tyc Tryd.prog 0 = some none := by kernel_rfl
theorem tyc2 : tyc Tryd.prog 2 = some none := by kernel_rfl
theorem zmb2 : zmb Tryd.prog 2 = some (.cells [(.lit (.int .i64 0))] 1 2) := by kernel_rfl
theorem tyc3 : tyc Tryd.prog 3 = some none := by kernel_rfl
theorem zmb3 : zmb Tryd.prog 3 = some (.cells [(.lit (.int .i64 0))] 1 3) := by kernel_rfl
theorem tyc4 : tyc Tryd.prog 4 = some none := by kernel_rfl
theorem zmb4 : zmb Tryd.prog 4 = some (.cells [(.lit (.bool false))] 1 4) := by kernel_rfl
theorem tyc5 : tyc Tryd.prog 5 = some none := by kernel_rfl
theorem zmb5 : zmb Tryd.prog 5 = some (.cells [(.lit (.int .u8 0))] 1 5) := by kernel_rfl
theorem tyc9 : tyc Tryd.prog 9 = some none := by kernel_rfl
theorem zmb9 : zmb Tryd.prog 9 = some (.cells [(.lit (.string ⟨#[]⟩))] 1 9) := by kernel_rfl
theorem tyc12 : tyc Tryd.prog 12 = some none := by kernel_rfl
theorem zmb12 : zmb Tryd.prog 12 = some (.cells [(.lit (.int .u64 0))] 1 12) := by kernel_rfl
theorem tyc21 : tyc Tryd.prog 21 = some none := by kernel_rfl
theorem zmb21 : zmb Tryd.prog 21 = some (.cells [(.lit (.int .i32 0))] 1 21) := by kernel_rfl
theorem tyc22 : tyc Tryd.prog 22 = some none := by kernel_rfl
theorem zmb22 : zmb Tryd.prog 22 = some (.cells [(.lit (.int .u64 0))] 1 22) := by kernel_rfl
theorem tyc24 : tyc Tryd.prog 24 = some (some 2) := by kernel_rfl
theorem foff24_0 : foff Tryd.prog 24 0 = some 0 := by kernel_rfl
theorem fpart24_0 : fpart Tryd.prog 24 0 = some (0, none) := by kernel_rfl
theorem foff24_1 : foff Tryd.prog 24 1 = some 1 := by kernel_rfl
theorem fpart24_1 : fpart Tryd.prog 24 1 = some (1, none) := by kernel_rfl
theorem fe24 : flatEq Tryd.prog 24 [1, 1] := flatEq_of (by kernel_rfl)
theorem zmb24 : zmb Tryd.prog 24 = some (.cells [(.lit (.int .u64 0)), (.lit (.int .u64 0))] 2 24) := by kernel_rfl
theorem bldT24 : bldT Tryd.prog 24 = some ([(.int .u64 0), (.int .u64 0)], [(0, 1), (1, 1)]) := by kernel_rfl
theorem tyc26 : tyc Tryd.prog 26 = some (some 5) := by kernel_rfl
theorem foff26_0 : foff Tryd.prog 26 0 = some 0 := by kernel_rfl
theorem fpart26_0 : fpart Tryd.prog 26 0 = some (0, none) := by kernel_rfl
theorem foff26_1 : foff Tryd.prog 26 1 = some 1 := by kernel_rfl
theorem fpart26_1 : fpart Tryd.prog 26 1 = some (1, none) := by kernel_rfl
theorem foff26_2 : foff Tryd.prog 26 2 = some 2 := by kernel_rfl
theorem fpart26_2 : fpart Tryd.prog 26 2 = some (2, none) := by kernel_rfl
theorem foff26_3 : foff Tryd.prog 26 3 = some 3 := by kernel_rfl
theorem fpart26_3 : fpart Tryd.prog 26 3 = some (3, none) := by kernel_rfl
theorem foff26_4 : foff Tryd.prog 26 4 = some 4 := by kernel_rfl
theorem fpart26_4 : fpart Tryd.prog 26 4 = some (4, none) := by kernel_rfl
theorem fe26 : flatEq Tryd.prog 26 [3, 3, 2, 1, 2] := flatEq_of (by kernel_rfl)
theorem zmb26 : zmb Tryd.prog 26 = some (.cells [(.lit (.string ⟨#[]⟩)), (.lit (.string ⟨#[]⟩)), (.lit (.bool false)), (.lit (.int .u64 0)), (.lit (.bool false))] 5 26) := by kernel_rfl
theorem bldT26 : bldT Tryd.prog 26 = some ([(.string ⟨#[]⟩), (.string ⟨#[]⟩), (.bool false), (.int .u64 0), (.bool false)], [(0, 1), (1, 1), (2, 1), (3, 1), (4, 1)]) := by kernel_rfl
theorem tyc28 : tyc Tryd.prog 28 = some (some 5) := by kernel_rfl
theorem foff28_0 : foff Tryd.prog 28 0 = some 0 := by kernel_rfl
theorem fpart28_0 : fpart Tryd.prog 28 0 = some (0, none) := by kernel_rfl
theorem foff28_1 : foff Tryd.prog 28 1 = some 1 := by kernel_rfl
theorem fpart28_1 : fpart Tryd.prog 28 1 = some (1, none) := by kernel_rfl
theorem foff28_2 : foff Tryd.prog 28 2 = some 2 := by kernel_rfl
theorem fpart28_2 : fpart Tryd.prog 28 2 = some (2, none) := by kernel_rfl
theorem foff28_3 : foff Tryd.prog 28 3 = some 3 := by kernel_rfl
theorem fpart28_3 : fpart Tryd.prog 28 3 = some (3, none) := by kernel_rfl
theorem foff28_4 : foff Tryd.prog 28 4 = some 4 := by kernel_rfl
theorem fpart28_4 : fpart Tryd.prog 28 4 = some (4, none) := by kernel_rfl
theorem fe28 : flatEq Tryd.prog 28 [3, 3, 1, 1, 1] := flatEq_of (by kernel_rfl)
theorem zmb28 : zmb Tryd.prog 28 = some (.cells [(.lit (.string ⟨#[]⟩)), (.lit (.string ⟨#[]⟩)), (.lit (.int .i64 0)), (.lit (.int .i64 0)), (.lit (.int .i64 0))] 5 28) := by kernel_rfl
theorem bldT28 : bldT Tryd.prog 28 = some ([(.string ⟨#[]⟩), (.string ⟨#[]⟩), (.int .i64 0), (.int .i64 0), (.int .i64 0)], [(0, 1), (1, 1), (2, 1), (3, 1), (4, 1)]) := by kernel_rfl
theorem tyc30 : tyc Tryd.prog 30 = some (some 15) := by kernel_rfl
theorem foff30_0 : foff Tryd.prog 30 0 = some 0 := by kernel_rfl
theorem fpart30_0 : fpart Tryd.prog 30 0 = some (0, none) := by kernel_rfl
theorem foff30_1 : foff Tryd.prog 30 1 = some 1 := by kernel_rfl
theorem fpart30_1 : fpart Tryd.prog 30 1 = some (1, none) := by kernel_rfl
theorem foff30_2 : foff Tryd.prog 30 2 = some 2 := by kernel_rfl
theorem fpart30_2 : fpart Tryd.prog 30 2 = some (2, none) := by kernel_rfl
theorem foff30_3 : foff Tryd.prog 30 3 = some 3 := by kernel_rfl
theorem fpart30_3 : fpart Tryd.prog 30 3 = some (3, (some 2)) := by kernel_rfl
theorem foff30_4 : foff Tryd.prog 30 4 = some 5 := by kernel_rfl
theorem fpart30_4 : fpart Tryd.prog 30 4 = some (5, (some 5)) := by kernel_rfl
theorem foff30_5 : foff Tryd.prog 30 5 = some 10 := by kernel_rfl
theorem fpart30_5 : fpart Tryd.prog 30 5 = some (10, (some 5)) := by kernel_rfl
theorem zmb30 : zmb Tryd.prog 30 = some (.cells [(.lit (.int .i64 0)), (.lit (.string ⟨#[]⟩)), (.lit (.int .i64 0)), (.lit (.int .u64 0)), (.lit (.int .u64 0)), (.lit (.string ⟨#[]⟩)), (.lit (.string ⟨#[]⟩)), (.lit (.bool false)), (.lit (.int .u64 0)), (.lit (.bool false)), (.lit (.string ⟨#[]⟩)), (.lit (.string ⟨#[]⟩)), (.lit (.int .i64 0)), (.lit (.int .i64 0)), (.lit (.int .i64 0))] 15 30) := by kernel_rfl
theorem bldT30 : bldT Tryd.prog 30 = some ([(.int .i64 0), (.string ⟨#[]⟩), (.int .i64 0), (.int .u64 0), (.int .u64 0), (.string ⟨#[]⟩), (.string ⟨#[]⟩), (.bool false), (.int .u64 0), (.bool false), (.string ⟨#[]⟩), (.string ⟨#[]⟩), (.int .i64 0), (.int .i64 0), (.int .i64 0)], [(0, 1), (1, 1), (2, 1), (3, 2), (5, 5), (10, 5)]) := by kernel_rfl
theorem tyc33 : tyc Tryd.prog 33 = some none := by kernel_rfl
theorem elt33 : elt Tryd.prog 33 = some (none, 1) := by kernel_rfl
theorem mkz33 : mkz Tryd.prog 33 = some (5, 1, .u8) := by kernel_rfl
theorem apT33 : apT Tryd.prog 33 = some (5, 1, 1) := by kernel_rfl
theorem elk33 : elk Tryd.prog 33 = (some .u8) := by kernel_rfl
theorem zmb33 : zmb Tryd.prog 33 = some (.cells [(.lit (.slice none 0 0))] 1 33) := by kernel_rfl
theorem tyc36 : tyc Tryd.prog 36 = some none := by kernel_rfl
theorem zmb36 : zmb Tryd.prog 36 = some (.cells [(.lit (.int .i64 0))] 1 36) := by kernel_rfl
theorem tyc37 : tyc Tryd.prog 37 = some none := by kernel_rfl
theorem tyc40 : tyc Tryd.prog 40 = some none := by kernel_rfl
theorem tyc52 : tyc Tryd.prog 52 = some none := by kernel_rfl
theorem mth52_52 : mthOf Tryd.prog 52 "firebell/wire.fail" = some 52 := by kernel_rfl
theorem mth52_56 : mthOf Tryd.prog 52 "firebell/wire.get" = some 56 := by kernel_rfl
theorem mth52_53 : mthOf Tryd.prog 52 "firebell/wire.take" = some 53 := by kernel_rfl
theorem con52 : Tryd.prog.concrete 52 = true := by kernel_rfl
theorem zmb52 : zmb Tryd.prog 52 = some (.cells [(.lit (.pointer none))] 1 52) := by kernel_rfl
theorem tyc66 : tyc Tryd.prog 66 = some none := by kernel_rfl
theorem tyc69 : tyc Tryd.prog 69 = some (some 4) := by kernel_rfl
theorem foff69_0 : foff Tryd.prog 69 0 = some 0 := by kernel_rfl
theorem fpart69_0 : fpart Tryd.prog 69 0 = some (0, none) := by kernel_rfl
theorem foff69_1 : foff Tryd.prog 69 1 = some 1 := by kernel_rfl
theorem fpart69_1 : fpart Tryd.prog 69 1 = some (1, none) := by kernel_rfl
theorem foff69_2 : foff Tryd.prog 69 2 = some 2 := by kernel_rfl
theorem fpart69_2 : fpart Tryd.prog 69 2 = some (2, none) := by kernel_rfl
theorem foff69_3 : foff Tryd.prog 69 3 = some 3 := by kernel_rfl
theorem fpart69_3 : fpart Tryd.prog 69 3 = some (3, none) := by kernel_rfl
theorem fe69 : flatEq Tryd.prog 69 [1, 1, 3, 2] := flatEq_of (by kernel_rfl)
theorem zmb69 : zmb Tryd.prog 69 = some (.cells [(.lit (.int .u64 0)), (.lit (.int .i64 0)), (.lit (.string ⟨#[]⟩)), (.lit (.bool false))] 4 69) := by kernel_rfl
theorem bldT69 : bldT Tryd.prog 69 = some ([(.int .u64 0), (.int .i64 0), (.string ⟨#[]⟩), (.bool false)], [(0, 1), (1, 1), (2, 1), (3, 1)]) := by kernel_rfl
theorem tyc70 : tyc Tryd.prog 70 = some none := by kernel_rfl
theorem tyc73 : tyc Tryd.prog 73 = some (some 2) := by kernel_rfl
theorem foff73_0 : foff Tryd.prog 73 0 = some 0 := by kernel_rfl
theorem fpart73_0 : fpart Tryd.prog 73 0 = some (0, none) := by kernel_rfl
theorem foff73_1 : foff Tryd.prog 73 1 = some 1 := by kernel_rfl
theorem fpart73_1 : fpart Tryd.prog 73 1 = some (1, none) := by kernel_rfl
theorem fe73 : flatEq Tryd.prog 73 [1, 1] := flatEq_of (by kernel_rfl)
theorem zmb73 : zmb Tryd.prog 73 = some (.cells [(.lit (.int .i64 0)), (.lit (.int .i64 0))] 2 73) := by kernel_rfl
theorem bldT73 : bldT Tryd.prog 73 = some ([(.int .i64 0), (.int .i64 0)], [(0, 1), (1, 1)]) := by kernel_rfl
theorem tyc74 : tyc Tryd.prog 74 = some none := by kernel_rfl
theorem tyc76 : tyc Tryd.prog 76 = some none := by kernel_rfl
theorem tyc82 : tyc Tryd.prog 82 = some (some 2) := by kernel_rfl
theorem foff82_0 : foff Tryd.prog 82 0 = some 0 := by kernel_rfl
theorem fpart82_0 : fpart Tryd.prog 82 0 = some (0, none) := by kernel_rfl
theorem foff82_1 : foff Tryd.prog 82 1 = some 1 := by kernel_rfl
theorem fpart82_1 : fpart Tryd.prog 82 1 = some (1, none) := by kernel_rfl
theorem zmb82 : zmb Tryd.prog 82 = some (.cells [(.lit (.slice none 0 0)), (.lit (.bool false))] 2 82) := by kernel_rfl
theorem bldT82 : bldT Tryd.prog 82 = some ([(.slice none 0 0), (.bool false)], [(0, 1), (1, 1)]) := by kernel_rfl
theorem tyc83 : tyc Tryd.prog 83 = some none := by kernel_rfl
theorem tyc85 : tyc Tryd.prog 85 = some none := by kernel_rfl
theorem tyc88 : tyc Tryd.prog 88 = some none := by kernel_rfl
theorem elt88 : elt Tryd.prog 88 = some (none, 2) := by kernel_rfl
theorem mkz88 : mkz Tryd.prog 88 = none := by kernel_rfl
theorem mkc88 : mkc Tryd.prog 88 = some (73, 2, 16, [(.lit (.int .i64 0)), (.lit (.int .i64 0))]) := by kernel_rfl
theorem apT88 : apT Tryd.prog 88 = some (73, 2, 16) := by kernel_rfl
theorem elk88 : elk Tryd.prog 88 = none := by kernel_rfl
theorem zmb88 : zmb Tryd.prog 88 = some (.cells [(.lit (.slice none 0 0))] 1 88) := by kernel_rfl
theorem tyc89 : tyc Tryd.prog 89 = some none := by kernel_rfl
theorem elt89 : elt Tryd.prog 89 = some (none, 4) := by kernel_rfl
theorem mkz89 : mkz Tryd.prog 89 = none := by kernel_rfl
theorem mkc89 : mkc Tryd.prog 89 = some (69, 4, 40, [(.lit (.int .u64 0)), (.lit (.int .i64 0)), (.lit (.string ⟨#[]⟩)), (.lit (.bool false))]) := by kernel_rfl
theorem apT89 : apT Tryd.prog 89 = some (69, 4, 40) := by kernel_rfl
theorem elk89 : elk Tryd.prog 89 = none := by kernel_rfl
theorem zmb89 : zmb Tryd.prog 89 = some (.cells [(.lit (.slice none 0 0))] 1 89) := by kernel_rfl
theorem tyc90 : tyc Tryd.prog 90 = some none := by kernel_rfl
theorem elt90 : elt Tryd.prog 90 = some (none, 1) := by kernel_rfl
theorem mkz90 : mkz Tryd.prog 90 = some (21, 4, .i32) := by kernel_rfl
theorem apT90 : apT Tryd.prog 90 = some (21, 1, 4) := by kernel_rfl
theorem elk90 : elk Tryd.prog 90 = (some .i32) := by kernel_rfl
theorem zmb90 : zmb Tryd.prog 90 = some (.cells [(.lit (.slice none 0 0))] 1 90) := by kernel_rfl
theorem tyc95 : tyc Tryd.prog 95 = some none := by kernel_rfl
theorem zmb95 : zmb Tryd.prog 95 = some (.cells [(.lit (.int .u64 0))] 1 95) := by kernel_rfl
theorem elt97 : elt Tryd.prog 97 = some ((some 256), 1) := by kernel_rfl
theorem arr197 : arr1 Tryd.prog 97 = some 256 := by kernel_rfl
theorem tyc99 : tyc Tryd.prog 99 = some (some 2) := by kernel_rfl
theorem foff99_0 : foff Tryd.prog 99 0 = some 0 := by kernel_rfl
theorem fpart99_0 : fpart Tryd.prog 99 0 = some (0, none) := by kernel_rfl
theorem foff99_1 : foff Tryd.prog 99 1 = some 1 := by kernel_rfl
theorem fpart99_1 : fpart Tryd.prog 99 1 = some (1, none) := by kernel_rfl
theorem fe99 : flatEq Tryd.prog 99 [1, 1] := flatEq_of (by kernel_rfl)
theorem zmb99 : zmb Tryd.prog 99 = some (.cells [(.lit (.int .u8 0)), (.lit (.int .u8 0))] 2 99) := by kernel_rfl
theorem bldT99 : bldT Tryd.prog 99 = some ([(.int .u8 0), (.int .u8 0)], [(0, 1), (1, 1)]) := by kernel_rfl
theorem tyc100 : tyc Tryd.prog 100 = some (some 32) := by kernel_rfl
theorem elt100 : elt Tryd.prog 100 = some ((some 16), 2) := by kernel_rfl
theorem zmb100 : zmb Tryd.prog 100 = some (.cells [(.lit (.int .u8 0)), (.lit (.int .u8 0)), (.lit (.int .u8 0)), (.lit (.int .u8 0)), (.lit (.int .u8 0)), (.lit (.int .u8 0)), (.lit (.int .u8 0)), (.lit (.int .u8 0)), (.lit (.int .u8 0)), (.lit (.int .u8 0)), (.lit (.int .u8 0)), (.lit (.int .u8 0)), (.lit (.int .u8 0)), (.lit (.int .u8 0)), (.lit (.int .u8 0)), (.lit (.int .u8 0)), (.lit (.int .u8 0)), (.lit (.int .u8 0)), (.lit (.int .u8 0)), (.lit (.int .u8 0)), (.lit (.int .u8 0)), (.lit (.int .u8 0)), (.lit (.int .u8 0)), (.lit (.int .u8 0)), (.lit (.int .u8 0)), (.lit (.int .u8 0)), (.lit (.int .u8 0)), (.lit (.int .u8 0)), (.lit (.int .u8 0)), (.lit (.int .u8 0)), (.lit (.int .u8 0)), (.lit (.int .u8 0))] 32 100) := by kernel_rfl
theorem bldT100 : bldT Tryd.prog 100 = some ([(.int .u8 0), (.int .u8 0), (.int .u8 0), (.int .u8 0), (.int .u8 0), (.int .u8 0), (.int .u8 0), (.int .u8 0), (.int .u8 0), (.int .u8 0), (.int .u8 0), (.int .u8 0), (.int .u8 0), (.int .u8 0), (.int .u8 0), (.int .u8 0), (.int .u8 0), (.int .u8 0), (.int .u8 0), (.int .u8 0), (.int .u8 0), (.int .u8 0), (.int .u8 0), (.int .u8 0), (.int .u8 0), (.int .u8 0), (.int .u8 0), (.int .u8 0), (.int .u8 0), (.int .u8 0), (.int .u8 0), (.int .u8 0)], [(0, 2), (2, 2), (4, 2), (6, 2), (8, 2), (10, 2), (12, 2), (14, 2), (16, 2), (18, 2), (20, 2), (22, 2), (24, 2), (26, 2), (28, 2), (30, 2)]) := by kernel_rfl
theorem mixed : Tryd.prog.follows .mixedOrders = true := by kernel_rfl
end Go.Proofs.YtpidkkgjgichdaaDoor
namespace Go.Proofs.YtpidkkgjgichdaaDoor
open Go
set_option linter.unusedVariables false
set_option linter.unusedSimpArgs false
section
variable {P : Program} {cx : Cx} {n : Nat} {ops : Array Oper} {H : Hp}
theorem Ok.permH {env : List (Nat × AV)} {H H' : Hp} {a : Act} {w : World} (hp : H.Perm H') (ok : Ok cx n ⟨env, H⟩ a w) : Ok cx n ⟨env, H'⟩ a w :=
  ⟨ok.defers, ok.size, fun t => (ok.reps t).mono fun b hb => ⟨(imm_perm hp).1 hb, rfl⟩, ok.world.perm hp⟩
theorem fresh_app {E H : Hp} (h : ((E ++ H).map (·.1)).Nodup) : ∀ p ∈ E, fresh H p.1 := by
  intro p hp x hx
  rw [List.map_append, List.nodup_append] at h
  have := h.2.2 p.1 (List.mem_map_of_mem hp) x.1 (List.mem_map_of_mem hx)
  exact ⟨fun he => this he.symm, this⟩
def alF (P : Program) (n : Nat) (K : St → Prop) : List Oper → St → Prop
  | [], s => K s
  | o :: r, s => match o with
    | ⟨some t, .alloc T, _, _, _, none⟩ => match zmb P T with
      | some m => t < n ∧ newB s.H m fun b H => alF P n K r ⟨(t, pt b 0) :: s.env, H⟩
      | none => False
    | _ => False
def drawAF (P : Program) (n : Nat) (l : List Oper) (K : St → Prop) (p r : Nat) (s : St) : Prop :=
  dvc P n l.toArray (l.take p) (fun s1 => alF P n (fun s2 => rvc P n l.toArray (l.drop (p + r)) K s2) ((l.drop p).take r) s1) s
end
end Go.Proofs.YtpidkkgjgichdaaDoor
namespace Go.Proofs.YtpidkkgjgichdaaDoor
open Go
set_option linter.unusedSimpArgs false
set_option linter.unusedVariables false
section
variable {P : Program} {cx : Cx} {n : Nat} {ops : Array Oper} {H : Hp}
structure QB where
  is : Nat
  b : Nat
  off : Nat
  m0 : MB
  m1 : MB
def SeqS (P : Program) (cx : Cx) (n : Nat) (ops : Array Oper) (H : Hp) (lx : List (Oper × AV)) (env : List (Nat × AV)) (q : QB) : Prop :=
  SeqG (fun i o x env => if i = q.is then o.guard = none ∧ x = .any ∧ o.dst = none ∧ ∃ T a y, o.op = .store T a y ∧ (og env a).1 ∧ (og env a).2 = pt q.b q.off ∧ (og env y).1 ∧
      (stC P T q.m0 q.off (og env y).2).1 ∧ (stC P T q.m0 q.off (og env y).2).2 = q.m1
    else StdyE P cx n ops o env H x) lx env
structure DInvS (cx : Cx) (n : Nat) (ops : Array Oper) (lx : List (Oper × AV)) (env : List (Nat × AV)) (H : Hp) (q : QB) (listed : Array Bool) (a : Act) (w : World) : Prop where
  lsize : listed.size = ops.size
  inv : DInv cx n ops lx env ((q.b, if listed.getD q.is false then q.m1 else q.m0) :: H) listed a w
theorem dinvS_step {lx : List (Oper × AV)} {env : List (Nat × AV)} {q : QB} {listed : Array Bool} {a : Act} {w : World} {i : Nat} (hD : DrawOk ops lx.length) (hlx : ∀ (j : Nat) o x, lx[j]? = some (o, x) → ops[j]? = some o)
    (hS : SeqS P cx n ops H lx env q) (hfr : fresh H q.b)
    (inv : DInvS cx n ops lx env H q listed a w) (hi : i ∈ Region.ready .any ops listed) (hik : i < lx.length) {R : Exit → Act → World → Prop} {X : Act → World → Prop}
    (hX : ∀ a' w', DInvS cx n ops lx env H q (listed.setIfInBounds i true) a' w' → X a' w') : wpOp P ops R i X a w := by
  obtain ⟨⟨o, x⟩, hp⟩ : ∃ p, lx[i] = p := ⟨_, rfl⟩
  have hli : lx[i]? = some (o, x) := by rw [List.getElem?_eq_getElem hik, hp]
  have hoi := hlx i o x hli
  have hSi := hS i o x hli
  have hilt : i < ops.size := (Array.getElem?_eq_some_iff.1 hoi).1
  have hset : ∀ j, (listed.setIfInBounds i true).getD j false = if j = i then true else listed.getD j false := by
    intro j
    by_cases hji : j = i
    · subst hji
      have : j < listed.size := by rw [inv.lsize]; exact hilt
      simp [this]
    · rw [if_neg hji, getD_set_ne false (Ne.symm hji)]
  have hls : (listed.setIfInBounds i true).size = ops.size := by simp [inv.lsize]
  have hinv := inv.inv
  by_cases his : i = q.is
  · try dsimp only at hSi
    rw [if_pos his] at hSi
    obtain ⟨hg, rfl, hdn, T, ad, y, hop, ha1, ha2, hy1, hy2, hy3⟩ := hSi
    have hun : listed.getD q.is false = false := by
      have := (mem_ready.1 hi).1
      rw [getD_bool (by rw [inv.lsize]; exact hilt), his] at this
      exact this
    rw [hun] at hinv
    simp only [Bool.false_eq_true, if_false] at hinv
    have hlook := dinv_look hD hlx hinv hi hli
    have hoeq : ∀ z ∈ o.op.operands, og (envL (fun j => listed.getD j false) lx 0 env) z = og (envL (fun j => decide (j < i)) lx 0 env) z := by
      intro z hz
      refine og_congr (opd_congr fun t ht => ?_)
      subst ht
      exact hlook t (by unfold Oper.looksAt; exact List.mem_append_left _ (List.mem_filterMap.2 ⟨Operand.tmp t, by simpa using hz, rfl⟩))
    have ea := hoeq ad (by rw [hop]; simp [Op.operands])
    have ey := hoeq y (by rw [hop]; simp [Op.operands])
    have hrep := hinv.ok.og (x := y) (by simp only; rw [ey]; exact hy1)
    simp only [ey] at hrep
    have hra := hinv.ok.og (x := ad) (by simp only; rw [ea]; exact ha1)
    simp only [ea, ha2] at hra
    have he := hra.lit_inv
    obtain ⟨w', r1, r2, r3⟩ := run_store_of (P := P) (H := (q.b, q.m0) :: H) hinv.ok.world (b := q.b) (off := q.off) (m := q.m0) (by simp [hget]) hrep hy2
    rw [hy3] at r2 r3
    simp only [hset, Proofs.YtpidkkgjgichdaaDoor.hset, if_true] at r2 r3
    have hrun : (execOp a.eval o).run P w = .ok .skip w' := by
      simp only [execOp, hop, Sem.run_bind, he, r1, Result.andThen_ok, Sem.run_pure]
    unfold wpOp
    rw [hoi]
    simp only
    rw [if_pos (by simp [Region.wanted, hg])]
    refine .inl ?_
    unfold Oper.wp
    rw [hrun]
    have hd := dinv_put (v := undef) hD hlx hinv hi hli (by rw [hdn]; trivial) (.any _) r2 r3
    have hXX : X (a.put o.dst undef) w' := by
      refine hX _ _ ⟨hls, ?_⟩
      have hiss : (listed.setIfInBounds i true).getD q.is false = true := by rw [hset, if_pos his.symm]
      rw [hiss, if_pos rfl]
      exact hd
    exact hXX
  · try dsimp only at hSi
    rw [if_neg his] at hSi
    refine dinv_stepS hD hlx hli (hSi _ (fresh_one hfr)) hinv hi fun v w' hd => hX _ _ ⟨hls, ?_⟩
    have e : (listed.setIfInBounds i true).getD q.is false = listed.getD q.is false := by rw [hset, if_neg (fun h => his h.symm)]
    rw [e]; exact hd
def drawSF (P : Program) (n : Nat) (l : List Oper) (K : St → Prop) (is k : Nat) (s : St) : Prop :=
  match l.drop is with
  | ⟨none, .store T a y, _, _, _, none⟩ :: q => match (og s.env a).2 with
    | .lit (.pointer (some ⟨b, off, none⟩)) => match hget s.H b with
      | some m0 => dvc P n l.toArray (l.take is) (fun s2 => (og s2.env a).1 ∧ (og s2.env a).2 = pt b off ∧ (og s2.env y).1 ∧ (stC P T m0 off (og s2.env y).2).1 ∧
          dvc P n l.toArray (q.take (k - is - 1)) (fun s3 => rvc P n l.toArray (q.drop (k - is - 1)) K ⟨s3.env, (b, (stC P T m0 off (og s2.env y).2).2) :: s3.H⟩) s2) ⟨s.env, hdel s.H b⟩
      | none => False
    | _ => False
  | _ => False
theorem WP.drawS {id k is : Nat} {l : List Oper} {Q : Exit → St → Prop} {s : St} (hm : P.follows .mixedOrders = true) (hB : drawB l.toArray k = true) (hA : (decide (is < k) && decide (k ≤ l.length)) = true)
    (h : drawSF P n l (Q .normal) is k s) : WP P cx n (.region id l.toArray true) Q s := by
  intro a w ok0
  have hD := drawB_spec hB
  simp only [Bool.and_eq_true, decide_eq_true_eq] at hA
  obtain ⟨hisk, hkl⟩ := hA
  unfold drawSF at h
  split at h
  case h_2 => exact h.elim
  rename_i T ad y ty2 p2 af2 q hq
  split at h
  case h_2 => exact h.elim
  rename_i b off hpt
  split at h
  case h_2 => exact h.elim
  rename_i m0 hg
  have ok : Ok cx n ⟨s.env, (b, m0) :: hdel s.H b⟩ a w := Ok.permH (hget_perm hg) ok0
  have hfr : fresh (hdel s.H b) b := fun p hp => ⟨(hdel_mem ok0.world.nodup p hp).2, Ne.symm (hdel_mem ok0.world.nodup p hp).2⟩
  generalize hH0 : hdel s.H b = H0 at h ok hfr
  obtain ⟨xs2, x2, S2, K2⟩ := dvc_seqvE (cx := cx) _ _ h
  simp only at K2 S2
  obtain ⟨ha1, ha2, hy1, hy2, K2⟩ := K2
  obtain ⟨xs3, x3, S3, K3⟩ := dvc_seqvE (cx := cx) _ _ K2
  simp only at K3 S3
  obtain ⟨st, hst⟩ : ∃ st : Oper, st = ⟨none, .store T ad y, ty2, p2, af2, none⟩ := ⟨_, rfl⟩
  rw [← hst] at hq
  generalize hA2 : (l.take is).zip xs2 = A2 at S2 K2 K3 S3 hy1 hy2 ha1 ha2
  generalize hA3 : (q.take (k - is - 1)).zip xs3 = A3 at S3 K3
  have hlq : q.length = l.length - is - 1 := by have := congrArg List.length hq; simp at this; omega
  have l2 : A2.length = is := by rw [← hA2]; simp [x2]; omega
  have l3 : A3.length = k - is - 1 := by rw [← hA3]; simp [x3]; omega
  have f2 : A2.map (·.1) = l.take is := by rw [← hA2]; exact List.map_fst_zip (by omega)
  have f3 : A3.map (·.1) = q.take (k - is - 1) := by rw [← hA3]; exact List.map_fst_zip (by omega)
  obtain ⟨lx, hlxe⟩ : ∃ lx, lx = A2 ++ ([(st, AV.any)] ++ A3) := ⟨_, rfl⟩
  have hfst : lx.map (·.1) = l.take k := by
    have e1 : l.take k = l.take is ++ (l.drop is).take (k - is) := by rw [← List.take_add]; congr 1; omega
    have e4 : (st :: q).take (k - is) = st :: q.take (k - is - 1) := by rw [show k - is = (k - is - 1) + 1 by omega]; rfl
    rw [e1, hq, e4, hlxe]
    simp [f2, f3]
  have hlen : lx.length = k := by have := congrArg List.length hfst; simp at this; omega
  have hlx : ∀ (j : Nat) o x, lx[j]? = some (o, x) → l.toArray[j]? = some o := by
    intro j o x hj
    have h1 : (lx.map (·.1))[j]? = some o := by rw [List.getElem?_map, hj]; rfl
    rw [hfst, List.getElem?_take] at h1
    split at h1
    · simpa using h1
    · cases h1
  have hdrop : q.drop (k - is - 1) = l.drop k := by
    have e1 : l.drop k = (l.drop is).drop (k - is) := by rw [List.drop_drop]; congr 1; omega
    have e4 : (st :: q).drop (k - is) = q.drop (k - is - 1) := by rw [show k - is = (k - is - 1) + 1 by omega]; rfl
    rw [e1, hq, e4]
  have henvA : envL (fun _ => true) lx 0 s.env = envL (fun _ => true) A3 0 (envL (fun _ => true) A2 0 s.env) := by
    rw [hlxe, envL_append, envL_append, Nat.zero_add]
    simp only [envL, if_true, hst, putE]
    rw [show A2.length + [(({ dst := none, op := .store T ad y, type := ty2, pos := p2, after := af2, guard := none } : Oper), AV.any)].length = A2.length + 1 + 0 from rfl, envL_shiftk (A2.length + 1) A3 0]
  obtain ⟨pb, hpb⟩ : ∃ pb : QB, pb = ⟨is, b, off, m0, (stC P T m0 off (og (envL (fun _ => true) A2 0 s.env) y).2).2⟩ := ⟨_, rfl⟩
  have hSP : SeqS P cx n l.toArray H0 lx s.env pb := by
    unfold SeqS
    rw [hlxe]
    refine SeqG.app (fun i o x hi => ?_) (SeqG.app (SeqG.one ?_) fun i o x hi => ?_)
    · have hlt := (List.getElem?_eq_some_iff.1 hi).1
      try dsimp only
      rw [if_neg (by rw [hpb]; simp only; omega)]
      exact S2 i o x hi
    · try dsimp only
      rw [if_pos (by rw [hpb]; simp only; omega), hpb, hst]
      refine ⟨rfl, rfl, rfl, T, ad, y, rfl, ha1, ha2, hy1, hy2, ?_⟩
      first | rfl | trivial
    · have hlt := (List.getElem?_eq_some_iff.1 hi).1
      try dsimp only
      rw [if_neg (by rw [hpb]; simp; omega)]
      have := S3 i o x hi
      simp only [envL, if_true, hst, putE] at this ⊢
      exact this
  rw [← hlen] at hD
  refine wp_region_any hm ?_
  have ok' : Ok cx n ⟨s.env, (b, m0) :: H0⟩ a { w with drawn := w.drawn + 1 } := by
    have hIw : ∀ c, imm cx w ((b, m0) :: H0) c → imm cx { w with drawn := w.drawn + 1 } ((b, m0) :: H0) c ∧ ({ w with drawn := w.drawn + 1 } : World).heap[c]? = w.heap[c]? := fun c hc => ⟨hc, rfl⟩
    refine ⟨ok.defers, ok.size, fun i => (ok.reps i).mono hIw, ⟨ok.world.nodup, ok.world.keys, fun x hx => (ok.world.mem x hx).mono hIw rfl, ⟨ok.world.ext.os, ok.world.ext.tape, ok.world.ext.output, ok.world.ext.size, ok.world.ext.blk⟩, ok.world.ro⟩⟩
  have henv0 : envL (fun j => (Array.replicate l.toArray.size false).getD j false) lx 0 s.env = s.env := envL_none _ _ _ fun j _ => getD_rep_false _ _
  have inv0 : DInvS cx n l.toArray lx s.env H0 pb (Array.replicate l.toArray.size false) a { w with drawn := w.drawn + 1 } := by
    refine ⟨by simp, ⟨by simp, fun j oj _ hl => ?_, fun t _ ht => ?_, ?_⟩⟩
    · rw [getD_rep_false] at hl; cases hl
    · have : t < l.length := by simpa using ht
      simp [this]
    · rw [henv0, getD_rep_false, hpb]; exact ok'
  have his : pb.is = is := by rw [hpb]
  have hbb : pb.b = b := by rw [hpb]
  have hfin : ∀ listed a w, DInvS cx n l.toArray lx s.env H0 pb listed a w → (∀ j, j < lx.length → listed.getD j false = true) →
      wpAny P .any l.toArray (fun e a' w' => ∃ s', Q e s' ∧ Ok cx n s' a' w') (l.drop k).length listed a w := by
    intro listed a w inv hall
    have hinv := inv.inv
    rw [his, hall is (by omega), if_pos rfl] at hinv
    have henv : ∀ t, look (envL (fun j => listed.getD j false) lx 0 s.env) t = look (envL (fun _ => true) A3 0 (envL (fun _ => true) A2 0 s.env)) t := by
      intro t
      have e1 : envL (fun j => listed.getD j false) lx 0 s.env = envL (fun _ => true) lx 0 s.env := envL_ext lx 0 _ fun j _ hj => hall j (by omega)
      rw [e1, henvA]
    have hok : Ok cx n ⟨envL (fun _ => true) A3 0 (envL (fun _ => true) A2 0 s.env), (b, pb.m1) :: H0⟩ a w := by
      refine ⟨hinv.ok.defers, hinv.ok.size, fun t => ?_, ?_⟩
      · have := hinv.ok.reps t
        simp only [henv t, hbb] at this
        exact this
      · have := hinv.ok.world
        simp only [hbb] at this
        exact this
    have hK := K3
    rw [hdrop] at hK
    have hm1 : pb.m1 = (stC P T m0 off (og (envL (fun _ => true) A2 0 s.env) y).2).2 := by rw [hpb]
    rw [hm1] at hok
    have hwl := rvc_sound (cx := cx) _ _ hK (fun e a' w' => ∃ s', Q e s' ∧ Ok cx n s' a' w') (fun s' a' w' hk ok' => ⟨s', hk, ok'⟩) a w hok
    refine tail_any (k0 := k) (by rw [hlen] at hD; exact hD) (l.drop k) k listed a w (Nat.le_refl _) (fun j => by simp [List.getElem?_drop]) (by simp; omega) inv.lsize (fun j hj => ?_) hwl
    by_cases hjk : j < k
    · rw [hall j (by omega)]; simp [hjk]
    · have := hinv.tail j (by omega) hj
      rw [getD_bool (by rw [inv.lsize]; exact hj)] at this
      rw [this]; simp; omega
  have hcount : ((List.range lx.length).filter fun i => !(Array.replicate l.toArray.size false).getD i false).length = k := by
    rw [hlen]
    have : ((List.range k).filter fun i => !(Array.replicate l.toArray.size false).getD i false) = List.range k := by
      rw [List.filter_eq_self]
      intro j _
      rw [getD_rep_false]
      rfl
    rw [this]; simp
  have := head_any' hD (fun _ _ _ inv => inv.inv.closed) (fun _ _ _ inv => inv.lsize) (fun listed a w i X inv hi hik hX => dinvS_step hD hlx hSP (by rw [hbb]; exact hfr) inv hi hik hX) hfin k _ a _ hcount inv0
  have hN : k + (l.drop k).length = l.toArray.size := by simp; omega
  rw [hN] at this
  exact this
end
end Go.Proofs.YtpidkkgjgichdaaDoor
namespace Go.Proofs.YtpidkkgjgichdaaDoor
open Go
set_option linter.unusedSimpArgs false
set_option linter.unusedVariables false
section
variable {P : Program} {f : FuncId} {args : List AV} {H F F0 R : Hp} {post : AV → Hp → Prop}
theorem DCt.upd {b : Nat} {m : MB} {x : AV} (hg : hget H b = some m) (h : ACt P f args [(b, m)] (fun r F' => r = x ∧ F' = [(b, m)])) : DCt P f args H x :=
  ⟨[(b, m)], hdel H b, _, hget_perm hg, h, fun r F' hr _ => by obtain ⟨e1, e2⟩ := hr; subst e1 e2; exact ⟨rfl, (hget_perm hg).symm⟩⟩
theorem perm1 {b : Nat} {m : MB} (h : hget H b = some m) : H.Perm ([(b, m)] ++ hdel H b) := hget_perm h
theorem perm2 {b1 b2 : Nat} {m1 m2 : MB} (h1 : hget H b1 = some m1) (h2 : hget (hdel H b1) b2 = some m2) : H.Perm ([(b1, m1), (b2, m2)] ++ hdel (hdel H b1) b2) :=
  (hget_perm h1).trans (List.Perm.append_left [(b1, m1)] (hget_perm h2))
theorem perm3 {b1 b2 b3 : Nat} {m1 m2 m3 : MB} (h1 : hget H b1 = some m1) (h2 : hget (hdel H b1) b2 = some m2) (h3 : hget (hdel (hdel H b1) b2) b3 = some m3) : H.Perm ([(b1, m1), (b2, m2), (b3, m3)] ++ hdel (hdel (hdel H b1) b2) b3) :=
  (hget_perm h1).trans (List.Perm.append_left [(b1, m1)] (perm2 h2 h3))
theorem DCt.updN {x : AV} (hP : H.Perm (F ++ R)) (h : ACt P f args F (fun r F' => r = x ∧ F' = F)) : DCt P f args H x :=
  ⟨F, R, _, hP, h, fun r F' hr _ => by obtain ⟨e1, e2⟩ := hr; subst e1 e2; exact ⟨rfl, hP.symm⟩⟩
theorem CallV.updN {x : AV} (hP : H.Perm (F ++ R)) (h : ACt P f args F (fun r F' => r = x ∧ F' = F0)) (hp : post x (F0 ++ R)) : CallV P f args H post :=
  ⟨F, R, _, hP, h, fun r F' hr _ => by obtain ⟨e1, e2⟩ := hr; subst e1 e2; exact hp⟩
theorem fresh_perm {b : Nat} {m : MB} (hP : H.Perm (F ++ R)) (hk : F0.map (·.1) = F.map (·.1)) (hn : ((((b, m) :: F0) ++ R).map (·.1)).Nodup) : fresh H b := by
  intro p hp
  have hp' := hP.mem_iff.1 hp
  simp only [List.cons_append, List.map_cons, List.nodup_cons, List.map_append, List.mem_append] at hn
  have hne : p.1 ≠ b := by
    rintro rfl
    rcases List.mem_append.1 hp' with h | h
    · exact hn.1 (.inl (by rw [hk]; exact List.mem_map_of_mem h))
    · exact hn.1 (.inr (List.mem_map_of_mem h))
  exact ⟨hne, Ne.symm hne⟩
theorem CallV.ex {Γ : Type} {x : Γ → AV} {m : Γ → Hp} (hP : H.Perm (F ++ R)) (h : ACt P f args F (fun r F' => ∃ g, r = x g ∧ F' = m g)) (hp : ∀ g, post (x g) (m g ++ R)) : CallV P f args H post :=
  ⟨F, R, _, hP, h, fun r F' hr _ => by obtain ⟨g, e1, e2⟩ := hr; subst e1 e2; exact hp g⟩
theorem ExF.up {K : AV → Prop} {x : AV} (hP : ∃ R, H.Perm (F ++ R)) (h : ACt P f args F (fun r F' => r = x ∧ F' = F)) (hk : K x) : ExF P f args H K := let ⟨_, hP⟩ := hP; ExF.on (DCt.updN hP h) hk
theorem ExG.up {c : Bool} {K : AV → Prop} {x : AV} (hP : ∃ R, H.Perm (F ++ R)) (h : c = true → ACt P f args F (fun r F' => r = x ∧ F' = F)) (hk : K x) : ExG c P f args H K := let ⟨_, hP⟩ := hP; ExG.on (fun hc => DCt.updN hP (h hc)) hk
theorem ExG.upJ {c : Bool} {K : AV → Prop} {x : AV} {q : Prop} (hP : ∃ R, H.Perm (F ++ R)) (h : c = true → ACt P f args F (fun r F' => r = x ∧ F' = F)) (hk : K x) : ExG c P f args H K ∨ q := .inl (ExG.up hP h hk)
theorem ExG.upI {c : Bool} {K : AV → Prop} {x : AV} {q ob : Prop} (hP : ∃ R, H.Perm (F ++ R)) (h : c = true → ACt P f args F (fun r F' => r = x ∧ F' = F)) (ho : ob) (hk : K x) : (ob ∧ ExG c P f args H K) ∨ q := .inl ⟨ho, ExG.up hP h hk⟩
theorem CallV.updM {f : FuncId} {args : List AV} {H F F0 R : Hp} {post : AV → Hp → Prop} {x : AV} (h : ACt P f args F (fun r F' => r = x ∧ F' = F0)) (hP : H.Perm (F ++ R)) (hp : post x (F0 ++ R)) : CallV P f args H post := CallV.updN hP h hp
end
end Go.Proofs.YtpidkkgjgichdaaDoor
