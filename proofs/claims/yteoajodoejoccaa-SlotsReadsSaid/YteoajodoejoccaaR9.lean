/-
  The walks and the laws that the statement leans on, part 9.
-/
import Derived.Test.YteoajodoejoccaaProg
import Derived.Test.YteoajodoejoccaaR6
import Derived.Test.YteoajodoejoccaaR8
namespace Go.Proofs.Yteoajodoejoccaa
open Go
theorem tyc0 : tyc Try.prog 0 = some none := by kernel_rfl
theorem tyc2 : tyc Try.prog 2 = some none := by kernel_rfl
theorem zmb2 : zmb Try.prog 2 = some (.cells [(.lit (.int .i64 0))] 1 2) := by kernel_rfl
theorem tyc3 : tyc Try.prog 3 = some none := by kernel_rfl
theorem zmb3 : zmb Try.prog 3 = some (.cells [(.lit (.int .i64 0))] 1 3) := by kernel_rfl
theorem tyc4 : tyc Try.prog 4 = some none := by kernel_rfl
theorem zmb4 : zmb Try.prog 4 = some (.cells [(.lit (.bool false))] 1 4) := by kernel_rfl
theorem tyc5 : tyc Try.prog 5 = some none := by kernel_rfl
theorem zmb5 : zmb Try.prog 5 = some (.cells [(.lit (.int .u8 0))] 1 5) := by kernel_rfl
theorem tyc9 : tyc Try.prog 9 = some none := by kernel_rfl
theorem zmb9 : zmb Try.prog 9 = some (.cells [(.lit (.string ⟨#[]⟩))] 1 9) := by kernel_rfl
theorem tyc20 : tyc Try.prog 20 = some none := by kernel_rfl
theorem zmb20 : zmb Try.prog 20 = some (.cells [(.lit .nilIface)] 1 20) := by kernel_rfl
theorem tyc25 : tyc Try.prog 25 = some none := by kernel_rfl
theorem mth25_45 : mthOf Try.prog 25 "firebell/block.deed" = some 45 := by kernel_rfl
theorem mth25_44 : mthOf Try.prog 25 "firebell/block.may" = some 44 := by kernel_rfl
theorem mth25_43 : mthOf Try.prog 25 "firebell/block.settle" = some 43 := by kernel_rfl
theorem con25 : Try.prog.concrete 25 = true := by kernel_rfl
theorem zmb25 : zmb Try.prog 25 = some (.cells [(.lit (.pointer none))] 1 25) := by kernel_rfl
theorem tyc28 : tyc Try.prog 28 = some none := by kernel_rfl
theorem zmb28 : zmb Try.prog 28 = some (.cells [(.lit (.int .i64 0))] 1 28) := by kernel_rfl
theorem tyc30 : tyc Try.prog 30 = some none := by kernel_rfl
theorem mth30_37 : mthOf Try.prog 30 "firebell/slots.lay" = some 37 := by kernel_rfl
theorem con30 : Try.prog.concrete 30 = true := by kernel_rfl
theorem zmb30 : zmb Try.prog 30 = some (.cells [(.lit (.pointer none))] 1 30) := by kernel_rfl
theorem tyc31 : tyc Try.prog 31 = some none := by kernel_rfl
theorem tyc35 : tyc Try.prog 35 = some none := by kernel_rfl
theorem zmb35 : zmb Try.prog 35 = some (.cells [(.lit (.int .u64 0))] 1 35) := by kernel_rfl
theorem tyc36 : tyc Try.prog 36 = some none := by kernel_rfl
theorem elt36 : elt Try.prog 36 = some (none, 1) := by kernel_rfl
theorem mkz36 : mkz Try.prog 36 = some (5, 1, .u8) := by kernel_rfl
theorem apT36 : apT Try.prog 36 = some (5, 1, 1) := by kernel_rfl
theorem elk36 : elk Try.prog 36 = (some .u8) := by kernel_rfl
theorem zmb36 : zmb Try.prog 36 = some (.cells [(.lit (.slice none 0 0))] 1 36) := by kernel_rfl
theorem tyc38 : tyc Try.prog 38 = some (some 2) := by kernel_rfl
theorem foff38_0 : foff Try.prog 38 0 = some 0 := by kernel_rfl
theorem fpart38_0 : fpart Try.prog 38 0 = some (0, none) := by kernel_rfl
theorem foff38_1 : foff Try.prog 38 1 = some 1 := by kernel_rfl
theorem fpart38_1 : fpart Try.prog 38 1 = some (1, none) := by kernel_rfl
theorem zmb38 : zmb Try.prog 38 = some (.cells [(.lit (.int .u64 0)), (.lit (.slice none 0 0))] 2 38) := by kernel_rfl
theorem bldT38 : bldT Try.prog 38 = some ([(.int .u64 0), (.slice none 0 0)], [(0, 1), (1, 1)]) := by kernel_rfl
theorem tyc41 : tyc Try.prog 41 = some none := by kernel_rfl
theorem tyc48 : tyc Try.prog 48 = some (some 6) := by kernel_rfl
theorem foff48_0 : foff Try.prog 48 0 = some 0 := by kernel_rfl
theorem fpart48_0 : fpart Try.prog 48 0 = some (0, none) := by kernel_rfl
theorem foff48_1 : foff Try.prog 48 1 = some 1 := by kernel_rfl
theorem fpart48_1 : fpart Try.prog 48 1 = some (1, none) := by kernel_rfl
theorem foff48_2 : foff Try.prog 48 2 = some 2 := by kernel_rfl
theorem fpart48_2 : fpart Try.prog 48 2 = some (2, none) := by kernel_rfl
theorem foff48_3 : foff Try.prog 48 3 = some 3 := by kernel_rfl
theorem fpart48_3 : fpart Try.prog 48 3 = some (3, none) := by kernel_rfl
theorem foff48_4 : foff Try.prog 48 4 = some 4 := by kernel_rfl
theorem fpart48_4 : fpart Try.prog 48 4 = some (4, none) := by kernel_rfl
theorem foff48_5 : foff Try.prog 48 5 = some 5 := by kernel_rfl
theorem fpart48_5 : fpart Try.prog 48 5 = some (5, none) := by kernel_rfl
theorem fe48 : flatEq Try.prog 48 [1, 1, 1, 1, 1, 1] := flatEq_of (by kernel_rfl)
theorem zmb48 : zmb Try.prog 48 = some (.cells [(.lit (.int .i64 0)), (.lit (.int .i64 0)), (.lit (.int .i64 0)), (.lit (.int .i64 0)), (.lit (.int .i64 0)), (.lit (.int .i64 0))] 6 48) := by kernel_rfl
theorem bldT48 : bldT Try.prog 48 = some ([(.int .i64 0), (.int .i64 0), (.int .i64 0), (.int .i64 0), (.int .i64 0), (.int .i64 0)], [(0, 1), (1, 1), (2, 1), (3, 1), (4, 1), (5, 1)]) := by kernel_rfl
theorem tyc57 : tyc Try.prog 57 = some none := by kernel_rfl
theorem tyc62 : tyc Try.prog 62 = some none := by kernel_rfl
theorem tyc65 : tyc Try.prog 65 = some (some 6) := by kernel_rfl
theorem foff65_0 : foff Try.prog 65 0 = some 0 := by kernel_rfl
theorem fpart65_0 : fpart Try.prog 65 0 = some (0, none) := by kernel_rfl
theorem foff65_1 : foff Try.prog 65 1 = some 1 := by kernel_rfl
theorem fpart65_1 : fpart Try.prog 65 1 = some (1, none) := by kernel_rfl
theorem foff65_2 : foff Try.prog 65 2 = some 2 := by kernel_rfl
theorem fpart65_2 : fpart Try.prog 65 2 = some (2, none) := by kernel_rfl
theorem foff65_3 : foff Try.prog 65 3 = some 3 := by kernel_rfl
theorem fpart65_3 : fpart Try.prog 65 3 = some (3, none) := by kernel_rfl
theorem foff65_4 : foff Try.prog 65 4 = some 4 := by kernel_rfl
theorem fpart65_4 : fpart Try.prog 65 4 = some (4, none) := by kernel_rfl
theorem foff65_5 : foff Try.prog 65 5 = some 5 := by kernel_rfl
theorem fpart65_5 : fpart Try.prog 65 5 = some (5, none) := by kernel_rfl
theorem zmb65 : zmb Try.prog 65 = some (.cells [(.lit (.pointer none)), (.lit (.int .i64 0)), (.lit (.int .i64 0)), (.lit (.int .u64 0)), (.lit (.slice none 0 0)), (.lit (.bool false))] 6 65) := by kernel_rfl
theorem bldT65 : bldT Try.prog 65 = some ([(.pointer none), (.int .i64 0), (.int .i64 0), (.int .u64 0), (.slice none 0 0), (.bool false)], [(0, 1), (1, 1), (2, 1), (3, 1), (4, 1), (5, 1)]) := by kernel_rfl
theorem tyc66 : tyc Try.prog 66 = some none := by kernel_rfl
theorem tyc70 : tyc Try.prog 70 = some none := by kernel_rfl
theorem elt70 : elt Try.prog 70 = some (none, 1) := by kernel_rfl
theorem mkz70 : mkz Try.prog 70 = none := by kernel_rfl
theorem mkc70 : mkc Try.prog 70 = some (36, 1, 24, [(.lit (.slice none 0 0))]) := by kernel_rfl
theorem apT70 : apT Try.prog 70 = some (36, 1, 24) := by kernel_rfl
theorem elk70 : elk Try.prog 70 = none := by kernel_rfl
theorem zmb70 : zmb Try.prog 70 = some (.cells [(.lit (.slice none 0 0))] 1 70) := by kernel_rfl
theorem tyc71 : tyc Try.prog 71 = some none := by kernel_rfl
theorem elt71 : elt Try.prog 71 = some (none, 2) := by kernel_rfl
theorem mkz71 : mkz Try.prog 71 = none := by kernel_rfl
theorem mkc71 : mkc Try.prog 71 = some (76, 2, 32, [(.lit (.int .i64 0)), (.lit (.slice none 0 0))]) := by kernel_rfl
theorem apT71 : apT Try.prog 71 = some (76, 2, 32) := by kernel_rfl
theorem elk71 : elk Try.prog 71 = none := by kernel_rfl
theorem zmb71 : zmb Try.prog 71 = some (.cells [(.lit (.slice none 0 0))] 1 71) := by kernel_rfl
theorem tyc73 : tyc Try.prog 73 = some (some 7) := by kernel_rfl
theorem foff73_0 : foff Try.prog 73 0 = some 0 := by kernel_rfl
theorem fpart73_0 : fpart Try.prog 73 0 = some (0, none) := by kernel_rfl
theorem foff73_1 : foff Try.prog 73 1 = some 1 := by kernel_rfl
theorem fpart73_1 : fpart Try.prog 73 1 = some (1, none) := by kernel_rfl
theorem foff73_2 : foff Try.prog 73 2 = some 2 := by kernel_rfl
theorem fpart73_2 : fpart Try.prog 73 2 = some (2, none) := by kernel_rfl
theorem foff73_3 : foff Try.prog 73 3 = some 3 := by kernel_rfl
theorem fpart73_3 : fpart Try.prog 73 3 = some (3, none) := by kernel_rfl
theorem foff73_4 : foff Try.prog 73 4 = some 4 := by kernel_rfl
theorem fpart73_4 : fpart Try.prog 73 4 = some (4, none) := by kernel_rfl
theorem foff73_5 : foff Try.prog 73 5 = some 5 := by kernel_rfl
theorem fpart73_5 : fpart Try.prog 73 5 = some (5, none) := by kernel_rfl
theorem foff73_6 : foff Try.prog 73 6 = some 6 := by kernel_rfl
theorem fpart73_6 : fpart Try.prog 73 6 = some (6, none) := by kernel_rfl
theorem zmb73 : zmb Try.prog 73 = some (.cells [(.lit (.int .i64 0)), (.lit (.slice none 0 0)), (.lit (.slice none 0 0)), (.lit (.slice none 0 0)), (.lit (.int .i64 0)), (.lit (.bool false)), (.lit (.int .i64 0))] 7 73) := by kernel_rfl
theorem bldT73 : bldT Try.prog 73 = some ([(.int .i64 0), (.slice none 0 0), (.slice none 0 0), (.slice none 0 0), (.int .i64 0), (.bool false), (.int .i64 0)], [(0, 1), (1, 1), (2, 1), (3, 1), (4, 1), (5, 1), (6, 1)]) := by kernel_rfl
theorem tyc76 : tyc Try.prog 76 = some (some 2) := by kernel_rfl
theorem foff76_0 : foff Try.prog 76 0 = some 0 := by kernel_rfl
theorem fpart76_0 : fpart Try.prog 76 0 = some (0, none) := by kernel_rfl
theorem foff76_1 : foff Try.prog 76 1 = some 1 := by kernel_rfl
theorem fpart76_1 : fpart Try.prog 76 1 = some (1, none) := by kernel_rfl
theorem zmb76 : zmb Try.prog 76 = some (.cells [(.lit (.int .i64 0)), (.lit (.slice none 0 0))] 2 76) := by kernel_rfl
theorem bldT76 : bldT Try.prog 76 = some ([(.int .i64 0), (.slice none 0 0)], [(0, 1), (1, 1)]) := by kernel_rfl
theorem tyc79 : tyc Try.prog 79 = some none := by kernel_rfl
theorem tyc82 : tyc Try.prog 82 = some (some 4) := by kernel_rfl
theorem foff82_0 : foff Try.prog 82 0 = some 0 := by kernel_rfl
theorem fpart82_0 : fpart Try.prog 82 0 = some (0, none) := by kernel_rfl
theorem foff82_1 : foff Try.prog 82 1 = some 1 := by kernel_rfl
theorem fpart82_1 : fpart Try.prog 82 1 = some (1, none) := by kernel_rfl
theorem foff82_2 : foff Try.prog 82 2 = some 2 := by kernel_rfl
theorem fpart82_2 : fpart Try.prog 82 2 = some (2, none) := by kernel_rfl
theorem foff82_3 : foff Try.prog 82 3 = some 3 := by kernel_rfl
theorem fpart82_3 : fpart Try.prog 82 3 = some (3, none) := by kernel_rfl
theorem fe82 : flatEq Try.prog 82 [1, 1, 3, 2] := flatEq_of (by kernel_rfl)
theorem zmb82 : zmb Try.prog 82 = some (.cells [(.lit (.int .u64 0)), (.lit (.int .i64 0)), (.lit (.string ⟨#[]⟩)), (.lit (.bool false))] 4 82) := by kernel_rfl
theorem bldT82 : bldT Try.prog 82 = some ([(.int .u64 0), (.int .i64 0), (.string ⟨#[]⟩), (.bool false)], [(0, 1), (1, 1), (2, 1), (3, 1)]) := by kernel_rfl
theorem tyc83 : tyc Try.prog 83 = some none := by kernel_rfl
theorem tyc86 : tyc Try.prog 86 = some (some 2) := by kernel_rfl
theorem foff86_0 : foff Try.prog 86 0 = some 0 := by kernel_rfl
theorem fpart86_0 : fpart Try.prog 86 0 = some (0, none) := by kernel_rfl
theorem foff86_1 : foff Try.prog 86 1 = some 1 := by kernel_rfl
theorem fpart86_1 : fpart Try.prog 86 1 = some (1, none) := by kernel_rfl
theorem fe86 : flatEq Try.prog 86 [1, 1] := flatEq_of (by kernel_rfl)
theorem zmb86 : zmb Try.prog 86 = some (.cells [(.lit (.int .i64 0)), (.lit (.int .i64 0))] 2 86) := by kernel_rfl
theorem bldT86 : bldT Try.prog 86 = some ([(.int .i64 0), (.int .i64 0)], [(0, 1), (1, 1)]) := by kernel_rfl
theorem tyc88 : tyc Try.prog 88 = some none := by kernel_rfl
theorem tyc90 : tyc Try.prog 90 = some none := by kernel_rfl
theorem mth90_68 : mthOf Try.prog 90 "firebell/wire.fail" = some 68 := by kernel_rfl
theorem mth90_61 : mthOf Try.prog 90 "firebell/wire.get" = some 61 := by kernel_rfl
theorem mth90_67 : mthOf Try.prog 90 "firebell/wire.take" = some 67 := by kernel_rfl
theorem con90 : Try.prog.concrete 90 = true := by kernel_rfl
theorem zmb90 : zmb Try.prog 90 = some (.cells [(.lit (.pointer none))] 1 90) := by kernel_rfl
theorem tyc92 : tyc Try.prog 92 = some none := by kernel_rfl
theorem zmb92 : zmb Try.prog 92 = some (.cells [(.lit .nilFunc)] 1 92) := by kernel_rfl
theorem tyc95 : tyc Try.prog 95 = some none := by kernel_rfl
theorem zmb95 : zmb Try.prog 95 = some (.cells [(.lit (.int .u32 0))] 1 95) := by kernel_rfl
theorem tyc100 : tyc Try.prog 100 = some (some 2) := by kernel_rfl
theorem foff100_0 : foff Try.prog 100 0 = some 0 := by kernel_rfl
theorem fpart100_0 : fpart Try.prog 100 0 = some (0, none) := by kernel_rfl
theorem foff100_1 : foff Try.prog 100 1 = some 1 := by kernel_rfl
theorem fpart100_1 : fpart Try.prog 100 1 = some (1, none) := by kernel_rfl
theorem zmb100 : zmb Try.prog 100 = some (.cells [(.lit (.slice none 0 0)), (.lit (.bool false))] 2 100) := by kernel_rfl
theorem bldT100 : bldT Try.prog 100 = some ([(.slice none 0 0), (.bool false)], [(0, 1), (1, 1)]) := by kernel_rfl
theorem tyc101 : tyc Try.prog 101 = some none := by kernel_rfl
theorem tyc103 : tyc Try.prog 103 = some none := by kernel_rfl
theorem zmb103 : zmb Try.prog 103 = some (.cells [(.lit .nilFunc)] 1 103) := by kernel_rfl
theorem tyc104 : tyc Try.prog 104 = some none := by kernel_rfl
theorem zmb104 : zmb Try.prog 104 = some (.cells [(.lit (.int .u64 0))] 1 104) := by kernel_rfl
theorem tyc108 : tyc Try.prog 108 = some none := by kernel_rfl
theorem tyc110 : tyc Try.prog 110 = some (some 16) := by kernel_rfl
theorem elt110 : elt Try.prog 110 = some ((some 16), 1) := by kernel_rfl
theorem arr1110 : arr1 Try.prog 110 = some 16 := by kernel_rfl
theorem zmb110 : zmb Try.prog 110 = some (.zs .u32 [0, 0, 0, 0, 0, 0, 0, 0, 0, 0, 0, 0, 0, 0, 0, 0] 16 110) := by kernel_rfl
theorem bldT110 : bldT Try.prog 110 = some ([(.int .u32 0), (.int .u32 0), (.int .u32 0), (.int .u32 0), (.int .u32 0), (.int .u32 0), (.int .u32 0), (.int .u32 0), (.int .u32 0), (.int .u32 0), (.int .u32 0), (.int .u32 0), (.int .u32 0), (.int .u32 0), (.int .u32 0), (.int .u32 0)], [(0, 1), (1, 1), (2, 1), (3, 1), (4, 1), (5, 1), (6, 1), (7, 1), (8, 1), (9, 1), (10, 1), (11, 1), (12, 1), (13, 1), (14, 1), (15, 1)]) := by kernel_rfl
theorem mixed : Try.prog.follows .mixedOrders = true := by kernel_rfl
end Go.Proofs.Yteoajodoejoccaa
namespace Go.Proofs.Yteoajodoejoccaa
open Go
set_option linter.unusedVariables false
set_option linter.unusedSimpArgs false
section
variable {P : Program} {cx : Cx} {n : Nat} {ops : Array Oper} {H : Hp}
theorem Ok.permH {env : List (Nat × AV)} {H H' : Hp} {a : Act} {w : World} (hp : H.Perm H') (ok : Ok cx n ⟨env, H⟩ a w) : Ok cx n ⟨env, H'⟩ a w :=
  ⟨ok.defers, ok.size, fun t => (ok.reps t).mono fun b hb => ⟨(imm_perm hp).1 hb, rfl⟩, ok.world.perm hp⟩
theorem fresh_app {E H : Hp} (h : ((E ++ H).map (·.1)).Nodup) : ∀ p ∈ E, fresh H p.1 := by
  intro p hp x hx
  rw [List.map_append, List.nodup_append] at h
  have := h.2.2 p.1 (List.mem_map_of_mem hp) x.1 (List.mem_map_of_mem hx)
  exact ⟨fun he => this he.symm, this⟩
def alF (P : Program) (n : Nat) (K : St → Prop) : List Oper → St → Prop
  | [], s => K s
  | o :: r, s => match o with
    | ⟨some t, .alloc T, _, _, _, none⟩ => match zmb P T with
      | some m => t < n ∧ newB s.H m fun b H => alF P n K r ⟨(t, pt b 0) :: s.env, H⟩
      | none => False
    | _ => False
def drawAF (P : Program) (n : Nat) (l : List Oper) (K : St → Prop) (p r : Nat) (s : St) : Prop :=
  dvc P n l.toArray (l.take p) (fun s1 => alF P n (fun s2 => rvc P n l.toArray (l.drop (p + r)) K s2) ((l.drop p).take r) s1) s
end
end Go.Proofs.Yteoajodoejoccaa
namespace Go.Proofs.Yteoajodoejoccaa
open Go
set_option linter.unusedSimpArgs false
set_option linter.unusedVariables false
section
variable {P : Program} {cx : Cx} {n : Nat} {ops : Array Oper} {H : Hp}
structure QB where
  is : Nat
  b : Nat
  off : Nat
  m0 : MB
  m1 : MB
def SeqS (P : Program) (cx : Cx) (n : Nat) (ops : Array Oper) (H : Hp) (lx : List (Oper × AV)) (env : List (Nat × AV)) (q : QB) : Prop :=
  SeqG (fun i o x env => if i = q.is then o.guard = none ∧ x = .any ∧ o.dst = none ∧ ∃ T a y, o.op = .store T a y ∧ (og env a).1 ∧ (og env a).2 = pt q.b q.off ∧ (og env y).1 ∧
      (stC P T q.m0 q.off (og env y).2).1 ∧ (stC P T q.m0 q.off (og env y).2).2 = q.m1
    else StdyE P cx n ops o env H x) lx env
structure DInvS (cx : Cx) (n : Nat) (ops : Array Oper) (lx : List (Oper × AV)) (env : List (Nat × AV)) (H : Hp) (q : QB) (listed : Array Bool) (a : Act) (w : World) : Prop where
  lsize : listed.size = ops.size
  inv : DInv cx n ops lx env ((q.b, if listed.getD q.is false then q.m1 else q.m0) :: H) listed a w
theorem dinvS_step {lx : List (Oper × AV)} {env : List (Nat × AV)} {q : QB} {listed : Array Bool} {a : Act} {w : World} {i : Nat} (hD : DrawOk ops lx.length) (hlx : ∀ (j : Nat) o x, lx[j]? = some (o, x) → ops[j]? = some o)
    (hS : SeqS P cx n ops H lx env q) (hfr : fresh H q.b)
    (inv : DInvS cx n ops lx env H q listed a w) (hi : i ∈ Region.ready .any ops listed) (hik : i < lx.length) {R : Exit → Act → World → Prop} {X : Act → World → Prop}
    (hX : ∀ a' w', DInvS cx n ops lx env H q (listed.setIfInBounds i true) a' w' → X a' w') : wpOp P ops R i X a w := by
  obtain ⟨⟨o, x⟩, hp⟩ : ∃ p, lx[i] = p := ⟨_, rfl⟩
  have hli : lx[i]? = some (o, x) := by rw [List.getElem?_eq_getElem hik, hp]
  have hoi := hlx i o x hli
  have hSi := hS i o x hli
  have hilt : i < ops.size := (Array.getElem?_eq_some_iff.1 hoi).1
  have hset : ∀ j, (listed.setIfInBounds i true).getD j false = if j = i then true else listed.getD j false := by
    intro j
    by_cases hji : j = i
    · subst hji
      have : j < listed.size := by rw [inv.lsize]; exact hilt
      simp [this]
    · rw [if_neg hji, getD_set_ne false (Ne.symm hji)]
  have hls : (listed.setIfInBounds i true).size = ops.size := by simp [inv.lsize]
  have hinv := inv.inv
  by_cases his : i = q.is
  · try dsimp only at hSi
    rw [if_pos his] at hSi
    obtain ⟨hg, rfl, hdn, T, ad, y, hop, ha1, ha2, hy1, hy2, hy3⟩ := hSi
    have hun : listed.getD q.is false = false := by
      have := (mem_ready.1 hi).1
      rw [getD_bool (by rw [inv.lsize]; exact hilt), his] at this
      exact this
    rw [hun] at hinv
    simp only [Bool.false_eq_true, if_false] at hinv
    have hlook := dinv_look hD hlx hinv hi hli
    have hoeq : ∀ z ∈ o.op.operands, og (envL (fun j => listed.getD j false) lx 0 env) z = og (envL (fun j => decide (j < i)) lx 0 env) z := by
      intro z hz
      refine og_congr (opd_congr fun t ht => ?_)
      subst ht
      exact hlook t (by unfold Oper.looksAt; exact List.mem_append_left _ (List.mem_filterMap.2 ⟨Operand.tmp t, by simpa using hz, rfl⟩))
    have ea := hoeq ad (by rw [hop]; simp [Op.operands])
    have ey := hoeq y (by rw [hop]; simp [Op.operands])
    have hrep := hinv.ok.og (x := y) (by simp only; rw [ey]; exact hy1)
    simp only [ey] at hrep
    have hra := hinv.ok.og (x := ad) (by simp only; rw [ea]; exact ha1)
    simp only [ea, ha2] at hra
    have he := hra.lit_inv
    obtain ⟨w', r1, r2, r3⟩ := run_store_of (P := P) (H := (q.b, q.m0) :: H) hinv.ok.world (b := q.b) (off := q.off) (m := q.m0) (by simp [hget]) hrep hy2
    rw [hy3] at r2 r3
    simp only [hset, Proofs.Yteoajodoejoccaa.hset, if_true] at r2 r3
    have hrun : (execOp a.eval o).run P w = .ok .skip w' := by
      simp only [execOp, hop, Sem.run_bind, he, r1, Result.andThen_ok, Sem.run_pure]
    unfold wpOp
    rw [hoi]
    simp only
    rw [if_pos (by simp [Region.wanted, hg])]
    refine .inl ?_
    unfold Oper.wp
    rw [hrun]
    have hd := dinv_put (v := undef) hD hlx hinv hi hli (by rw [hdn]; trivial) (.any _) r2 r3
    have hXX : X (a.put o.dst undef) w' := by
      refine hX _ _ ⟨hls, ?_⟩
      have hiss : (listed.setIfInBounds i true).getD q.is false = true := by rw [hset, if_pos his.symm]
      rw [hiss, if_pos rfl]
      exact hd
    exact hXX
  · try dsimp only at hSi
    rw [if_neg his] at hSi
    refine dinv_stepS hD hlx hli (hSi _ (fresh_one hfr)) hinv hi fun v w' hd => hX _ _ ⟨hls, ?_⟩
    have e : (listed.setIfInBounds i true).getD q.is false = listed.getD q.is false := by rw [hset, if_neg (fun h => his h.symm)]
    rw [e]; exact hd
def drawSF (P : Program) (n : Nat) (l : List Oper) (K : St → Prop) (is k : Nat) (s : St) : Prop :=
  match l.drop is with
  | ⟨none, .store T a y, _, _, _, none⟩ :: q => match (og s.env a).2 with
    | .lit (.pointer (some ⟨b, off, none⟩)) => match hget s.H b with
      | some m0 => dvc P n l.toArray (l.take is) (fun s2 => (og s2.env a).1 ∧ (og s2.env a).2 = pt b off ∧ (og s2.env y).1 ∧ (stC P T m0 off (og s2.env y).2).1 ∧
          dvc P n l.toArray (q.take (k - is - 1)) (fun s3 => rvc P n l.toArray (q.drop (k - is - 1)) K ⟨s3.env, (b, (stC P T m0 off (og s2.env y).2).2) :: s3.H⟩) s2) ⟨s.env, hdel s.H b⟩
      | none => False
    | _ => False
  | _ => False
theorem WP.drawS {id k is : Nat} {l : List Oper} {Q : Exit → St → Prop} {s : St} (hm : P.follows .mixedOrders = true) (hB : drawB l.toArray k = true) (hA : (decide (is < k) && decide (k ≤ l.length)) = true)
    (h : drawSF P n l (Q .normal) is k s) : WP P cx n (.region id l.toArray true) Q s := by
  intro a w ok0
  have hD := drawB_spec hB
  simp only [Bool.and_eq_true, decide_eq_true_eq] at hA
  obtain ⟨hisk, hkl⟩ := hA
  unfold drawSF at h
  split at h
  case h_2 => exact h.elim
  rename_i T ad y ty2 p2 af2 q hq
  split at h
  case h_2 => exact h.elim
  rename_i b off hpt
  split at h
  case h_2 => exact h.elim
  rename_i m0 hg
  have ok : Ok cx n ⟨s.env, (b, m0) :: hdel s.H b⟩ a w := Ok.permH (hget_perm hg) ok0
  have hfr : fresh (hdel s.H b) b := fun p hp => ⟨(hdel_mem ok0.world.nodup p hp).2, Ne.symm (hdel_mem ok0.world.nodup p hp).2⟩
  generalize hH0 : hdel s.H b = H0 at h ok hfr
  obtain ⟨xs2, x2, S2, K2⟩ := dvc_seqvE (cx := cx) _ _ h
  simp only at K2 S2
  obtain ⟨ha1, ha2, hy1, hy2, K2⟩ := K2
  obtain ⟨xs3, x3, S3, K3⟩ := dvc_seqvE (cx := cx) _ _ K2
  simp only at K3 S3
  obtain ⟨st, hst⟩ : ∃ st : Oper, st = ⟨none, .store T ad y, ty2, p2, af2, none⟩ := ⟨_, rfl⟩
  rw [← hst] at hq
  generalize hA2 : (l.take is).zip xs2 = A2 at S2 K2 K3 S3 hy1 hy2 ha1 ha2
  generalize hA3 : (q.take (k - is - 1)).zip xs3 = A3 at S3 K3
  have hlq : q.length = l.length - is - 1 := by have := congrArg List.length hq; simp at this; omega
  have l2 : A2.length = is := by rw [← hA2]; simp [x2]; omega
  have l3 : A3.length = k - is - 1 := by rw [← hA3]; simp [x3]; omega
  have f2 : A2.map (·.1) = l.take is := by rw [← hA2]; exact List.map_fst_zip (by omega)
  have f3 : A3.map (·.1) = q.take (k - is - 1) := by rw [← hA3]; exact List.map_fst_zip (by omega)
  obtain ⟨lx, hlxe⟩ : ∃ lx, lx = A2 ++ ([(st, AV.any)] ++ A3) := ⟨_, rfl⟩
  have hfst : lx.map (·.1) = l.take k := by
    have e1 : l.take k = l.take is ++ (l.drop is).take (k - is) := by rw [← List.take_add]; congr 1; omega
    have e4 : (st :: q).take (k - is) = st :: q.take (k - is - 1) := by rw [show k - is = (k - is - 1) + 1 by omega]; rfl
    rw [e1, hq, e4, hlxe]
    simp [f2, f3]
  have hlen : lx.length = k := by have := congrArg List.length hfst; simp at this; omega
  have hlx : ∀ (j : Nat) o x, lx[j]? = some (o, x) → l.toArray[j]? = some o := by
    intro j o x hj
    have h1 : (lx.map (·.1))[j]? = some o := by rw [List.getElem?_map, hj]; rfl
    rw [hfst, List.getElem?_take] at h1
    split at h1
    · simpa using h1
    · cases h1
  have hdrop : q.drop (k - is - 1) = l.drop k := by
    have e1 : l.drop k = (l.drop is).drop (k - is) := by rw [List.drop_drop]; congr 1; omega
    have e4 : (st :: q).drop (k - is) = q.drop (k - is - 1) := by rw [show k - is = (k - is - 1) + 1 by omega]; rfl
    rw [e1, hq, e4]
  have henvA : envL (fun _ => true) lx 0 s.env = envL (fun _ => true) A3 0 (envL (fun _ => true) A2 0 s.env) := by
    rw [hlxe, envL_append, envL_append, Nat.zero_add]
    simp only [envL, if_true, hst, putE]
    rw [show A2.length + [(({ dst := none, op := .store T ad y, type := ty2, pos := p2, after := af2, guard := none } : Oper), AV.any)].length = A2.length + 1 + 0 from rfl, envL_shiftk (A2.length + 1) A3 0]
  obtain ⟨pb, hpb⟩ : ∃ pb : QB, pb = ⟨is, b, off, m0, (stC P T m0 off (og (envL (fun _ => true) A2 0 s.env) y).2).2⟩ := ⟨_, rfl⟩
  have hSP : SeqS P cx n l.toArray H0 lx s.env pb := by
    unfold SeqS
    rw [hlxe]
    refine SeqG.app (fun i o x hi => ?_) (SeqG.app (SeqG.one ?_) fun i o x hi => ?_)
    · have hlt := (List.getElem?_eq_some_iff.1 hi).1
      try dsimp only
      rw [if_neg (by rw [hpb]; simp only; omega)]
      exact S2 i o x hi
    · try dsimp only
      rw [if_pos (by rw [hpb]; simp only; omega), hpb, hst]
      refine ⟨rfl, rfl, rfl, T, ad, y, rfl, ha1, ha2, hy1, hy2, ?_⟩
      first | rfl | trivial
    · have hlt := (List.getElem?_eq_some_iff.1 hi).1
      try dsimp only
      rw [if_neg (by rw [hpb]; simp; omega)]
      have := S3 i o x hi
      simp only [envL, if_true, hst, putE] at this ⊢
      exact this
  rw [← hlen] at hD
  refine wp_region_any hm ?_
  have ok' : Ok cx n ⟨s.env, (b, m0) :: H0⟩ a { w with drawn := w.drawn + 1 } := by
    have hIw : ∀ c, imm cx w ((b, m0) :: H0) c → imm cx { w with drawn := w.drawn + 1 } ((b, m0) :: H0) c ∧ ({ w with drawn := w.drawn + 1 } : World).heap[c]? = w.heap[c]? := fun c hc => ⟨hc, rfl⟩
    refine ⟨ok.defers, ok.size, fun i => (ok.reps i).mono hIw, ⟨ok.world.nodup, ok.world.keys, fun x hx => (ok.world.mem x hx).mono hIw rfl, ⟨ok.world.ext.os, ok.world.ext.tape, ok.world.ext.output, ok.world.ext.size, ok.world.ext.blk⟩, ok.world.ro⟩⟩
  have henv0 : envL (fun j => (Array.replicate l.toArray.size false).getD j false) lx 0 s.env = s.env := envL_none _ _ _ fun j _ => getD_rep_false _ _
  have inv0 : DInvS cx n l.toArray lx s.env H0 pb (Array.replicate l.toArray.size false) a { w with drawn := w.drawn + 1 } := by
    refine ⟨by simp, ⟨by simp, fun j oj _ hl => ?_, fun t _ ht => ?_, ?_⟩⟩
    · rw [getD_rep_false] at hl; cases hl
    · have : t < l.length := by simpa using ht
      simp [this]
    · rw [henv0, getD_rep_false, hpb]; exact ok'
  have his : pb.is = is := by rw [hpb]
  have hbb : pb.b = b := by rw [hpb]
  have hfin : ∀ listed a w, DInvS cx n l.toArray lx s.env H0 pb listed a w → (∀ j, j < lx.length → listed.getD j false = true) →
      wpAny P .any l.toArray (fun e a' w' => ∃ s', Q e s' ∧ Ok cx n s' a' w') (l.drop k).length listed a w := by
    intro listed a w inv hall
    have hinv := inv.inv
    rw [his, hall is (by omega), if_pos rfl] at hinv
    have henv : ∀ t, look (envL (fun j => listed.getD j false) lx 0 s.env) t = look (envL (fun _ => true) A3 0 (envL (fun _ => true) A2 0 s.env)) t := by
      intro t
      have e1 : envL (fun j => listed.getD j false) lx 0 s.env = envL (fun _ => true) lx 0 s.env := envL_ext lx 0 _ fun j _ hj => hall j (by omega)
      rw [e1, henvA]
    have hok : Ok cx n ⟨envL (fun _ => true) A3 0 (envL (fun _ => true) A2 0 s.env), (b, pb.m1) :: H0⟩ a w := by
      refine ⟨hinv.ok.defers, hinv.ok.size, fun t => ?_, ?_⟩
      · have := hinv.ok.reps t
        simp only [henv t, hbb] at this
        exact this
      · have := hinv.ok.world
        simp only [hbb] at this
        exact this
    have hK := K3
    rw [hdrop] at hK
    have hm1 : pb.m1 = (stC P T m0 off (og (envL (fun _ => true) A2 0 s.env) y).2).2 := by rw [hpb]
    rw [hm1] at hok
    have hwl := rvc_sound (cx := cx) _ _ hK (fun e a' w' => ∃ s', Q e s' ∧ Ok cx n s' a' w') (fun s' a' w' hk ok' => ⟨s', hk, ok'⟩) a w hok
    refine tail_any (k0 := k) (by rw [hlen] at hD; exact hD) (l.drop k) k listed a w (Nat.le_refl _) (fun j => by simp [List.getElem?_drop]) (by simp; omega) inv.lsize (fun j hj => ?_) hwl
    by_cases hjk : j < k
    · rw [hall j (by omega)]; simp [hjk]
    · have := hinv.tail j (by omega) hj
      rw [getD_bool (by rw [inv.lsize]; exact hj)] at this
      rw [this]; simp; omega
  have hcount : ((List.range lx.length).filter fun i => !(Array.replicate l.toArray.size false).getD i false).length = k := by
    rw [hlen]
    have : ((List.range k).filter fun i => !(Array.replicate l.toArray.size false).getD i false) = List.range k := by
      rw [List.filter_eq_self]
      intro j _
      rw [getD_rep_false]
      rfl
    rw [this]; simp
  have := head_any' hD (fun _ _ _ inv => inv.inv.closed) (fun _ _ _ inv => inv.lsize) (fun listed a w i X inv hi hik hX => dinvS_step hD hlx hSP (by rw [hbb]; exact hfr) inv hi hik hX) hfin k _ a _ hcount inv0
  have hN : k + (l.drop k).length = l.toArray.size := by simp; omega
  rw [hN] at this
  exact this
end
end Go.Proofs.Yteoajodoejoccaa
namespace Go.Proofs.Yteoajodoejoccaa
open Go
set_option linter.unusedSimpArgs false
set_option linter.unusedVariables false
section
variable {P : Program} {f : FuncId} {args : List AV} {H F F0 R : Hp} {post : AV → Hp → Prop}
theorem DCt.upd {b : Nat} {m : MB} {x : AV} (hg : hget H b = some m) (h : ACt P f args [(b, m)] (fun r F' => r = x ∧ F' = [(b, m)])) : DCt P f args H x :=
  ⟨[(b, m)], hdel H b, _, hget_perm hg, h, fun r F' hr _ => by obtain ⟨e1, e2⟩ := hr; subst e1 e2; exact ⟨rfl, (hget_perm hg).symm⟩⟩
theorem perm1 {b : Nat} {m : MB} (h : hget H b = some m) : H.Perm ([(b, m)] ++ hdel H b) := hget_perm h
theorem perm2 {b1 b2 : Nat} {m1 m2 : MB} (h1 : hget H b1 = some m1) (h2 : hget (hdel H b1) b2 = some m2) : H.Perm ([(b1, m1), (b2, m2)] ++ hdel (hdel H b1) b2) :=
  (hget_perm h1).trans (List.Perm.append_left [(b1, m1)] (hget_perm h2))
theorem perm3 {b1 b2 b3 : Nat} {m1 m2 m3 : MB} (h1 : hget H b1 = some m1) (h2 : hget (hdel H b1) b2 = some m2) (h3 : hget (hdel (hdel H b1) b2) b3 = some m3) : H.Perm ([(b1, m1), (b2, m2), (b3, m3)] ++ hdel (hdel (hdel H b1) b2) b3) :=
  (hget_perm h1).trans (List.Perm.append_left [(b1, m1)] (perm2 h2 h3))
theorem perm4 {b1 b2 b3 b4 : Nat} {m1 m2 m3 m4 : MB} (h1 : hget H b1 = some m1) (h2 : hget (hdel H b1) b2 = some m2) (h3 : hget (hdel (hdel H b1) b2) b3 = some m3) (h4 : hget (hdel (hdel (hdel H b1) b2) b3) b4 = some m4) :
    H.Perm ([(b1, m1), (b2, m2), (b3, m3), (b4, m4)] ++ hdel (hdel (hdel (hdel H b1) b2) b3) b4) :=
  (hget_perm h1).trans (List.Perm.append_left [(b1, m1)] (perm3 h2 h3 h4))
theorem DCt.updN {x : AV} (hP : H.Perm (F ++ R)) (h : ACt P f args F (fun r F' => r = x ∧ F' = F)) : DCt P f args H x :=
  ⟨F, R, _, hP, h, fun r F' hr _ => by obtain ⟨e1, e2⟩ := hr; subst e1 e2; exact ⟨rfl, hP.symm⟩⟩
theorem CallV.updN {x : AV} (hP : H.Perm (F ++ R)) (h : ACt P f args F (fun r F' => r = x ∧ F' = F0)) (hp : post x (F0 ++ R)) : CallV P f args H post :=
  ⟨F, R, _, hP, h, fun r F' hr _ => by obtain ⟨e1, e2⟩ := hr; subst e1 e2; exact hp⟩
theorem fresh_perm {b : Nat} {m : MB} (hP : H.Perm (F ++ R)) (hk : F0.map (·.1) = F.map (·.1)) (hn : ((((b, m) :: F0) ++ R).map (·.1)).Nodup) : fresh H b := by
  intro p hp
  have hp' := hP.mem_iff.1 hp
  simp only [List.cons_append, List.map_cons, List.nodup_cons, List.map_append, List.mem_append] at hn
  have hne : p.1 ≠ b := by
    rintro rfl
    rcases List.mem_append.1 hp' with h | h
    · exact hn.1 (.inl (by rw [hk]; exact List.mem_map_of_mem h))
    · exact hn.1 (.inr (List.mem_map_of_mem h))
  exact ⟨hne, Ne.symm hne⟩
theorem CallV.new2 {x : Nat → Nat → AV} {m1 m2 : Nat → Nat → MB} (hP : H.Perm (F ++ R)) (h : ACt P f args F (fun r F' => ∃ b c, r = x b c ∧ F' = (b, m1 b c) :: (c, m2 b c) :: F0)) (hk : F0.map (·.1) = F.map (·.1))
    (hp : Nu fun b => Nu fun c => Fr ((b ≠ c ∧ c ≠ b) ∧ fresh H b ∧ fresh H c) (post (x b c) ((b, m1 b c) :: (c, m2 b c) :: (F0 ++ R)))) : CallV P f args H post :=
  ⟨F, R, _, hP, h, fun r F' hr hn => by
    obtain ⟨b, c, e1, e2⟩ := hr
    subst e1 e2
    have hc : fresh H c := by
      refine fresh_perm (m := m2 b c) hP hk ?_
      simp only [List.cons_append, List.map_cons, List.nodup_cons] at hn ⊢
      exact hn.2
    have hb : fresh H b := by
      refine fresh_perm (m := m1 b c) hP hk ?_
      simp only [List.cons_append, List.map_cons, List.nodup_cons, List.mem_cons] at hn ⊢
      exact ⟨fun hm => hn.1 (.inr hm), hn.2.2⟩
    have hbc : b ≠ c := by
      rintro rfl
      simp only [List.cons_append, List.map_cons, List.nodup_cons, List.mem_cons] at hn
      exact hn.1 (by simp)
    exact ((hp.out b).out c).out ⟨⟨hbc, Ne.symm hbc⟩, hb, hc⟩⟩
theorem CallV.ex {Γ : Type} {x : Γ → AV} {m : Γ → Hp} (hP : H.Perm (F ++ R)) (h : ACt P f args F (fun r F' => ∃ g, r = x g ∧ F' = m g)) (hp : ∀ g, post (x g) (m g ++ R)) : CallV P f args H post :=
  ⟨F, R, _, hP, h, fun r F' hr _ => by obtain ⟨g, e1, e2⟩ := hr; subst e1 e2; exact hp g⟩
theorem ExF.up {K : AV → Prop} {x : AV} (hP : ∃ R, H.Perm (F ++ R)) (h : ACt P f args F (fun r F' => r = x ∧ F' = F)) (hk : K x) : ExF P f args H K := let ⟨_, hP⟩ := hP; ExF.on (DCt.updN hP h) hk
theorem ExG.up {c : Bool} {K : AV → Prop} {x : AV} (hP : ∃ R, H.Perm (F ++ R)) (h : c = true → ACt P f args F (fun r F' => r = x ∧ F' = F)) (hk : K x) : ExG c P f args H K := let ⟨_, hP⟩ := hP; ExG.on (fun hc => DCt.updN hP (h hc)) hk
theorem ExG.upJ {c : Bool} {K : AV → Prop} {x : AV} {q : Prop} (hP : ∃ R, H.Perm (F ++ R)) (h : c = true → ACt P f args F (fun r F' => r = x ∧ F' = F)) (hk : K x) : ExG c P f args H K ∨ q := .inl (ExG.up hP h hk)
theorem ExG.upI {c : Bool} {K : AV → Prop} {x : AV} {q ob : Prop} (hP : ∃ R, H.Perm (F ++ R)) (h : c = true → ACt P f args F (fun r F' => r = x ∧ F' = F)) (ho : ob) (hk : K x) : (ob ∧ ExG c P f args H K) ∨ q := .inl ⟨ho, ExG.up hP h hk⟩
theorem CallV.updM {f : FuncId} {args : List AV} {H F F0 R : Hp} {post : AV → Hp → Prop} {x : AV} (h : ACt P f args F (fun r F' => r = x ∧ F' = F0)) (hP : H.Perm (F ++ R)) (hp : post x (F0 ++ R)) : CallV P f args H post := CallV.updN hP h hp
theorem CallV.exM {f : FuncId} {args : List AV} {H F R : Hp} {post : AV → Hp → Prop} {Γ : Type} {x : Γ → AV} {m : Γ → Hp} (h : ACt P f args F (fun r F' => ∃ g, r = x g ∧ F' = m g)) (hP : H.Perm (F ++ R)) (hp : ∀ g, post (x g) (m g ++ R)) : CallV P f args H post := CallV.ex hP h hp
end
end Go.Proofs.Yteoajodoejoccaa
namespace Go.Proofs.Yteoajodoejoccaa
open Go
set_option linter.unusedSimpArgs false
set_option linter.unusedVariables false
section
variable {P : Program} {cx : Cx} {n : Nat} {ops : Array Oper}
def ECt (P : Program) (f : FuncId) (args : List AV) (E : Hp) (x : AV) (E' : Hp) : Prop :=
  ∃ F R F0, E.Perm (F ++ R) ∧ E' = F0 ++ R ∧ F0.map (·.1) = F.map (·.1) ∧ ACt P f args F (fun r F' => r = x ∧ F' = F0)
def calleeV (env : List (Nat × AV)) : Op → Option (Prop × FuncId × List AV)
  | .call c => match c.callee with
    | .value (.func f) => some ((ogs env c.args.toList).1, f, (ogs env c.args.toList).2)
    | _ => none
  | _ => none
def ExW (P : Program) (f : FuncId) (args : List AV) (E : Hp) (K : AV → Hp → Prop) (d : Hd K := .mk) : Prop := ∃ x E', ECt P f args E x E' ∧ K x E'
theorem ExW.mk {f : FuncId} {args : List AV} {E F R F0 : Hp} {K : AV → Hp → Prop} {x : AV} (hP : E.Perm (F ++ R)) (h : ACt P f args F (fun r F' => r = x ∧ F' = F0)) (hk : F0.map (·.1) = F.map (·.1)) (hK : K x (F0 ++ R)) : ExW P f args E K :=
  ⟨x, F0 ++ R, ⟨F, R, F0, hP, rfl, hk, h⟩, hK⟩
def xst (P : Program) (ops : Array Oper) (H : Hp) (o : Oper) (env : List (Nat × AV)) (K : AV → Prop) : Prop :=
  match o.guard with
  | none => match pev P H env o.op with
    | some r => r.1 ∧ K r.2
    | none => match calleeOf P env o.op with
      | some q => q.1 ∧ ExF P q.2.1 q.2.2 H fun x => K x
      | none => False
  | some (j, want) => match gdOf env ops j want with
    | some c => match pev P H env o.op with
      | some r => (c = true → r.1) ∧ K (.gd c r.2)
      | none => match calleeOf P env o.op with
        | some q => (c = true → q.1) ∧ ExG c P q.2.1 q.2.2 H fun x => K (.gd c x)
        | none => False
    | none => False
theorem xst_stdy {o : Oper} {env : List (Nat × AV)} {H : Hp} {K : AV → Prop} (hd : okd n o.dst) (h : xst P ops H o env K) : ∃ x, Stdy P cx n ops o env H x ∧ StdyE P cx n ops o env H x ∧ K x := by
  unfold xst at h
  split at h
  · rename_i hg
    split at h
    · rename_i r hr
      exact ⟨r.2, stdy_pev hd hg hr h.1, fun E hE => stdy_pev hd hg (pev_app hE hr h.1) h.1, h.2⟩
    · split at h
      · rename_i q hq
        obtain ⟨hob, x, h1, h2⟩ := h
        exact ⟨x, stdy_call hd hg (dcall_of (s := ⟨env, H⟩) hq hob h1), fun E hE => stdy_call hd hg (dcall_app (dcall_of (s := ⟨env, H⟩) hq hob h1)), h2⟩
      · exact h.elim
  · rename_i j want hg
    split at h
    · rename_i c hc
      split at h
      · rename_i r hr
        refine ⟨_, stdy_pevG hd hg hc hr h.1, fun E hE => ?_, h.2⟩
        by_cases hct : c = true
        · exact stdy_pevG hd hg hc (pev_app hE hr (h.1 hct)) h.1
        · refine ⟨hd, fun a w X R h1 h2 h3 h4 h5 => ?_⟩
          have ok := ok_renv h1 h2 h3 h4
          rw [wanted_of_gd ok hg (by rw [gdOf_renv hg]; exact hc)]
          rw [if_neg hct]
          have hcf : c = false := by cases c <;> simp_all
          subst hcf
          exact h5 undef w (.gdf _) h3 fun c hc => ⟨hc, rfl⟩
      · split at h
        · rename_i q hq
          obtain ⟨hob, x, h1, h2⟩ := h
          exact ⟨_, stdy_callG hd hg hc fun hct => dcall_of (s := ⟨env, H⟩) hq (hob hct) (h1 hct), fun E hE => stdy_callG hd hg hc fun hct => dcall_app (dcall_of (s := ⟨env, H⟩) hq (hob hct) (h1 hct)), h2⟩
        · exact h.elim
    · exact h.elim
def xvc (P : Program) (n : Nat) (ops : Array Oper) (ws ls : List Nat) (H0 : Hp) : Nat → List Oper → (List (Nat × AV) → Hp → Prop) → List (Nat × AV) → Hp → Prop
  | _, [], K, env, E => K env E
  | i, o :: rest, K, env, E => okd n o.dst ∧
    if i ∈ ws then o.guard = none ∧ match o.op with
      | .store T ad y => match (og env ad).2 with
        | .lit (.pointer (some ⟨b, off, none⟩)) => match hget E b with
          | some m => (og env ad).1 ∧ (og env y).1 ∧ (stC P T m off (og env y).2).1 ∧ xvc P n ops ws ls H0 (i + 1) rest K (putE env o.dst (.lit undef)) (hset E b (stC P T m off (og env y).2).2)
          | none => False
        | _ => False
      | _ => match calleeV env o.op with
        | some q => q.1 ∧ ExW P q.2.1 q.2.2 E fun x E' => xvc P n ops ws ls H0 (i + 1) rest K (putE env o.dst x) E'
        | none => False
    else xst P ops (if i ∈ ls then E ++ H0 else H0) o env fun x => xvc P n ops ws ls H0 (i + 1) rest K (putE env o.dst x) E
theorem SeqG.cons {C : Nat → Oper → AV → List (Nat × AV) → Prop} {o : Oper} {x : AV} {r : List (Oper × AV)} {env : List (Nat × AV)} (h0 : C 0 o x env) (h : SeqG (fun i => C (i + 1)) r (putE env o.dst x)) : SeqG C ((o, x) :: r) env := by
  have := SeqG.app (C := C) (A := [(o, x)]) (B := r) (env := env) (SeqG.one h0) (by
    simp only [envL, if_true, List.length_cons, List.length_nil]
    have e : (fun i => C (0 + 1 + i)) = fun i => C (i + 1) := by funext i; rw [show 0 + 1 + i = i + 1 by omega]
    rw [e]; exact h)
  exact this
/-! ### The order -/
theorem reach_of_ready {listed : Array Bool} (hc : Closed ops listed) {f i j : Nat} (hi : i ∈ Region.ready .any ops listed) (h : reach ops f i j = true) : listed.getD j false = true :=
  reach_listed hc f i j h fun oi' ho' m hw => ready_waits hi ho' hw
/-! ### Ahead of the parting, the parting, behind it -/
theorem head_to {k : Nat} {R : Exit → Act → World → Prop} {Inv : Array Bool → Act → World → Prop} (hle : k ≤ ops.size) (hback : ∀ (i : Nat) oi, ops[i]? = some oi → ∀ e ∈ oi.after, Region.binds .any e = true → e.on < i)
    (htail : ∀ listed a w, Inv listed a w → ∀ i, k ≤ i → i ∈ Region.ready .any ops listed → ∀ j, j < k → listed.getD j false = true)
    (hcl : ∀ listed a w, Inv listed a w → Closed ops listed) (hsz : ∀ listed a w, Inv listed a w → listed.size = ops.size)
    (hstep : ∀ listed a w i (X : Act → World → Prop), Inv listed a w → i ∈ Region.ready .any ops listed → i < k → (∀ a' w', Inv (listed.setIfInBounds i true) a' w' → X a' w') → wpOp P ops R i X a w) {g : Nat}
    (hfin : ∀ listed a w, Inv listed a w → (∀ j, j < k → listed.getD j false = true) → wpAny P .any ops R g listed a w) :
    ∀ (u : Nat) (listed : Array Bool) (a : Act) (w : World), ((List.range k).filter fun i => !listed.getD i false).length = u → Inv listed a w → wpAny P .any ops R (u + g) listed a w
  | 0, listed, a, w, hu, inv => by
    rw [Nat.zero_add]
    refine hfin listed a w inv fun j hj => ?_
    have := List.eq_nil_of_length_eq_zero hu
    rw [List.filter_eq_nil_iff] at this
    simpa using this j (List.mem_range.2 hj)
  | u + 1, listed, a, w, hu, inv => by
    have hls := hsz _ _ _ inv
    rw [show u + 1 + g = (u + g) + 1 by omega]
    obtain ⟨m, hm1, hm2⟩ : ∃ m, m < k ∧ listed.getD m false = false := by
      cases hf : ((List.range k).filter fun i => !listed.getD i false) with
      | nil => rw [hf] at hu; cases hu
      | cons m r =>
        have : m ∈ (List.range k).filter fun i => !listed.getD i false := by rw [hf]; exact List.mem_cons_self ..
        rw [List.mem_filter] at this
        exact ⟨m, List.mem_range.1 this.1, by simpa using this.2⟩
    obtain ⟨i0, h1, h2, h3⟩ := least (p := fun i => listed.getD i false) hm2
    have hi0 : i0 < ops.size := by omega
    have hready0 : i0 ∈ Region.ready .any ops listed := by
      refine mem_ready.2 ⟨by rw [getD_bool (by rw [hls]; exact hi0)]; exact h2, ops[i0], Array.getElem?_eq_getElem hi0, fun e he hb => h3 _ (hback i0 _ (Array.getElem?_eq_getElem hi0) e he hb)⟩
    refine ⟨fun h => (by rw [h] at hready0; cases hready0), fun i hi => ?_⟩
    obtain ⟨hun, oi, hoi, _⟩ := mem_ready.1 hi
    have hilt : i < ops.size := (Array.getElem?_eq_some_iff.1 hoi).1
    have hik : i < k := by
      rcases Nat.lt_or_ge i k with h | h
      · exact h
      · have := htail listed a w inv i h hi m hm1
        rw [hm2] at this
        cases this
    have hun' : listed.getD i false = false := by rw [← getD_bool (by rw [hls]; exact hilt)]; exact hun
    refine hstep listed a w i _ inv hi hik fun a' w' inv' => head_to hle hback htail hcl hsz hstep hfin u _ a' w' ?_ inv'
    have hcount : ∀ (l : List Nat), l.Nodup → i ∈ l → (l.filter fun j => !listed.getD j false).length = ((l.filter fun j => !(listed.setIfInBounds i true).getD j false).length) + 1 := by
      intro l
      induction l with
      | nil => intro _ h; cases h
      | cons c r ih =>
        intro hn hmem
        simp only [List.nodup_cons] at hn
        by_cases hci : c = i
        · subst hci
          have hset : (listed.setIfInBounds c true).getD c false = true := by
            have : c < listed.size := by rw [hls]; exact hilt
            simp [this]
          have hrest : (r.filter fun j => !listed.getD j false) = r.filter fun j => !(listed.setIfInBounds c true).getD j false := by
            refine List.filter_congr fun j hj => ?_
            have : j ≠ c := fun h => hn.1 (h ▸ hj)
            rw [getD_set_ne false (Ne.symm this)]
          rw [List.filter_cons, List.filter_cons, hun', hset, hrest]
          simp
        · have hmem' : i ∈ r := by rcases List.mem_cons.1 hmem with h | h; exact absurd h.symm hci; exact h
          have := ih hn.2 hmem'
          rw [List.filter_cons, List.filter_cons, getD_set_ne false (Ne.symm hci)]
          split
          · simp only [List.length_cons]; omega
          · exact this
    have := hcount (List.range k) List.nodup_range (List.mem_range.2 hik)
    omega
theorem Stdy.congr {o : Oper} {env env' : List (Nat × AV)} {H : Hp} {x : AV} (h : ∀ t, look env t = look env' t) (hS : Stdy P cx n ops o env H x) : Stdy P cx n ops o env' H x :=
  ⟨hS.1, fun a w X R h1 h2 h3 h4 h5 => hS.2 a w X R h1 h2 h3 (fun t ht => by rw [h t]; exact h4 t ht) h5⟩
theorem count_gt (c : Nat) : ∀ N, ((List.range N).filter fun i => !decide (i ≤ c)).length = N - (c + 1)
  | 0 => by simp
  | N + 1 => by
    rw [List.range_succ, List.filter_append, List.length_append, count_gt c N]
    by_cases h : N ≤ c
    · simp [h]; omega
    · simp [h]; omega
def splitH : List Nat → Hp → Option (Hp × Hp)
  | [], H => some ([], H)
  | b :: bs, H => match hget H b with
    | some m => match splitH bs (hdel H b) with
      | some q => some ((b, m) :: q.1, q.2)
      | none => none
    | none => none
theorem splitH_perm : ∀ {bs : List Nat} {H : Hp} {q : Hp × Hp}, splitH bs H = some q → H.Perm (q.1 ++ q.2)
  | [], H, q, h => by cases h; exact .refl _
  | b :: bs, H, q, h => by
    unfold splitH at h
    split at h
    · rename_i m hm
      split at h
      · rename_i q' hq'
        cases h
        exact (hget_perm hm).trans (List.Perm.cons _ (splitH_perm hq'))
      · cases h
    · cases h
def drawCF (P : Program) (n : Nat) (l : List Oper) (K : St → Prop) (c : Nat) (ws ls bs : List Nat) (s : St) : Prop :=
  match splitH bs s.H with
  | some q => xvc P n l.toArray ws ls q.2 0 (l.take c) (fun env E => match l.drop c with
    | o :: r => okd n o.dst ∧ o.guard = none ∧ eff P o (fun s' => dvc P n l.toArray r K s') ⟨env, E ++ q.2⟩
    | [] => False) s.env q.1
  | none => False
end
end Go.Proofs.Yteoajodoejoccaa
