/-
  The walks and the laws that the statement leans on, part 8.
-/
import Derived.Test.YtaffbklkjjmmdaaDoorProg
import Derived.Test.YtaffbklkjjmmdaaDoorC6
import Derived.Test.YtaffbklkjjmmdaaDoorC7
namespace Go.Proofs.YtaffbklkjjmmdaaDoor
open Go
theorem tyc0 : tyc Tryd.prog 0 = some none := by kernel_rfl
theorem tyc2 : tyc Tryd.prog 2 = some none := by kernel_rfl
theorem zmb2 : zmb Tryd.prog 2 = some (.cells [(.lit (.int .i64 0))] 1 2) := by kernel_rfl
theorem tyc3 : tyc Tryd.prog 3 = some none := by kernel_rfl
theorem zmb3 : zmb Tryd.prog 3 = some (.cells [(.lit (.int .i64 0))] 1 3) := by kernel_rfl
theorem tyc4 : tyc Tryd.prog 4 = some none := by kernel_rfl
theorem zmb4 : zmb Tryd.prog 4 = some (.cells [(.lit (.bool false))] 1 4) := by kernel_rfl
theorem tyc5 : tyc Tryd.prog 5 = some none := by kernel_rfl
theorem zmb5 : zmb Tryd.prog 5 = some (.cells [(.lit (.int .u8 0))] 1 5) := by kernel_rfl
theorem tyc9 : tyc Tryd.prog 9 = some none := by kernel_rfl
theorem zmb9 : zmb Tryd.prog 9 = some (.cells [(.lit (.string ⟨#[]⟩))] 1 9) := by kernel_rfl
theorem tyc12 : tyc Tryd.prog 12 = some none := by kernel_rfl
theorem zmb12 : zmb Tryd.prog 12 = some (.cells [(.lit (.int .u64 0))] 1 12) := by kernel_rfl
theorem tyc21 : tyc Tryd.prog 21 = some none := by kernel_rfl
theorem zmb21 : zmb Tryd.prog 21 = some (.cells [(.lit (.int .i32 0))] 1 21) := by kernel_rfl
theorem tyc22 : tyc Tryd.prog 22 = some none := by kernel_rfl
theorem elt22 : elt Tryd.prog 22 = some (none, 5) := by kernel_rfl
theorem mkz22 : mkz Tryd.prog 22 = none := by kernel_rfl
theorem mkc22 : mkc Tryd.prog 22 = some (32, 5, 56, [(.lit (.string ⟨#[]⟩)), (.lit (.string ⟨#[]⟩)), (.lit (.int .i64 0)), (.lit (.int .i64 0)), (.lit (.int .i64 0))]) := by kernel_rfl
theorem apT22 : apT Tryd.prog 22 = some (32, 5, 56) := by kernel_rfl
theorem elk22 : elk Tryd.prog 22 = none := by kernel_rfl
theorem zmb22 : zmb Tryd.prog 22 = some (.cells [(.lit (.slice none 0 0))] 1 22) := by kernel_rfl
theorem tyc23 : tyc Tryd.prog 23 = some none := by kernel_rfl
theorem zmb23 : zmb Tryd.prog 23 = some (.cells [(.lit (.int .u64 0))] 1 23) := by kernel_rfl
theorem tyc25 : tyc Tryd.prog 25 = some (some 5) := by kernel_rfl
theorem foff25_0 : foff Tryd.prog 25 0 = some 0 := by kernel_rfl
theorem fpart25_0 : fpart Tryd.prog 25 0 = some (0, none) := by kernel_rfl
theorem foff25_1 : foff Tryd.prog 25 1 = some 1 := by kernel_rfl
theorem fpart25_1 : fpart Tryd.prog 25 1 = some (1, none) := by kernel_rfl
theorem foff25_2 : foff Tryd.prog 25 2 = some 2 := by kernel_rfl
theorem fpart25_2 : fpart Tryd.prog 25 2 = some (2, none) := by kernel_rfl
theorem foff25_3 : foff Tryd.prog 25 3 = some 3 := by kernel_rfl
theorem fpart25_3 : fpart Tryd.prog 25 3 = some (3, none) := by kernel_rfl
theorem foff25_4 : foff Tryd.prog 25 4 = some 4 := by kernel_rfl
theorem fpart25_4 : fpart Tryd.prog 25 4 = some (4, none) := by kernel_rfl
theorem fe25 : flatEq Tryd.prog 25 [3, 3, 2, 1, 2] := flatEq_of (by kernel_rfl)
theorem zmb25 : zmb Tryd.prog 25 = some (.cells [(.lit (.string ⟨#[]⟩)), (.lit (.string ⟨#[]⟩)), (.lit (.bool false)), (.lit (.int .u64 0)), (.lit (.bool false))] 5 25) := by kernel_rfl
theorem bldT25 : bldT Tryd.prog 25 = some ([(.string ⟨#[]⟩), (.string ⟨#[]⟩), (.bool false), (.int .u64 0), (.bool false)], [(0, 1), (1, 1), (2, 1), (3, 1), (4, 1)]) := by kernel_rfl
theorem tyc26 : tyc Tryd.prog 26 = some none := by kernel_rfl
theorem zmb26 : zmb Tryd.prog 26 = some (.cells [(.lit (.int .u32 0))] 1 26) := by kernel_rfl
theorem tyc30 : tyc Tryd.prog 30 = some none := by kernel_rfl
theorem zmb30 : zmb Tryd.prog 30 = some (.cells [(.lit .nilFunc)] 1 30) := by kernel_rfl
theorem tyc32 : tyc Tryd.prog 32 = some (some 5) := by kernel_rfl
theorem foff32_0 : foff Tryd.prog 32 0 = some 0 := by kernel_rfl
theorem fpart32_0 : fpart Tryd.prog 32 0 = some (0, none) := by kernel_rfl
theorem foff32_1 : foff Tryd.prog 32 1 = some 1 := by kernel_rfl
theorem fpart32_1 : fpart Tryd.prog 32 1 = some (1, none) := by kernel_rfl
theorem foff32_2 : foff Tryd.prog 32 2 = some 2 := by kernel_rfl
theorem fpart32_2 : fpart Tryd.prog 32 2 = some (2, none) := by kernel_rfl
theorem foff32_3 : foff Tryd.prog 32 3 = some 3 := by kernel_rfl
theorem fpart32_3 : fpart Tryd.prog 32 3 = some (3, none) := by kernel_rfl
theorem foff32_4 : foff Tryd.prog 32 4 = some 4 := by kernel_rfl
theorem fpart32_4 : fpart Tryd.prog 32 4 = some (4, none) := by kernel_rfl
theorem fe32 : flatEq Tryd.prog 32 [3, 3, 1, 1, 1] := flatEq_of (by kernel_rfl)
theorem zmb32 : zmb Tryd.prog 32 = some (.cells [(.lit (.string ⟨#[]⟩)), (.lit (.string ⟨#[]⟩)), (.lit (.int .i64 0)), (.lit (.int .i64 0)), (.lit (.int .i64 0))] 5 32) := by kernel_rfl
theorem bldT32 : bldT Tryd.prog 32 = some ([(.string ⟨#[]⟩), (.string ⟨#[]⟩), (.int .i64 0), (.int .i64 0), (.int .i64 0)], [(0, 1), (1, 1), (2, 1), (3, 1), (4, 1)]) := by kernel_rfl
theorem tyc62 : tyc Tryd.prog 62 = some none := by kernel_rfl
theorem zmb62 : zmb Tryd.prog 62 = some (.cells [(.lit .nilFunc)] 1 62) := by kernel_rfl
theorem tyc87 : tyc Tryd.prog 87 = some none := by kernel_rfl
theorem elt87 : elt Tryd.prog 87 = some (none, 1) := by kernel_rfl
theorem mkz87 : mkz Tryd.prog 87 = some (21, 4, .i32) := by kernel_rfl
theorem apT87 : apT Tryd.prog 87 = some (21, 1, 4) := by kernel_rfl
theorem elk87 : elk Tryd.prog 87 = (some .i32) := by kernel_rfl
theorem zmb87 : zmb Tryd.prog 87 = some (.cells [(.lit (.slice none 0 0))] 1 87) := by kernel_rfl
theorem tyc89 : tyc Tryd.prog 89 = some none := by kernel_rfl
theorem elt89 : elt Tryd.prog 89 = some (none, 1) := by kernel_rfl
theorem mkz89 : mkz Tryd.prog 89 = none := by kernel_rfl
theorem mkc89 : mkc Tryd.prog 89 = some (4, 1, 1, [(.lit (.bool false))]) := by kernel_rfl
theorem apT89 : apT Tryd.prog 89 = some (4, 1, 1) := by kernel_rfl
theorem elk89 : elk Tryd.prog 89 = none := by kernel_rfl
theorem zmb89 : zmb Tryd.prog 89 = some (.cells [(.lit (.slice none 0 0))] 1 89) := by kernel_rfl
theorem tyc92 : tyc Tryd.prog 92 = some none := by kernel_rfl
theorem zmb92 : zmb Tryd.prog 92 = some (.cells [(.lit (.int .u64 0))] 1 92) := by kernel_rfl
theorem tyc104 : tyc Tryd.prog 104 = some none := by kernel_rfl
theorem zmb104 : zmb Tryd.prog 104 = some (.cells [(.lit (.int .i64 0))] 1 104) := by kernel_rfl
theorem tyc105 : tyc Tryd.prog 105 = some none := by kernel_rfl
theorem tyc109 : tyc Tryd.prog 109 = some none := by kernel_rfl
theorem elt114 : elt Tryd.prog 114 = some ((some 256), 1) := by kernel_rfl
theorem arr1114 : arr1 Tryd.prog 114 = some 256 := by kernel_rfl
theorem tyc116 : tyc Tryd.prog 116 = some (some 2) := by kernel_rfl
theorem foff116_0 : foff Tryd.prog 116 0 = some 0 := by kernel_rfl
theorem fpart116_0 : fpart Tryd.prog 116 0 = some (0, none) := by kernel_rfl
theorem foff116_1 : foff Tryd.prog 116 1 = some 1 := by kernel_rfl
theorem fpart116_1 : fpart Tryd.prog 116 1 = some (1, none) := by kernel_rfl
theorem fe116 : flatEq Tryd.prog 116 [1, 1] := flatEq_of (by kernel_rfl)
theorem zmb116 : zmb Tryd.prog 116 = some (.cells [(.lit (.int .u8 0)), (.lit (.int .u8 0))] 2 116) := by kernel_rfl
theorem bldT116 : bldT Tryd.prog 116 = some ([(.int .u8 0), (.int .u8 0)], [(0, 1), (1, 1)]) := by kernel_rfl
theorem tyc117 : tyc Tryd.prog 117 = some (some 32) := by kernel_rfl
theorem elt117 : elt Tryd.prog 117 = some ((some 16), 2) := by kernel_rfl
theorem zmb117 : zmb Tryd.prog 117 = some (.cells [(.lit (.int .u8 0)), (.lit (.int .u8 0)), (.lit (.int .u8 0)), (.lit (.int .u8 0)), (.lit (.int .u8 0)), (.lit (.int .u8 0)), (.lit (.int .u8 0)), (.lit (.int .u8 0)), (.lit (.int .u8 0)), (.lit (.int .u8 0)), (.lit (.int .u8 0)), (.lit (.int .u8 0)), (.lit (.int .u8 0)), (.lit (.int .u8 0)), (.lit (.int .u8 0)), (.lit (.int .u8 0)), (.lit (.int .u8 0)), (.lit (.int .u8 0)), (.lit (.int .u8 0)), (.lit (.int .u8 0)), (.lit (.int .u8 0)), (.lit (.int .u8 0)), (.lit (.int .u8 0)), (.lit (.int .u8 0)), (.lit (.int .u8 0)), (.lit (.int .u8 0)), (.lit (.int .u8 0)), (.lit (.int .u8 0)), (.lit (.int .u8 0)), (.lit (.int .u8 0)), (.lit (.int .u8 0)), (.lit (.int .u8 0))] 32 117) := by kernel_rfl
theorem bldT117 : bldT Tryd.prog 117 = some ([(.int .u8 0), (.int .u8 0), (.int .u8 0), (.int .u8 0), (.int .u8 0), (.int .u8 0), (.int .u8 0), (.int .u8 0), (.int .u8 0), (.int .u8 0), (.int .u8 0), (.int .u8 0), (.int .u8 0), (.int .u8 0), (.int .u8 0), (.int .u8 0), (.int .u8 0), (.int .u8 0), (.int .u8 0), (.int .u8 0), (.int .u8 0), (.int .u8 0), (.int .u8 0), (.int .u8 0), (.int .u8 0), (.int .u8 0), (.int .u8 0), (.int .u8 0), (.int .u8 0), (.int .u8 0), (.int .u8 0), (.int .u8 0)], [(0, 2), (2, 2), (4, 2), (6, 2), (8, 2), (10, 2), (12, 2), (14, 2), (16, 2), (18, 2), (20, 2), (22, 2), (24, 2), (26, 2), (28, 2), (30, 2)]) := by kernel_rfl
theorem elt120 : elt Tryd.prog 120 = some ((some 256), 1) := by kernel_rfl
theorem arr1120 : arr1 Tryd.prog 120 = some 256 := by kernel_rfl
theorem tyc121 : tyc Tryd.prog 121 = some none := by kernel_rfl
theorem tyc124 : tyc Tryd.prog 124 = some none := by kernel_rfl
theorem zmb124 : zmb Tryd.prog 124 = some (.cells [(.lit (.pointer none))] 1 124) := by kernel_rfl
theorem tyc125 : tyc Tryd.prog 125 = some none := by kernel_rfl
theorem zmb125 : zmb Tryd.prog 125 = some (.cells [(.lit (.int .u64 0))] 1 125) := by kernel_rfl
theorem tyc128 : tyc Tryd.prog 128 = some none := by kernel_rfl
theorem zmb128 : zmb Tryd.prog 128 = some (.cells [(.lit (.pointer none))] 1 128) := by kernel_rfl
theorem tyc134 : tyc Tryd.prog 134 = some none := by kernel_rfl
theorem zmb134 : zmb Tryd.prog 134 = some (.cells [(.lit (.pointer none))] 1 134) := by kernel_rfl
theorem tyc135 : tyc Tryd.prog 135 = some none := by kernel_rfl
theorem mixed : Tryd.prog.follows .mixedOrders = true := by kernel_rfl
end Go.Proofs.YtaffbklkjjmmdaaDoor
namespace Go.Proofs.YtaffbklkjjmmdaaDoor
open Go
set_option linter.unusedVariables false
set_option linter.unusedSimpArgs false
section
variable {P : Program} {cx : Cx} {n : Nat} {ops : Array Oper} {H : Hp}
theorem Ok.permH {env : List (Nat × AV)} {H H' : Hp} {a : Act} {w : World} (hp : H.Perm H') (ok : Ok cx n ⟨env, H⟩ a w) : Ok cx n ⟨env, H'⟩ a w :=
  ⟨ok.defers, ok.size, fun t => (ok.reps t).mono fun b hb => ⟨(imm_perm hp).1 hb, rfl⟩, ok.world.perm hp⟩
def alF (P : Program) (n : Nat) (K : St → Prop) : List Oper → St → Prop
  | [], s => K s
  | o :: r, s => match o with
    | ⟨some t, .alloc T, _, _, _, none⟩ => match zmb P T with
      | some m => t < n ∧ newB s.H m fun b H => alF P n K r ⟨(t, pt b 0) :: s.env, H⟩
      | none => False
    | _ => False
def drawAF (P : Program) (n : Nat) (l : List Oper) (K : St → Prop) (p r : Nat) (s : St) : Prop :=
  dvc P n l.toArray (l.take p) (fun s1 => alF P n (fun s2 => rvc P n l.toArray (l.drop (p + r)) K s2) ((l.drop p).take r) s1) s
end
end Go.Proofs.YtaffbklkjjmmdaaDoor
namespace Go.Proofs.YtaffbklkjjmmdaaDoor
open Go
set_option linter.unusedSimpArgs false
set_option linter.unusedVariables false
section
variable {P : Program} {cx : Cx} {n : Nat} {ops : Array Oper} {H : Hp}
structure QB where
  is : Nat
  b : Nat
  off : Nat
  m0 : MB
  m1 : MB
structure DInvS (cx : Cx) (n : Nat) (ops : Array Oper) (lx : List (Oper × AV)) (env : List (Nat × AV)) (H : Hp) (q : QB) (listed : Array Bool) (a : Act) (w : World) : Prop where
  lsize : listed.size = ops.size
  inv : DInv cx n ops lx env ((q.b, if listed.getD q.is false then q.m1 else q.m0) :: H) listed a w
def drawSF (P : Program) (n : Nat) (l : List Oper) (K : St → Prop) (is k : Nat) (s : St) : Prop :=
  match l.drop is with
  | ⟨none, .store T a y, _, _, _, none⟩ :: q => match (og s.env a).2 with
    | .lit (.pointer (some ⟨b, off, none⟩)) => match hget s.H b with
      | some m0 => dvc P n l.toArray (l.take is) (fun s2 => (og s2.env a).1 ∧ (og s2.env a).2 = pt b off ∧ (og s2.env y).1 ∧ (stC P T m0 off (og s2.env y).2).1 ∧
          dvc P n l.toArray (q.take (k - is - 1)) (fun s3 => rvc P n l.toArray (q.drop (k - is - 1)) K ⟨s3.env, (b, (stC P T m0 off (og s2.env y).2).2) :: s3.H⟩) s2) ⟨s.env, hdel s.H b⟩
      | none => False
    | _ => False
  | _ => False
end
end Go.Proofs.YtaffbklkjjmmdaaDoor
namespace Go.Proofs.YtaffbklkjjmmdaaDoor
open Go
set_option linter.unusedSimpArgs false
set_option linter.unusedVariables false
section
variable {P : Program} {f : FuncId} {args : List AV} {H F F0 R : Hp} {post : AV → Hp → Prop}
theorem perm1 {b : Nat} {m : MB} (h : hget H b = some m) : H.Perm ([(b, m)] ++ hdel H b) := hget_perm h
theorem perm2 {b1 b2 : Nat} {m1 m2 : MB} (h1 : hget H b1 = some m1) (h2 : hget (hdel H b1) b2 = some m2) : H.Perm ([(b1, m1), (b2, m2)] ++ hdel (hdel H b1) b2) :=
  (hget_perm h1).trans (List.Perm.append_left [(b1, m1)] (hget_perm h2))
theorem perm3 {b1 b2 b3 : Nat} {m1 m2 m3 : MB} (h1 : hget H b1 = some m1) (h2 : hget (hdel H b1) b2 = some m2) (h3 : hget (hdel (hdel H b1) b2) b3 = some m3) : H.Perm ([(b1, m1), (b2, m2), (b3, m3)] ++ hdel (hdel (hdel H b1) b2) b3) :=
  (hget_perm h1).trans (List.Perm.append_left [(b1, m1)] (perm2 h2 h3))
theorem perm4 {b1 b2 b3 b4 : Nat} {m1 m2 m3 m4 : MB} (h1 : hget H b1 = some m1) (h2 : hget (hdel H b1) b2 = some m2) (h3 : hget (hdel (hdel H b1) b2) b3 = some m3) (h4 : hget (hdel (hdel (hdel H b1) b2) b3) b4 = some m4) :
    H.Perm ([(b1, m1), (b2, m2), (b3, m3), (b4, m4)] ++ hdel (hdel (hdel (hdel H b1) b2) b3) b4) :=
  (hget_perm h1).trans (List.Perm.append_left [(b1, m1)] (perm3 h2 h3 h4))
theorem DCt.updN {x : AV} (hP : H.Perm (F ++ R)) (h : ACt P f args F (fun r F' => r = x ∧ F' = F)) : DCt P f args H x :=
  ⟨F, R, _, hP, h, fun r F' hr _ => by obtain ⟨e1, e2⟩ := hr; subst e1 e2; exact ⟨rfl, hP.symm⟩⟩
theorem CallV.updN {x : AV} (hP : H.Perm (F ++ R)) (h : ACt P f args F (fun r F' => r = x ∧ F' = F0)) (hp : post x (F0 ++ R)) : CallV P f args H post :=
  ⟨F, R, _, hP, h, fun r F' hr _ => by obtain ⟨e1, e2⟩ := hr; subst e1 e2; exact hp⟩
theorem CallV.ex {Γ : Type} {x : Γ → AV} {m : Γ → Hp} (hP : H.Perm (F ++ R)) (h : ACt P f args F (fun r F' => ∃ g, r = x g ∧ F' = m g)) (hp : ∀ g, post (x g) (m g ++ R)) : CallV P f args H post :=
  ⟨F, R, _, hP, h, fun r F' hr _ => by obtain ⟨g, e1, e2⟩ := hr; subst e1 e2; exact hp g⟩
theorem ExF.up {K : AV → Prop} {x : AV} (hP : ∃ R, H.Perm (F ++ R)) (h : ACt P f args F (fun r F' => r = x ∧ F' = F)) (hk : K x) : ExF P f args H K := let ⟨_, hP⟩ := hP; ExF.on (DCt.updN hP h) hk
theorem ExG.up {c : Bool} {K : AV → Prop} {x : AV} (hP : ∃ R, H.Perm (F ++ R)) (h : c = true → ACt P f args F (fun r F' => r = x ∧ F' = F)) (hk : K x) : ExG c P f args H K := let ⟨_, hP⟩ := hP; ExG.on (fun hc => DCt.updN hP (h hc)) hk
theorem ExG.upJ {c : Bool} {K : AV → Prop} {x : AV} {q : Prop} (hP : ∃ R, H.Perm (F ++ R)) (h : c = true → ACt P f args F (fun r F' => r = x ∧ F' = F)) (hk : K x) : ExG c P f args H K ∨ q := .inl (ExG.up hP h hk)
theorem ExG.upI {c : Bool} {K : AV → Prop} {x : AV} {q ob : Prop} (hP : ∃ R, H.Perm (F ++ R)) (h : c = true → ACt P f args F (fun r F' => r = x ∧ F' = F)) (ho : ob) (hk : K x) : (ob ∧ ExG c P f args H K) ∨ q := .inl ⟨ho, ExG.up hP h hk⟩
theorem CallV.updM {f : FuncId} {args : List AV} {H F F0 R : Hp} {post : AV → Hp → Prop} {x : AV} (h : ACt P f args F (fun r F' => r = x ∧ F' = F0)) (hP : H.Perm (F ++ R)) (hp : post x (F0 ++ R)) : CallV P f args H post := CallV.updN hP h hp
end
end Go.Proofs.YtaffbklkjjmmdaaDoor
namespace Go.Proofs.YtaffbklkjjmmdaaDoor
open Go
set_option linter.unusedSimpArgs false
set_option linter.unusedVariables false
section
variable {P : Program} {cx : Cx} {n : Nat} {ops : Array Oper}
def ECt (P : Program) (f : FuncId) (args : List AV) (E : Hp) (x : AV) (E' : Hp) : Prop :=
  ∃ F R F0, E.Perm (F ++ R) ∧ E' = F0 ++ R ∧ F0.map (·.1) = F.map (·.1) ∧ ACt P f args F (fun r F' => r = x ∧ F' = F0)
def calleeV (env : List (Nat × AV)) : Op → Option (Prop × FuncId × List AV)
  | .call c => match c.callee with
    | .value (.func f) => some ((ogs env c.args.toList).1, f, (ogs env c.args.toList).2)
    | _ => none
  | _ => none
def ExW (P : Program) (f : FuncId) (args : List AV) (E : Hp) (K : AV → Hp → Prop) (d : Hd K := .mk) : Prop := ∃ x E', ECt P f args E x E' ∧ K x E'
theorem ExW.mk {f : FuncId} {args : List AV} {E F R F0 : Hp} {K : AV → Hp → Prop} {x : AV} (hP : E.Perm (F ++ R)) (h : ACt P f args F (fun r F' => r = x ∧ F' = F0)) (hk : F0.map (·.1) = F.map (·.1)) (hK : K x (F0 ++ R)) : ExW P f args E K :=
  ⟨x, F0 ++ R, ⟨F, R, F0, hP, rfl, hk, h⟩, hK⟩
def xst (P : Program) (ops : Array Oper) (H : Hp) (o : Oper) (env : List (Nat × AV)) (K : AV → Prop) : Prop :=
  match o.guard with
  | none => match pev P H env o.op with
    | some r => r.1 ∧ K r.2
    | none => match calleeOf P env o.op with
      | some q => q.1 ∧ ExF P q.2.1 q.2.2 H fun x => K x
      | none => False
  | some (j, want) => match gdOf env ops j want with
    | some c => match pev P H env o.op with
      | some r => (c = true → r.1) ∧ K (.gd c r.2)
      | none => match calleeOf P env o.op with
        | some q => (c = true → q.1) ∧ ExG c P q.2.1 q.2.2 H fun x => K (.gd c x)
        | none => False
    | none => False
theorem xst_stdy {o : Oper} {env : List (Nat × AV)} {H : Hp} {K : AV → Prop} (hd : okd n o.dst) (h : xst P ops H o env K) : ∃ x, Stdy P cx n ops o env H x ∧ StdyE P cx n ops o env H x ∧ K x := by
  unfold xst at h
  split at h
  · rename_i hg
    split at h
    · rename_i r hr
      exact ⟨r.2, stdy_pev hd hg hr h.1, fun E hE => stdy_pev hd hg (pev_app hE hr h.1) h.1, h.2⟩
    · split at h
      · rename_i q hq
        obtain ⟨hob, x, h1, h2⟩ := h
        exact ⟨x, stdy_call hd hg (dcall_of (s := ⟨env, H⟩) hq hob h1), fun E hE => stdy_call hd hg (dcall_app (dcall_of (s := ⟨env, H⟩) hq hob h1)), h2⟩
      · exact h.elim
  · rename_i j want hg
    split at h
    · rename_i c hc
      split at h
      · rename_i r hr
        refine ⟨_, stdy_pevG hd hg hc hr h.1, fun E hE => ?_, h.2⟩
        by_cases hct : c = true
        · exact stdy_pevG hd hg hc (pev_app hE hr (h.1 hct)) h.1
        · refine ⟨hd, fun a w X R h1 h2 h3 h4 h5 => ?_⟩
          have ok := ok_renv h1 h2 h3 h4
          rw [wanted_of_gd ok hg (by rw [gdOf_renv hg]; exact hc)]
          rw [if_neg hct]
          have hcf : c = false := by cases c <;> simp_all
          subst hcf
          exact h5 undef w (.gdf _) h3 fun c hc => ⟨hc, rfl⟩
      · split at h
        · rename_i q hq
          obtain ⟨hob, x, h1, h2⟩ := h
          exact ⟨_, stdy_callG hd hg hc fun hct => dcall_of (s := ⟨env, H⟩) hq (hob hct) (h1 hct), fun E hE => stdy_callG hd hg hc fun hct => dcall_app (dcall_of (s := ⟨env, H⟩) hq (hob hct) (h1 hct)), h2⟩
        · exact h.elim
    · exact h.elim
def xvc (P : Program) (n : Nat) (ops : Array Oper) (ws ls : List Nat) (H0 : Hp) : Nat → List Oper → (List (Nat × AV) → Hp → Prop) → List (Nat × AV) → Hp → Prop
  | _, [], K, env, E => K env E
  | i, o :: rest, K, env, E => okd n o.dst ∧
    if i ∈ ws then o.guard = none ∧ match o.op with
      | .store T ad y => match (og env ad).2 with
        | .lit (.pointer (some ⟨b, off, none⟩)) => match hget E b with
          | some m => (og env ad).1 ∧ (og env y).1 ∧ (stC P T m off (og env y).2).1 ∧ xvc P n ops ws ls H0 (i + 1) rest K (putE env o.dst (.lit undef)) (hset E b (stC P T m off (og env y).2).2)
          | none => False
        | _ => False
      | _ => match calleeV env o.op with
        | some q => q.1 ∧ ExW P q.2.1 q.2.2 E fun x E' => xvc P n ops ws ls H0 (i + 1) rest K (putE env o.dst x) E'
        | none => False
    else xst P ops (if i ∈ ls then E ++ H0 else H0) o env fun x => xvc P n ops ws ls H0 (i + 1) rest K (putE env o.dst x) E
theorem SeqG.cons {C : Nat → Oper → AV → List (Nat × AV) → Prop} {o : Oper} {x : AV} {r : List (Oper × AV)} {env : List (Nat × AV)} (h0 : C 0 o x env) (h : SeqG (fun i => C (i + 1)) r (putE env o.dst x)) : SeqG C ((o, x) :: r) env := by
  have := SeqG.app (C := C) (A := [(o, x)]) (B := r) (env := env) (SeqG.one h0) (by
    simp only [envL, if_true, List.length_cons, List.length_nil]
    have e : (fun i => C (0 + 1 + i)) = fun i => C (i + 1) := by funext i; rw [show 0 + 1 + i = i + 1 by omega]
    rw [e]; exact h)
  exact this
/-! ### The order -/
/-! ### Ahead of the parting, the parting, behind it -/
theorem Stdy.congr {o : Oper} {env env' : List (Nat × AV)} {H : Hp} {x : AV} (h : ∀ t, look env t = look env' t) (hS : Stdy P cx n ops o env H x) : Stdy P cx n ops o env' H x :=
  ⟨hS.1, fun a w X R h1 h2 h3 h4 h5 => hS.2 a w X R h1 h2 h3 (fun t ht => by rw [h t]; exact h4 t ht) h5⟩
def splitH : List Nat → Hp → Option (Hp × Hp)
  | [], H => some ([], H)
  | b :: bs, H => match hget H b with
    | some m => match splitH bs (hdel H b) with
      | some q => some ((b, m) :: q.1, q.2)
      | none => none
    | none => none
def drawCF (P : Program) (n : Nat) (l : List Oper) (K : St → Prop) (c : Nat) (ws ls bs : List Nat) (s : St) : Prop :=
  match splitH bs s.H with
  | some q => xvc P n l.toArray ws ls q.2 0 (l.take c) (fun env E => match l.drop c with
    | o :: r => okd n o.dst ∧ o.guard = none ∧ eff P o (fun s' => dvc P n l.toArray r K s') ⟨env, E ++ q.2⟩
    | [] => False) s.env q.1
  | none => False
end
end Go.Proofs.YtaffbklkjjmmdaaDoor
namespace Go.Proofs.YtaffbklkjjmmdaaDoor
open Go
set_option linter.unusedSimpArgs false
set_option linter.unusedVariables false
section
variable {P : Program} {cx : Cx} {n : Nat} {ops : Array Oper} {H : Hp}
def mkS (P : Program) (env : List (Nat × AV)) : Op → Option (Prop × MB × Nat)
  | .buildSlice T len parts => match apT P T with
    | some (e, sz, _) => match fillA (plN sz len 0) (List.replicate (len * sz) .any) (ogp env parts.toList).2 with
      | some cs => some ((ogp env parts.toList).1 ∧ len * sz ≤ 16777216, rowMB (elk P T) cs (len * sz) e, len)
      | none => none
    | none => none
  | _ => none
def drawMF (P : Program) (n : Nat) (l : List Oper) (K : St → Prop) (ia k : Nat) (s : St) : Prop :=
  match l with
  | ⟨some d, .move (.tmp x), _, _, _, none⟩ :: l1 => d < n ∧ dvc P n l.toArray (l1.take (ia - 1)) (fun s1 => match l1.drop (ia - 1) with
    | ⟨some t, op, _, _, _, none⟩ :: r => match mkS P s1.env op with
      | some q => t < n ∧ q.1 ∧ dvc P n l.toArray (r.take (k - ia - 1)) (fun s3 => newB s3.H q.2.1 fun b H => rvc P n l.toArray (r.drop (k - ia - 1)) K ⟨(t, ms b 0 q.2.2 q.2.2) :: s3.env, H⟩) ⟨(t, .any) :: s1.env, s1.H⟩
      | none => False
    | _ => False) ⟨(d, look s.env x) :: s.env, s.H⟩
  | _ => False
end
end Go.Proofs.YtaffbklkjjmmdaaDoor
