/-
  The walks and the laws that the statement leans on, part 10.
-/
import Derived.Test.YtdkkfgcdnojmaaaDoorProg
import Derived.Test.YtdkkfgcdnojmaaaDoorS7
import Derived.Test.YtdkkfgcdnojmaaaDoorS9
namespace Go.Proofs.YtdkkfgcdnojmaaaDoor
open Go
theorem tyc0 : tyc Tryd.prog 0 = some none := by kernel_rfl
theorem tyc1 : tyc Tryd.prog 1 = some none := by kernel_rfl
theorem zmb1 : zmb Tryd.prog 1 = some (.cells [(.lit .nilFunc)] 1 1) := by kernel_rfl
theorem tyc3 : tyc Tryd.prog 3 = some none := by kernel_rfl
theorem zmb3 : zmb Tryd.prog 3 = some (.cells [(.lit (.int .i64 0))] 1 3) := by kernel_rfl
theorem tyc4 : tyc Tryd.prog 4 = some none := by kernel_rfl
theorem zmb4 : zmb Tryd.prog 4 = some (.cells [(.lit (.bool false))] 1 4) := by kernel_rfl
theorem tyc5 : tyc Tryd.prog 5 = some none := by kernel_rfl
theorem zmb5 : zmb Tryd.prog 5 = some (.cells [(.lit (.int .u8 0))] 1 5) := by kernel_rfl
theorem tyc9 : tyc Tryd.prog 9 = some none := by kernel_rfl
theorem zmb9 : zmb Tryd.prog 9 = some (.cells [(.lit (.string ⟨#[]⟩))] 1 9) := by kernel_rfl
theorem tyc12 : tyc Tryd.prog 12 = some none := by kernel_rfl
theorem zmb12 : zmb Tryd.prog 12 = some (.cells [(.lit (.int .u64 0))] 1 12) := by kernel_rfl
theorem tyc21 : tyc Tryd.prog 21 = some none := by kernel_rfl
theorem zmb21 : zmb Tryd.prog 21 = some (.cells [(.lit (.int .i32 0))] 1 21) := by kernel_rfl
theorem tyc25 : tyc Tryd.prog 25 = some none := by kernel_rfl
theorem elt25 : elt Tryd.prog 25 = some (none, 1) := by kernel_rfl
theorem mkz25 : mkz Tryd.prog 25 = some (21, 4, .i32) := by kernel_rfl
theorem apT25 : apT Tryd.prog 25 = some (21, 1, 4) := by kernel_rfl
theorem elk25 : elk Tryd.prog 25 = (some .i32) := by kernel_rfl
theorem zmb25 : zmb Tryd.prog 25 = some (.cells [(.lit (.slice none 0 0))] 1 25) := by kernel_rfl
theorem tyc33 : tyc Tryd.prog 33 = some none := by kernel_rfl
theorem zmb33 : zmb Tryd.prog 33 = some (.cells [(.lit .nilFunc)] 1 33) := by kernel_rfl
theorem tyc34 : tyc Tryd.prog 34 = some none := by kernel_rfl
theorem zmb34 : zmb Tryd.prog 34 = some (.cells [(.lit (.pointer none))] 1 34) := by kernel_rfl
theorem tyc35 : tyc Tryd.prog 35 = some none := by kernel_rfl
theorem elt35 : elt Tryd.prog 35 = some (none, 1) := by kernel_rfl
theorem mkz35 : mkz Tryd.prog 35 = some (5, 1, .u8) := by kernel_rfl
theorem apT35 : apT Tryd.prog 35 = some (5, 1, 1) := by kernel_rfl
theorem elk35 : elk Tryd.prog 35 = (some .u8) := by kernel_rfl
theorem zmb35 : zmb Tryd.prog 35 = some (.cells [(.lit (.slice none 0 0))] 1 35) := by kernel_rfl
theorem tyc37 : tyc Tryd.prog 37 = some (some 2) := by kernel_rfl
theorem foff37_0 : foff Tryd.prog 37 0 = some 0 := by kernel_rfl
theorem fpart37_0 : fpart Tryd.prog 37 0 = some (0, none) := by kernel_rfl
theorem foff37_1 : foff Tryd.prog 37 1 = some 1 := by kernel_rfl
theorem fpart37_1 : fpart Tryd.prog 37 1 = some (1, none) := by kernel_rfl
theorem zmb37 : zmb Tryd.prog 37 = some (.cells [(.lit (.pointer none)), (.lit (.slice none 0 0))] 2 37) := by kernel_rfl
theorem bldT37 : bldT Tryd.prog 37 = some ([(.pointer none), (.slice none 0 0)], [(0, 1), (1, 1)]) := by kernel_rfl
theorem tyc39 : tyc Tryd.prog 39 = some none := by kernel_rfl
theorem zmb39 : zmb Tryd.prog 39 = some (.cells [(.lit .nilIface)] 1 39) := by kernel_rfl
theorem tyc40 : tyc Tryd.prog 40 = some none := by kernel_rfl
theorem elt47 : elt Tryd.prog 47 = some ((some 256), 1) := by kernel_rfl
theorem arr147 : arr1 Tryd.prog 47 = some 256 := by kernel_rfl
theorem tyc48 : tyc Tryd.prog 48 = some none := by kernel_rfl
theorem tyc51 : tyc Tryd.prog 51 = some none := by kernel_rfl
theorem zmb51 : zmb Tryd.prog 51 = some (.cells [(.lit (.pointer none))] 1 51) := by kernel_rfl
theorem tyc53 : tyc Tryd.prog 53 = some none := by kernel_rfl
theorem zmb53 : zmb Tryd.prog 53 = some (.cells [(.lit (.int .u64 0))] 1 53) := by kernel_rfl
theorem tyc59 : tyc Tryd.prog 59 = some none := by kernel_rfl
theorem zmb59 : zmb Tryd.prog 59 = some (.cells [(.lit (.pointer none))] 1 59) := by kernel_rfl
theorem elt61 : elt Tryd.prog 61 = some ((some 256), 1) := by kernel_rfl
theorem arr161 : arr1 Tryd.prog 61 = some 256 := by kernel_rfl
theorem tyc63 : tyc Tryd.prog 63 = some (some 2) := by kernel_rfl
theorem foff63_0 : foff Tryd.prog 63 0 = some 0 := by kernel_rfl
theorem fpart63_0 : fpart Tryd.prog 63 0 = some (0, none) := by kernel_rfl
theorem foff63_1 : foff Tryd.prog 63 1 = some 1 := by kernel_rfl
theorem fpart63_1 : fpart Tryd.prog 63 1 = some (1, none) := by kernel_rfl
theorem fe63 : flatEq Tryd.prog 63 [1, 1] := flatEq_of (by kernel_rfl)
theorem zmb63 : zmb Tryd.prog 63 = some (.cells [(.lit (.int .u8 0)), (.lit (.int .u8 0))] 2 63) := by kernel_rfl
theorem bldT63 : bldT Tryd.prog 63 = some ([(.int .u8 0), (.int .u8 0)], [(0, 1), (1, 1)]) := by kernel_rfl
theorem tyc64 : tyc Tryd.prog 64 = some (some 32) := by kernel_rfl
theorem elt64 : elt Tryd.prog 64 = some ((some 16), 2) := by kernel_rfl
theorem zmb64 : zmb Tryd.prog 64 = some (.cells [(.lit (.int .u8 0)), (.lit (.int .u8 0)), (.lit (.int .u8 0)), (.lit (.int .u8 0)), (.lit (.int .u8 0)), (.lit (.int .u8 0)), (.lit (.int .u8 0)), (.lit (.int .u8 0)), (.lit (.int .u8 0)), (.lit (.int .u8 0)), (.lit (.int .u8 0)), (.lit (.int .u8 0)), (.lit (.int .u8 0)), (.lit (.int .u8 0)), (.lit (.int .u8 0)), (.lit (.int .u8 0)), (.lit (.int .u8 0)), (.lit (.int .u8 0)), (.lit (.int .u8 0)), (.lit (.int .u8 0)), (.lit (.int .u8 0)), (.lit (.int .u8 0)), (.lit (.int .u8 0)), (.lit (.int .u8 0)), (.lit (.int .u8 0)), (.lit (.int .u8 0)), (.lit (.int .u8 0)), (.lit (.int .u8 0)), (.lit (.int .u8 0)), (.lit (.int .u8 0)), (.lit (.int .u8 0)), (.lit (.int .u8 0))] 32 64) := by kernel_rfl
theorem bldT64 : bldT Tryd.prog 64 = some ([(.int .u8 0), (.int .u8 0), (.int .u8 0), (.int .u8 0), (.int .u8 0), (.int .u8 0), (.int .u8 0), (.int .u8 0), (.int .u8 0), (.int .u8 0), (.int .u8 0), (.int .u8 0), (.int .u8 0), (.int .u8 0), (.int .u8 0), (.int .u8 0), (.int .u8 0), (.int .u8 0), (.int .u8 0), (.int .u8 0), (.int .u8 0), (.int .u8 0), (.int .u8 0), (.int .u8 0), (.int .u8 0), (.int .u8 0), (.int .u8 0), (.int .u8 0), (.int .u8 0), (.int .u8 0), (.int .u8 0), (.int .u8 0)], [(0, 2), (2, 2), (4, 2), (6, 2), (8, 2), (10, 2), (12, 2), (14, 2), (16, 2), (18, 2), (20, 2), (22, 2), (24, 2), (26, 2), (28, 2), (30, 2)]) := by kernel_rfl
theorem tyc69 : tyc Tryd.prog 69 = some none := by kernel_rfl
theorem zmb69 : zmb Tryd.prog 69 = some (.cells [(.lit (.pointer none))] 1 69) := by kernel_rfl
theorem tyc71 : tyc Tryd.prog 71 = some none := by kernel_rfl
theorem zmb71 : zmb Tryd.prog 71 = some (.cells [(.lit (.int .u32 0))] 1 71) := by kernel_rfl
theorem tyc74 : tyc Tryd.prog 74 = some none := by kernel_rfl
theorem zmb74 : zmb Tryd.prog 74 = some (.cells [(.lit (.int .u64 0))] 1 74) := by kernel_rfl
theorem mixed : Tryd.prog.follows .mixedOrders = true := by kernel_rfl
end Go.Proofs.YtdkkfgcdnojmaaaDoor
namespace Go.Proofs.YtdkkfgcdnojmaaaDoor
open Go
set_option linter.unusedVariables false
set_option linter.unusedSimpArgs false
section
variable {P : Program} {cx : Cx} {n : Nat} {ops : Array Oper} {H : Hp}
def alF (P : Program) (n : Nat) (K : St → Prop) : List Oper → St → Prop
  | [], s => K s
  | o :: r, s => match o with
    | ⟨some t, .alloc T, _, _, _, none⟩ => match zmb P T with
      | some m => t < n ∧ newB s.H m fun b H => alF P n K r ⟨(t, pt b 0) :: s.env, H⟩
      | none => False
    | _ => False
def drawAF (P : Program) (n : Nat) (l : List Oper) (K : St → Prop) (p r : Nat) (s : St) : Prop :=
  dvc P n l.toArray (l.take p) (fun s1 => alF P n (fun s2 => rvc P n l.toArray (l.drop (p + r)) K s2) ((l.drop p).take r) s1) s
end
end Go.Proofs.YtdkkfgcdnojmaaaDoor
namespace Go.Proofs.YtdkkfgcdnojmaaaDoor
open Go
set_option linter.unusedSimpArgs false
set_option linter.unusedVariables false
section
variable {P : Program} {cx : Cx} {n : Nat} {ops : Array Oper} {H : Hp}
def drawSF (P : Program) (n : Nat) (l : List Oper) (K : St → Prop) (is k : Nat) (s : St) : Prop :=
  match l.drop is with
  | ⟨none, .store T a y, _, _, _, none⟩ :: q => match (og s.env a).2 with
    | .lit (.pointer (some ⟨b, off, none⟩)) => match hget s.H b with
      | some m0 => dvc P n l.toArray (l.take is) (fun s2 => (og s2.env a).1 ∧ (og s2.env a).2 = pt b off ∧ (og s2.env y).1 ∧ (stC P T m0 off (og s2.env y).2).1 ∧
          dvc P n l.toArray (q.take (k - is - 1)) (fun s3 => rvc P n l.toArray (q.drop (k - is - 1)) K ⟨s3.env, (b, (stC P T m0 off (og s2.env y).2).2) :: s3.H⟩) s2) ⟨s.env, hdel s.H b⟩
      | none => False
    | _ => False
  | _ => False
end
end Go.Proofs.YtdkkfgcdnojmaaaDoor
namespace Go.Proofs.YtdkkfgcdnojmaaaDoor
open Go
set_option linter.unusedSimpArgs false
set_option linter.unusedVariables false
section
variable {P : Program} {f : FuncId} {args : List AV} {H F F0 R : Hp} {post : AV → Hp → Prop}
theorem DCt.upd {b : Nat} {m : MB} {x : AV} (hg : hget H b = some m) (h : ACt P f args [(b, m)] (fun r F' => r = x ∧ F' = [(b, m)])) : DCt P f args H x :=
  ⟨[(b, m)], hdel H b, _, hget_perm hg, h, fun r F' hr _ => by obtain ⟨e1, e2⟩ := hr; subst e1 e2; exact ⟨rfl, (hget_perm hg).symm⟩⟩
theorem perm1 {b : Nat} {m : MB} (h : hget H b = some m) : H.Perm ([(b, m)] ++ hdel H b) := hget_perm h
theorem perm2 {b1 b2 : Nat} {m1 m2 : MB} (h1 : hget H b1 = some m1) (h2 : hget (hdel H b1) b2 = some m2) : H.Perm ([(b1, m1), (b2, m2)] ++ hdel (hdel H b1) b2) :=
  (hget_perm h1).trans (List.Perm.append_left [(b1, m1)] (hget_perm h2))
theorem DCt.updN {x : AV} (hP : H.Perm (F ++ R)) (h : ACt P f args F (fun r F' => r = x ∧ F' = F)) : DCt P f args H x :=
  ⟨F, R, _, hP, h, fun r F' hr _ => by obtain ⟨e1, e2⟩ := hr; subst e1 e2; exact ⟨rfl, hP.symm⟩⟩
theorem CallV.updN {x : AV} (hP : H.Perm (F ++ R)) (h : ACt P f args F (fun r F' => r = x ∧ F' = F0)) (hp : post x (F0 ++ R)) : CallV P f args H post :=
  ⟨F, R, _, hP, h, fun r F' hr _ => by obtain ⟨e1, e2⟩ := hr; subst e1 e2; exact hp⟩
theorem fresh_perm {b : Nat} {m : MB} (hP : H.Perm (F ++ R)) (hk : F0.map (·.1) = F.map (·.1)) (hn : ((((b, m) :: F0) ++ R).map (·.1)).Nodup) : fresh H b := by
  intro p hp
  have hp' := hP.mem_iff.1 hp
  simp only [List.cons_append, List.map_cons, List.nodup_cons, List.map_append, List.mem_append] at hn
  have hne : p.1 ≠ b := by
    rintro rfl
    rcases List.mem_append.1 hp' with h | h
    · exact hn.1 (.inl (by rw [hk]; exact List.mem_map_of_mem h))
    · exact hn.1 (.inr (List.mem_map_of_mem h))
  exact ⟨hne, Ne.symm hne⟩
theorem CallV.ex {Γ : Type} {x : Γ → AV} {m : Γ → Hp} (hP : H.Perm (F ++ R)) (h : ACt P f args F (fun r F' => ∃ g, r = x g ∧ F' = m g)) (hp : ∀ g, post (x g) (m g ++ R)) : CallV P f args H post :=
  ⟨F, R, _, hP, h, fun r F' hr _ => by obtain ⟨g, e1, e2⟩ := hr; subst e1 e2; exact hp g⟩
theorem ExF.up {K : AV → Prop} {x : AV} (hP : ∃ R, H.Perm (F ++ R)) (h : ACt P f args F (fun r F' => r = x ∧ F' = F)) (hk : K x) : ExF P f args H K := let ⟨_, hP⟩ := hP; ExF.on (DCt.updN hP h) hk
theorem ExG.up {c : Bool} {K : AV → Prop} {x : AV} (hP : ∃ R, H.Perm (F ++ R)) (h : c = true → ACt P f args F (fun r F' => r = x ∧ F' = F)) (hk : K x) : ExG c P f args H K := let ⟨_, hP⟩ := hP; ExG.on (fun hc => DCt.updN hP (h hc)) hk
theorem ExG.upJ {c : Bool} {K : AV → Prop} {x : AV} {q : Prop} (hP : ∃ R, H.Perm (F ++ R)) (h : c = true → ACt P f args F (fun r F' => r = x ∧ F' = F)) (hk : K x) : ExG c P f args H K ∨ q := .inl (ExG.up hP h hk)
theorem ExG.upI {c : Bool} {K : AV → Prop} {x : AV} {q ob : Prop} (hP : ∃ R, H.Perm (F ++ R)) (h : c = true → ACt P f args F (fun r F' => r = x ∧ F' = F)) (ho : ob) (hk : K x) : (ob ∧ ExG c P f args H K) ∨ q := .inl ⟨ho, ExG.up hP h hk⟩
theorem CallV.updM {f : FuncId} {args : List AV} {H F F0 R : Hp} {post : AV → Hp → Prop} {x : AV} (h : ACt P f args F (fun r F' => r = x ∧ F' = F0)) (hP : H.Perm (F ++ R)) (hp : post x (F0 ++ R)) : CallV P f args H post := CallV.updN hP h hp
theorem CallV.exM {f : FuncId} {args : List AV} {H F R : Hp} {post : AV → Hp → Prop} {Γ : Type} {x : Γ → AV} {m : Γ → Hp} (h : ACt P f args F (fun r F' => ∃ g, r = x g ∧ F' = m g)) (hP : H.Perm (F ++ R)) (hp : ∀ g, post (x g) (m g ++ R)) : CallV P f args H post := CallV.ex hP h hp
end
end Go.Proofs.YtdkkfgcdnojmaaaDoor
namespace Go.Proofs.YtdkkfgcdnojmaaaDoor
open Go
set_option linter.unusedSimpArgs false
set_option linter.unusedVariables false
section
variable {P : Program} {cx : Cx} {n : Nat} {ops : Array Oper}
def ECt (P : Program) (f : FuncId) (args : List AV) (E : Hp) (x : AV) (E' : Hp) : Prop :=
  ∃ F R F0, E.Perm (F ++ R) ∧ E' = F0 ++ R ∧ F0.map (·.1) = F.map (·.1) ∧ ACt P f args F (fun r F' => r = x ∧ F' = F0)
def calleeV (env : List (Nat × AV)) : Op → Option (Prop × FuncId × List AV)
  | .call c => match c.callee with
    | .value (.func f) => some ((ogs env c.args.toList).1, f, (ogs env c.args.toList).2)
    | _ => none
  | _ => none
def ExW (P : Program) (f : FuncId) (args : List AV) (E : Hp) (K : AV → Hp → Prop) (d : Hd K := .mk) : Prop := ∃ x E', ECt P f args E x E' ∧ K x E'
theorem ExW.mk {f : FuncId} {args : List AV} {E F R F0 : Hp} {K : AV → Hp → Prop} {x : AV} (hP : E.Perm (F ++ R)) (h : ACt P f args F (fun r F' => r = x ∧ F' = F0)) (hk : F0.map (·.1) = F.map (·.1)) (hK : K x (F0 ++ R)) : ExW P f args E K :=
  ⟨x, F0 ++ R, ⟨F, R, F0, hP, rfl, hk, h⟩, hK⟩
def xst (P : Program) (ops : Array Oper) (H : Hp) (o : Oper) (env : List (Nat × AV)) (K : AV → Prop) : Prop :=
  match o.guard with
  | none => match pev P H env o.op with
    | some r => r.1 ∧ K r.2
    | none => match calleeOf P env o.op with
      | some q => q.1 ∧ ExF P q.2.1 q.2.2 H fun x => K x
      | none => False
  | some (j, want) => match gdOf env ops j want with
    | some c => match pev P H env o.op with
      | some r => (c = true → r.1) ∧ K (.gd c r.2)
      | none => match calleeOf P env o.op with
        | some q => (c = true → q.1) ∧ ExG c P q.2.1 q.2.2 H fun x => K (.gd c x)
        | none => False
    | none => False
def xvc (P : Program) (n : Nat) (ops : Array Oper) (ws ls : List Nat) (H0 : Hp) : Nat → List Oper → (List (Nat × AV) → Hp → Prop) → List (Nat × AV) → Hp → Prop
  | _, [], K, env, E => K env E
  | i, o :: rest, K, env, E => okd n o.dst ∧
    if i ∈ ws then o.guard = none ∧ match o.op with
      | .store T ad y => match (og env ad).2 with
        | .lit (.pointer (some ⟨b, off, none⟩)) => match hget E b with
          | some m => (og env ad).1 ∧ (og env y).1 ∧ (stC P T m off (og env y).2).1 ∧ xvc P n ops ws ls H0 (i + 1) rest K (putE env o.dst (.lit undef)) (hset E b (stC P T m off (og env y).2).2)
          | none => False
        | _ => False
      | _ => match calleeV env o.op with
        | some q => q.1 ∧ ExW P q.2.1 q.2.2 E fun x E' => xvc P n ops ws ls H0 (i + 1) rest K (putE env o.dst x) E'
        | none => False
    else xst P ops (if i ∈ ls then E ++ H0 else H0) o env fun x => xvc P n ops ws ls H0 (i + 1) rest K (putE env o.dst x) E
theorem SeqG.cons {C : Nat → Oper → AV → List (Nat × AV) → Prop} {o : Oper} {x : AV} {r : List (Oper × AV)} {env : List (Nat × AV)} (h0 : C 0 o x env) (h : SeqG (fun i => C (i + 1)) r (putE env o.dst x)) : SeqG C ((o, x) :: r) env := by
  have := SeqG.app (C := C) (A := [(o, x)]) (B := r) (env := env) (SeqG.one h0) (by
    simp only [envL, if_true, List.length_cons, List.length_nil]
    have e : (fun i => C (0 + 1 + i)) = fun i => C (i + 1) := by funext i; rw [show 0 + 1 + i = i + 1 by omega]
    rw [e]; exact h)
  exact this
/-! ### The order -/
/-! ### Ahead of the parting, the parting, behind it -/
theorem Stdy.congr {o : Oper} {env env' : List (Nat × AV)} {H : Hp} {x : AV} (h : ∀ t, look env t = look env' t) (hS : Stdy P cx n ops o env H x) : Stdy P cx n ops o env' H x :=
  ⟨hS.1, fun a w X R h1 h2 h3 h4 h5 => hS.2 a w X R h1 h2 h3 (fun t ht => by rw [h t]; exact h4 t ht) h5⟩
def splitH : List Nat → Hp → Option (Hp × Hp)
  | [], H => some ([], H)
  | b :: bs, H => match hget H b with
    | some m => match splitH bs (hdel H b) with
      | some q => some ((b, m) :: q.1, q.2)
      | none => none
    | none => none
def drawCF (P : Program) (n : Nat) (l : List Oper) (K : St → Prop) (c : Nat) (ws ls bs : List Nat) (s : St) : Prop :=
  match splitH bs s.H with
  | some q => xvc P n l.toArray ws ls q.2 0 (l.take c) (fun env E => match l.drop c with
    | o :: r => okd n o.dst ∧ o.guard = none ∧ eff P o (fun s' => dvc P n l.toArray r K s') ⟨env, E ++ q.2⟩
    | [] => False) s.env q.1
  | none => False
end
end Go.Proofs.YtdkkfgcdnojmaaaDoor
namespace Go.Proofs.YtdkkfgcdnojmaaaDoor
open Go
set_option linter.unusedSimpArgs false
set_option linter.unusedVariables false
section
variable {P : Program} {cx : Cx} {n : Nat} {ops : Array Oper} {H : Hp}
def mkS (P : Program) (env : List (Nat × AV)) : Op → Option (Prop × MB × Nat)
  | .buildSlice T len parts => match apT P T with
    | some (e, sz, _) => match fillA (plN sz len 0) (List.replicate (len * sz) .any) (ogp env parts.toList).2 with
      | some cs => some ((ogp env parts.toList).1 ∧ len * sz ≤ 16777216, rowMB (elk P T) cs (len * sz) e, len)
      | none => none
    | none => none
  | _ => none
def drawMF (P : Program) (n : Nat) (l : List Oper) (K : St → Prop) (ia k : Nat) (s : St) : Prop :=
  match l with
  | ⟨some d, .move (.tmp x), _, _, _, none⟩ :: l1 => d < n ∧ dvc P n l.toArray (l1.take (ia - 1)) (fun s1 => match l1.drop (ia - 1) with
    | ⟨some t, op, _, _, _, none⟩ :: r => match mkS P s1.env op with
      | some q => t < n ∧ q.1 ∧ dvc P n l.toArray (r.take (k - ia - 1)) (fun s3 => newB s3.H q.2.1 fun b H => rvc P n l.toArray (r.drop (k - ia - 1)) K ⟨(t, ms b 0 q.2.2 q.2.2) :: s3.env, H⟩) ⟨(t, .any) :: s1.env, s1.H⟩
      | none => False
    | _ => False) ⟨(d, look s.env x) :: s.env, s.H⟩
  | _ => False
end
end Go.Proofs.YtdkkfgcdnojmaaaDoor
