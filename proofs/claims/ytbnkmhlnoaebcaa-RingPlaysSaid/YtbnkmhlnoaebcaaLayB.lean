/-
  Operations that leave memory as it is: what they come to, as a function of what is known; and that it is so.
-/
import Derived.Test.YtbnkmhlnoaebcaaLayA
import Derived.ChangeKeysEq
namespace Go.Proofs.Ytbnkmhlnoaebcaa
open Go
set_option linter.unusedSimpArgs false

/-! ## Tables of the types -/

/-- One cell, or so many in a row. -/
def tyc (P : Program) (T : TypeId) : Option (Option Nat) :=
  match P.underlying T with
  | none => none
  | some d => match P.info? T with
    | none => none
    | some i => match d with
      | .struct _ => some (some i.size)
      | .array _ _ => some (some i.size)
      | _ => if i.size = 1 then some none else none

/-- Elements: how many (an array), and cells of each. -/
def elt (P : Program) (T : TypeId) : Option (Option Nat × Nat) :=
  match P.underlying T with
  | some (.array len e) => (P.info? e).map fun i => (some len, i.size)
  | some (.slice e) => (P.info? e).map fun i => (none, i.size)
  | _ => none

def foff (P : Program) (T : TypeId) (f : Nat) : Option Nat :=
  match P.underlying T with
  | some (.struct fs) => match fs[f]? with
    | some fl => match P.info? fl.type with
      | some i => if i.size = 0 then none else some fl.offset
      | none => none
    | none => none
  | _ => none

section
variable {P : Program} {w : World} {T : TypeId}

theorem tyc_one (h : tyc P T = some none) : ∃ d i, P.underlying T = some d ∧ P.info? T = some i ∧ i.size = 1 ∧ (∀ fs, d ≠ .struct fs) ∧ ∀ n e, d ≠ .array n e := by
  unfold tyc at h
  split at h
  · cases h
  · rename_i d hd
    split at h
    · cases h
    · rename_i i hi
      split at h
      · cases h
      · cases h
      · rename_i h1 h2
        split at h
        · rename_i hs; exact ⟨d, i, hd, hi, hs, h1, h2⟩
        · cases h

theorem run_isAgg_one (h : tyc P T = some none) : (isAgg T).run P w = .ok false w := by
  obtain ⟨d, i, hd, hi, hs, h1, h2⟩ := tyc_one h
  unfold isAgg
  simp only [Sem.run_bind, run_underlying hd, Result.andThen_ok]
  cases d <;> simp_all

theorem run_isAgg_many {n : Nat} (h : tyc P T = some (some n)) : (isAgg T).run P w = .ok true w ∧ (sizeOf T).run P w = .ok n w := by
  unfold tyc at h
  unfold isAgg sizeOf typeInfo
  split at h
  · cases h
  · rename_i d hd
    split at h
    · cases h
    · rename_i i hi
      simp only [Sem.run_bind, run_underlying hd, Result.andThen_ok]
      split at h
      · cases h; simp [program, Sem.run, hi]
      · cases h; simp [program, Sem.run, hi]
      · split at h <;> cases h

theorem run_sizeOf_info {i : TypeInfo} (h : P.info? T = some i) : (sizeOf T).run P w = .ok i.size w := by
  unfold sizeOf typeInfo
  simp [program, Sem.run, h]
end

/-! ## Values -/

def strip : AV → Prop × AV
  | .gd b x => (b = true, x)
  | x => (True, x)

def og (env : List (Nat × AV)) (x : Operand) : Prop × AV := strip (opd env x)

def one (p : Prop × AV) (f : AV → Prop × AV) : Prop × AV := (p.1 ∧ (f p.2).1, (f p.2).2)
def both (p q : Prop × AV) (f : AV → AV → Prop × AV) : Prop × AV := (p.1 ∧ q.1 ∧ (f p.2 q.2).1, (f p.2 q.2).2)

def pickw : Bool → AV → AV → Prop × AV
  | true, .lit x, _ => (True, .lit x)
  | false, _, .lit y => (True, .lit y)
  | _, _, _ => (False, .any)
def pickv (t : Bool) : AV → AV → Prop × AV
  | .gd g (.lit (.bool u)), .lit (.bool v) => (t = true → g = true, bv (bif t then u else v))
  | .lit (.bool u), .gd g (.lit (.bool v)) => (t = false → g = true, bv (bif t then u else v))
  | .lit (.bool u), .lit (.bool v) => (True, bv (bif t then u else v))
  | a, b => pickw t a b

def picka (c a b : AV) : Prop × AV :=
  match c with
  | .lit (.bool t) => pickv t a b
  | _ => (False, .any)

def ibit (op : BinOp) (k : IntKind) (x y : Int) : Int :=
  let a := BitVec.ofInt k.bits x
  let b := BitVec.ofInt k.bits y
  match op with
  | .and => k.wrap (a &&& b).toNat
  | .or => k.wrap (a ||| b).toNat
  | .xor => k.wrap (a ^^^ b).toNat
  | _ => k.wrap (a &&& ~~~b).toNat

def bini (op : BinOp) (k : IntKind) (a : Int) (k' : IntKind) (b : Int) : Prop × AV :=
  match op with
  | .add => (k = k', iv k (k.wrap (a + b)))
  | .sub => (k = k', iv k (k.wrap (a - b)))
  | .mul => (k = k', iv k (k.wrap (a * b)))
  | .quo => (k = k' ∧ b ≠ 0, iv k (k.wrap (a.tdiv b)))
  | .rem => (k = k' ∧ b ≠ 0, iv k (a.tmod b))
  | .and => (k = k', iv k (ibit .and k a b))
  | .or => (k = k', iv k (ibit .or k a b))
  | .xor => (k = k', iv k (ibit .xor k a b))
  | .andNot => (k = k', iv k (ibit .andNot k a b))
  | .shl => (0 ≤ b, iv k (k.wrap (a * 2 ^ (min b.toNat k.bits))))
  | .shr => (0 ≤ b, iv k (a.fdiv (2 ^ (min b.toNat k.bits))))
  | .eql => (k = k', bv (a == b))
  | .neq => (k = k', bv (a != b))
  | .lss => (k = k', bv (decide (a < b)))
  | .leq => (k = k', bv (decide (a ≤ b)))
  | .gtr => (k = k', bv (decide (a > b)))
  | .geq => (k = k', bv (decide (a ≥ b)))

def bins (op : BinOp) (a b : ByteArray) : Prop × AV :=
  match op with
  | .add => (a.size + b.size ≤ 9223372036854775807, .lit (.string (a ++ b)))
  | .eql => (True, bv (a.toList == b.toList))
  | .neq => (True, bv (!(a.toList == b.toList)))
  | .lss => (True, bv (Op.bytesLess a.toList b.toList))
  | .leq => (True, bv (Op.bytesLess a.toList b.toList || a.toList == b.toList))
  | .gtr => (True, bv (!(Op.bytesLess a.toList b.toList || a.toList == b.toList)))
  | .geq => (True, bv (!Op.bytesLess a.toList b.toList))
  | _ => (False, .any)

def isBoolT (P : Program) (T : TypeId) : Prop := P.underlying T = some .bool
def isPtrT (P : Program) (T : TypeId) : Prop := ∃ e, P.underlying T = some (.pointer e)

def binb (P : Program) (T : TypeId) (op : BinOp) (a b : Bool) : Prop × AV :=
  match op with
  | .eql => (isBoolT P T, bv (a == b))
  | .neq => (isBoolT P T, bv (a != b))
  | _ => (False, .any)

def binp (P : Program) (T : TypeId) (op : BinOp) (r : Bool) : Prop × AV :=
  match op with
  | .eql => (isPtrT P T, bv r)
  | .neq => (isPtrT P T, bv (!r))
  | _ => (False, .any)

/-- Structs and arrays whose cells are compared one by one: the cells of the plain kinds. -/
def eqCells : List AV → List AV → Prop × Bool
  | [], [] => (True, true)
  | .lit (.int k a) :: r, .lit (.int k' b) :: s => (k = k' ∧ (eqCells r s).1, a == b && (eqCells r s).2)
  | .lit (.bool a) :: r, .lit (.bool b) :: s => ((eqCells r s).1, a == b && (eqCells r s).2)
  | .lit (.string a) :: r, .lit (.string b) :: s => ((eqCells r s).1, a == b && (eqCells r s).2)
  | _, _ => (False, false)

/-- What a cell of a plain kind is: 1 an integer, 2 a truth value, 3 a string. -/
def shp : AV → Nat
  | .lit (.int _ _) => 1
  | .lit (.bool _) => 2
  | .lit (.string _) => 3
  | _ => 0

/-- A type whose values, of the given cells, are compared cell by cell (proved of a seat's own types). -/
def flatEq (P : Program) (T : TypeId) (sh : List Nat) : Prop :=
  P.eqGuardType P.depth T = false ∧
  ∀ (w : World) (I : Nat → Prop) (xs ys : Array Value) (cs ds : List AV), cs.map shp = sh → Rep w I (.agg xs) (.agg cs) → Rep w I (.agg ys) (.agg ds) → (eqCells cs ds).1 →
    (Op.equal T (.agg xs) (.agg ys)).run P w = .ok (eqCells cs ds).2 w

def shpT (P : Program) (t : TypeId) : Nat :=
  match P.underlying t with
  | some (.int _) => 1
  | some .bool => 2
  | some .string => 3
  | _ => 0
def flatFs (P : Program) : Nat → List Field → List Nat → Bool
  | _, [], [] => true
  | i, f :: fs, s :: ss => f.name != "_" && f.offset == i && shpT P f.type != 0 && shpT P f.type == s && flatFs P (i + 1) fs ss
  | _, _, _ => false
def flatB (P : Program) (T : TypeId) (sh : List Nat) : Bool :=
  !P.eqGuardType P.depth T && !P.stoodInHeld T && match P.underlying T with
  | some (.struct fs) => flatFs P 0 fs.toList sh
  | _ => false

theorem shpT_plain {P : Program} {t : TypeId} (h : shpT P t ≠ 0) : P.plainKey t = true := by
  unfold shpT at h
  unfold Program.plainKey
  split at h <;> simp_all

theorem eqFs {P : Program} {w : World} {I : Nat → Prop} {xs ys : Array Value} (n : Nat) : ∀ (fs : List Field) (sh : List Nat) (i : Nat) (cs ds : List AV), flatFs P i fs sh = true → cs.map shp = sh → (eqCells cs ds).1 →
    (∀ j, j < cs.length → i + j < xs.size ∧ Rep w I (xs.getD (i + j) undef) (cs.getD j .any)) → (∀ j, j < ds.length → i + j < ys.size ∧ Rep w I (ys.getD (i + j) undef) (ds.getD j .any)) →
    (Op.eqFields (n + 1) xs ys fs).run P w = .ok (eqCells cs ds).2 w
  | [], sh, i, cs, ds, hf, hs, he, hx, hy => by
    cases sh with
    | cons s ss => simp [flatFs] at hf
    | nil =>
      cases cs with
      | cons c cs => simp at hs
      | nil => cases ds with
        | cons d ds => simp [eqCells] at he
        | nil => simp [Op.eqFields, eqCells]
  | f :: fs, sh, i, cs, ds, hf, hs, he, hx, hy => by
    cases sh with
    | nil => simp [flatFs] at hf
    | cons s ss =>
      simp only [flatFs, Bool.and_eq_true, bne_iff_ne, beq_iff_eq] at hf
      obtain ⟨⟨⟨⟨h1, h2⟩, h3⟩, h4⟩, h5⟩ := hf
      cases cs with
      | nil => simp at hs
      | cons c cs =>
        simp only [List.map_cons, List.cons.injEq] at hs
        obtain ⟨hs1, hs2⟩ := hs
        cases ds with
        | nil => cases c <;> simp [eqCells] at he
        | cons d ds =>
          have ih := eqFs (w := w) (I := I) (xs := xs) (ys := ys) n fs ss (i + 1) cs ds h5 hs2
          have hx0 := hx 0 (by simp)
          have hy0 := hy 0 (by simp)
          simp only [Nat.add_zero, List.getD_cons_zero] at hx0 hy0
          have hx' : ∀ j, j < cs.length → i + 1 + j < xs.size ∧ Rep w I (xs.getD (i + 1 + j) undef) (cs.getD j .any) := fun j hj => by
            have := hx (j + 1) (by simp; omega)
            rw [List.getD_cons_succ] at this
            rw [show i + 1 + j = i + (j + 1) by omega]; exact this
          have hy' : ∀ j, j < ds.length → i + 1 + j < ys.size ∧ Rep w I (ys.getD (i + 1 + j) undef) (ds.getD j .any) := fun j hj => by
            have := hy (j + 1) (by simp; omega)
            rw [List.getD_cons_succ] at this
            rw [show i + 1 + j = i + (j + 1) by omega]; exact this
          have hp := shpT_plain h3
          have go : ∀ (u v : Value) (r : Bool), xs.getD i undef = u → ys.getD i undef = v → (Op.equalIn (n + 1) f.type u v).run P w = .ok r w → (eqCells cs ds).1 →
              (Op.eqFields (n + 1) xs ys (f :: fs)).run P w = .ok (r && (eqCells cs ds).2) w := by
            intro u v r hu hv hr hc
            have p1 : (part f.type xs f.offset).run P w = .ok u w := run_part_plain w hp (by
              rw [h2, Array.getElem?_eq_getElem hx0.1, ← hu]; simp [Array.getD, hx0.1])
            have p2 : (part f.type ys f.offset).run P w = .ok v w := run_part_plain w hp (by
              rw [h2, Array.getElem?_eq_getElem hy0.1, ← hv]; simp [Array.getD, hy0.1])
            simp only [Op.eqFields, h1, ne_eq, not_false_eq_true, if_true, Sem.run_bind, p1, p2, hr, Result.andThen_ok]
            cases r
            · simp
            · simpa using ih hc hx' hy'
          unfold eqCells at he ⊢
          split at he
          · cases ‹_ :: _ = []›
          · rename_i k a r k' b s' e1 e2
            simp only [List.cons.injEq] at e1 e2
            obtain ⟨rfl, rfl⟩ := e1
            obtain ⟨rfl, rfl⟩ := e2
            obtain ⟨rfl, hc⟩ := he
            obtain ⟨kt, hk⟩ : ∃ kt, P.underlying f.type = some (.int kt) := by
              simp only [shp] at hs1; rw [← hs1] at h4; unfold shpT at h4; split at h4 <;> first | exact ⟨_, ‹_›⟩ | cases h4
            exact go _ _ _ hx0.2.lit_inv hy0.2.lit_inv (run_equalIn_int w n f.type k kt a b hk) hc
          · rename_i a r b s' e1 e2
            simp only [List.cons.injEq] at e1 e2
            obtain ⟨rfl, rfl⟩ := e1
            obtain ⟨rfl, rfl⟩ := e2
            have hk : P.underlying f.type = some .bool := by
              simp only [shp] at hs1; rw [← hs1] at h4; unfold shpT at h4; split at h4 <;> first | assumption | cases h4
            exact go _ _ _ hx0.2.lit_inv hy0.2.lit_inv (run_equalIn_bool w n f.type a b hk) he
          · rename_i a r b s' e1 e2
            simp only [List.cons.injEq] at e1 e2
            obtain ⟨rfl, rfl⟩ := e1
            obtain ⟨rfl, rfl⟩ := e2
            have hk : P.underlying f.type = some .string := by
              simp only [shp] at hs1; rw [← hs1] at h4; unfold shpT at h4; split at h4 <;> first | assumption | cases h4
            have := go _ _ _ hx0.2.lit_inv hy0.2.lit_inv (run_equalIn_string w n f.type a b hk) he
            rw [← beq_toListBytes] at this
            exact this
          · exact he.elim

theorem flatEq_of {P : Program} {T : TypeId} {sh : List Nat} (h : flatB P T sh = true) : flatEq P T sh := by
  unfold flatB at h
  simp only [Bool.and_eq_true, Bool.not_eq_true'] at h
  obtain ⟨⟨h1, h2⟩, h3⟩ := h
  refine ⟨h1, fun w I xs ys cs ds hs hx hy he => ?_⟩
  split at h3
  · rename_i fs hu
    have hf : P.fieldsOf T = fs := by unfold Program.fieldsOf; rw [hu]
    obtain ⟨hxs, hxr⟩ : xs.size = cs.length ∧ ∀ i (hi : i < cs.length), Rep w I (xs.getD i undef) cs[i] := by cases hx; exact ⟨by assumption, by assumption⟩
    obtain ⟨hys, hyr⟩ : ys.size = ds.length ∧ ∀ i (hi : i < ds.length), Rep w I (ys.getD i undef) ds[i] := by cases hy; exact ⟨by assumption, by assumption⟩
    show (Op.equalIn (9999 + 1) T _ _).run P w = _
    rw [run_equalIn_struct w 9999 T xs ys (by rw [hf]; exact hu) h2, hf]
    refine eqFs (I := I) 9998 fs.toList sh 0 cs ds h3 hs he (fun j hj => ?_) (fun j hj => ?_)
    · have := hxr j hj
      rw [Nat.zero_add]
      exact ⟨by omega, by simpa [List.getD, hj] using this⟩
    · have := hyr j hj
      rw [Nat.zero_add]
      exact ⟨by omega, by simpa [List.getD, hj] using this⟩
  · cases h3

def bina (P : Program) (T : TypeId) (op : BinOp) (cs ds : List AV) : Prop × AV :=
  match op with
  | .eql => (flatEq P T (cs.map shp) ∧ (eqCells cs ds).1, bv (eqCells cs ds).2)
  | .neq => (flatEq P T (cs.map shp) ∧ (eqCells cs ds).1, bv (!(eqCells cs ds).2))
  | _ => (False, .any)

def binv (P : Program) (T : TypeId) (op : BinOp) : AV → AV → Prop × AV
  | .lit (.int k a), .lit (.int k' b) => bini op k a k' b
  | .lit (.string a), .lit (.string b) => bins op a b
  | .lit (.bool a), .lit (.bool b) => binb P T op a b
  | .lit (.pointer none), .lit (.pointer b) => binp P T op b.isNone
  | .lit (.pointer (some _)), .lit (.pointer none) => binp P T op false
  | .ip _, .lit (.pointer none) => binp P T op false
  | .ipz _ _, .lit (.pointer none) => binp P T op false
  | .agg cs, .agg ds => bina P T op cs ds
  | _, _ => (False, .any)

def unv (op : UnOp) : AV → Prop × AV
  | .lit (.bool b) => match op with
    | .not => (True, bv (!b))
    | _ => (False, .any)
  | .lit (.int k n) => match op with
    | .neg => (True, iv k (k.wrap (0 - n)))
    | .xor => (True, iv k (ibit .xor k (if k.signed then -1 else k.max) n))
    | _ => (False, .any)
  | _ => (False, .any)

section
variable {P : Program} {w : World} {I : Nat → Prop} {T : TypeId}

theorem run_bini {op : BinOp} {k k' : IntKind} {a b : Int} (h : (bini op k a k' b).1) :
    ∃ v, (bini op k a k' b).2 = .lit v ∧ (binOp op T (.int k a) (.int k' b)).run P w = .ok v w := by
  cases op <;> simp only [bini] at h ⊢ <;> refine ⟨_, rfl, ?_⟩
  case quo => obtain ⟨rfl, hb⟩ := h; simp [binOp, Op.intDiv, hb]
  case rem => obtain ⟨rfl, hb⟩ := h; simp [binOp, Op.intDiv, hb]
  case shl => simp [binOp, Op.shift, Int.not_lt.2 h]
  case shr => simp [binOp, Op.shift, Int.not_lt.2 h]
  all_goals (subst h; simp [binOp, Op.intArith, Op.intBits, Op.intCmp, ibit])

theorem run_eqGuard_plain {op : BinOp} {x y : Operand} {a b : Value} (h : ∀ xs ys, ¬ (a = .agg xs ∧ b = .agg ys)) (h' : ¬ (a = .nilIface ∧ b = .nilIface)) :
    (eqGuard op T x y a b).run P w = .ok () w := by
  unfold eqGuard
  cases op <;> simp <;> (cases a <;> cases b <;> simp_all)

theorem equal_succ (x y : Value) : Op.equal T x y = Op.equalIn (9999 + 1) T x y := rfl

theorem run_equal_bool (h : P.underlying T = some .bool) (a b : Bool) : (Op.equal T (.bool a) (.bool b)).run P w = .ok (a == b) w := by
  rw [equal_succ]
  generalize 9999 = d
  simp [Op.equalIn, run_underlying h]

theorem run_equal_nl {e : TypeId} (h : P.underlying T = some (.pointer e)) (b : Option Addr) : (Op.equal T (.pointer none) (.pointer b)).run P w = .ok b.isNone w := by
  rw [equal_succ]
  generalize 9999 = d
  simp [Op.equalIn, run_underlying h]

theorem run_equal_nr {e : TypeId} (h : P.underlying T = some (.pointer e)) (a : Addr) : (Op.equal T (.pointer (some a)) (.pointer none)).run P w = .ok false w := by
  rw [equal_succ]
  generalize 9999 = d
  simp [Op.equalIn, run_underlying h]

theorem run_bins {op : BinOp} {a b : ByteArray} (h : (bins op a b).1) :
    ∃ v, (bins op a b).2 = .lit v ∧ (binOp op T (.string a) (.string b)).run P w = .ok v w := by
  cases op <;> simp only [bins] at h ⊢ <;> first | (exact h.elim) | skip
  case add =>
    refine ⟨_, rfl, ?_⟩
    have : ¬ (((a.size + b.size : Nat) : Int) > IntKind.i64.max) := by
      simp only [IntKind.max, IntKind.signed, IntKind.bits]
      simp
      omega
    simp only [binOp, Op.stringOp, if_neg this, Sem.run_pure]
  all_goals (refine ⟨_, rfl, ?_⟩; simp [binOp, Op.stringOp])

theorem run_binb {op : BinOp} {a b : Bool} (h : (binb P T op a b).1) :
    ∃ v, (binb P T op a b).2 = .lit v ∧ (binOp op T (.bool a) (.bool b)).run P w = .ok v w := by
  cases op <;> simp only [binb, isBoolT] at h ⊢ <;> first | (exact h.elim) | skip
  all_goals (refine ⟨_, rfl, ?_⟩; simp [binOp, run_equal_bool h, bne])

theorem run_binp_nl {op : BinOp} {b : Option Addr} (h : (binp P T op b.isNone).1) :
    ∃ v, (binp P T op b.isNone).2 = .lit v ∧ (binOp op T (.pointer none) (.pointer b)).run P w = .ok v w := by
  cases op <;> simp only [binp, isPtrT] at h ⊢ <;> first | (exact h.elim) | skip
  all_goals (obtain ⟨e, h⟩ := h; refine ⟨_, rfl, ?_⟩; simp [binOp, run_equal_nl h])

theorem run_binp_nr {op : BinOp} {a : Addr} (h : (binp P T op false).1) :
    ∃ v, (binp P T op false).2 = .lit v ∧ (binOp op T (.pointer (some a)) (.pointer none)).run P w = .ok v w := by
  cases op <;> simp only [binp, isPtrT] at h ⊢ <;> first | (exact h.elim) | skip
  all_goals (obtain ⟨e, h⟩ := h; refine ⟨_, rfl, ?_⟩; simp [binOp, run_equal_nr h])

theorem run_bina {op : BinOp} {xs ys : Array Value} {cs ds : List AV} {x y : Operand} (hx : Rep w I (.agg xs) (.agg cs)) (hy : Rep w I (.agg ys) (.agg ds))
    (h : (bina P T op cs ds).1) : ∃ v, (bina P T op cs ds).2 = .lit v ∧
      (do eqGuard op T x y (.agg xs) (.agg ys); binOp op T (.agg xs) (.agg ys) : Sem Value).run P w = .ok v w := by
  cases op <;> simp only [bina] at h ⊢ <;> first | (exact h.elim) | skip
  all_goals
    obtain ⟨⟨hg, hf⟩, he⟩ := h
    have hr := hf w I xs ys cs ds rfl hx hy he
    refine ⟨_, rfl, ?_⟩
    simp [eqGuard, program, Sem.run, hg, binOp, hr]

/-- The heart of '+', '<', '==' and their like. -/
theorem run_binv {op : BinOp} {x y : Operand} {u v : Value} {a b : AV} (hu : Rep w I u a) (hv : Rep w I v b) (h : (binv P T op a b).1) :
    ∃ r, (do eqGuard op T x y u v; binOp op T u v : Sem Value).run P w = .ok r w ∧ Rep w I r (binv P T op a b).2 := by
  unfold binv at h ⊢
  split at h
  · rename_i k m k' m'
    have := hu.lit_inv; have := hv.lit_inv; subst_vars
    obtain ⟨r, h1, h2⟩ := run_bini (P := P) (w := w) (T := T) h
    exact ⟨r, by rw [Sem.run_bind, run_eqGuard_plain (by simp) (by simp)]; exact h2, by rw [h1]; exact .lit _⟩
  · have := hu.lit_inv; have := hv.lit_inv; subst_vars
    obtain ⟨r, h1, h2⟩ := run_bins (P := P) (w := w) (T := T) h
    exact ⟨r, by rw [Sem.run_bind, run_eqGuard_plain (by simp) (by simp)]; exact h2, by rw [h1]; exact .lit _⟩
  · have := hu.lit_inv; have := hv.lit_inv; subst_vars
    obtain ⟨r, h1, h2⟩ := run_binb (P := P) (w := w) (T := T) h
    exact ⟨r, by rw [Sem.run_bind, run_eqGuard_plain (by simp) (by simp)]; exact h2, by rw [h1]; exact .lit _⟩
  · have := hu.lit_inv; have := hv.lit_inv; subst_vars
    obtain ⟨r, h1, h2⟩ := run_binp_nl (P := P) (w := w) (T := T) h
    exact ⟨r, by rw [Sem.run_bind, run_eqGuard_plain (by simp) (by simp)]; exact h2, by rw [h1]; exact .lit _⟩
  · have := hu.lit_inv; have := hv.lit_inv; subst_vars
    obtain ⟨r, h1, h2⟩ := run_binp_nr (P := P) (w := w) (T := T) h
    exact ⟨r, by rw [Sem.run_bind, run_eqGuard_plain (by simp) (by simp)]; exact h2, by rw [h1]; exact .lit _⟩
  · have := hv.lit_inv; subst_vars
    cases hu
    obtain ⟨r, h1, h2⟩ := run_binp_nr (P := P) (w := w) (T := T) h
    exact ⟨r, by rw [Sem.run_bind, run_eqGuard_plain (by simp) (by simp)]; exact h2, by rw [h1]; exact .lit _⟩
  · have := hv.lit_inv; subst_vars
    cases hu
    obtain ⟨r, h1, h2⟩ := run_binp_nr (P := P) (w := w) (T := T) h
    exact ⟨r, by rw [Sem.run_bind, run_eqGuard_plain (by simp) (by simp)]; exact h2, by rw [h1]; exact .lit _⟩
  · rename_i cs ds
    obtain ⟨xs, rfl⟩ : ∃ xs, u = .agg xs := by cases hu; exact ⟨_, rfl⟩
    obtain ⟨ys, rfl⟩ : ∃ ys, v = .agg ys := by cases hv; exact ⟨_, rfl⟩
    obtain ⟨r, h1, h2⟩ := run_bina (P := P) (T := T) (x := x) (y := y) hu hv h
    exact ⟨r, h2, by rw [h1]; exact .lit _⟩
  · exact h.elim

theorem run_unv {op : UnOp} {u : Value} {a : AV} (hu : Rep w I u a) (h : (unv op a).1) :
    ∃ r, (Op.unary op u).run P w = .ok r w ∧ Rep w I r (unv op a).2 := by
  unfold unv at h ⊢
  split at h
  · have := hu.lit_inv; subst this
    cases op <;> simp only at h ⊢ <;> first | exact h.elim | skip
    exact ⟨_, by simp [Op.unary], .lit _⟩
  · have := hu.lit_inv; subst this
    cases op <;> simp only at h ⊢ <;> first | exact h.elim | skip
    · exact ⟨_, by simp [Op.unary, Op.intArith], .lit _⟩
    · exact ⟨_, by simp [Op.unary, Op.intBits, ibit], .lit _⟩
  · exact h.elim

theorem rep_pick {c a b : AV} {u v z : Value} (hc : Rep w I u c) (ha : Rep w I v a) (hb : Rep w I z b) (h : (picka c a b).1) :
    ∃ t, u = .bool t ∧ Rep w I (if t then v else z) (picka c a b).2 := by
  unfold picka at h ⊢
  split at h
  · rename_i t
    refine ⟨t, hc.lit_inv, ?_⟩
    unfold pickv at h ⊢
    split at h
    · have := hb.lit_inv; subst this
      cases t
      · exact .lit _
      · have := (ha.gd_true (h rfl)).lit_inv; subst this; exact .lit _
    · have := ha.lit_inv; subst this
      cases t
      · have := (hb.gd_true (h rfl)).lit_inv; subst this; exact .lit _
      · exact .lit _
    · have := hb.lit_inv; have := ha.lit_inv; subst_vars
      cases t <;> exact .lit _
    · unfold pickw at h ⊢
      split at h
      · exact ha
      · exact hb
      · exact h.elim
  · exact h.elim
end
end Go.Proofs.Ytbnkmhlnoaebcaa
