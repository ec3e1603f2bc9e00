/-
  The walks and the laws that the statement leans on, part 6.
-/
import Derived.Laws.IdiomStrings
import Derived.Laws.RangeString
import Derived.Test.YtdkkfgcdnojmaaaDoorS5
namespace Go.Proofs.YtdkkfgcdnojmaaaDoor
open Go
set_option linter.unusedSimpArgs false
set_option linter.unusedVariables false
def hdel : Hp → Nat → Hp
  | [], _ => []
  | (b', m) :: r, b => if b = b' then r else (b', m) :: hdel r b
def newB (H : Hp) (m : MB) (K : Nat → Hp → Prop) : Prop := Nu fun b => Fr (fresh H b) (K b ((b, m) :: H))
def mthOf (P : Program) (t : TypeId) (name : String) : Option FuncId :=
  match (P.info? t).bind fun i => i.methods.find? (·.name == name) with
  | some m => if m.path.isEmpty then match m.func, P.underlying t with
      | some (f, true), some (.pointer _) => some f
      | some (_, false), some (.pointer _) => none
      | some (f, false), some _ => some f
      | _, _ => none
    else none
  | none => none
theorem run_method {P : Program} {t : TypeId} {name : String} {f : FuncId} (h : mthOf P t name = some f) (v : Value) (w : World) (k : Nat) : (method (k + 1) t v name).run P w = .ok (f, v) w := by
  unfold mthOf at h
  split at h
  · rename_i m hm
    split at h
    · rename_i hp
      cases hi : P.info? t with
      | none => rw [hi] at hm; cases hm
      | some i =>
        rw [hi] at hm
        have hm : i.methods.find? (·.name == name) = some m := hm
        have hpe : m.path.toList = [] := by have := hp; simp at this; simp [this]
        have hin : (typeInfo t).run P w = .ok i w := by simp [typeInfo, program, Sem.run, hi]
        unfold method
        simp only [Sem.run_bind, hin, Result.andThen_ok, hm, hpe, follow, Sem.run_pure]
        cases hf : m.func with
        | none => rw [hf] at h; simp at h
        | some q =>
          obtain ⟨f', pr⟩ := q
          cases hd : P.underlying t with
          | none => rw [hf, hd] at h; cases pr <;> simp at h
          | some d =>
            rw [hf, hd] at h
            cases d <;> cases pr <;> first | (simp at h; done) | (simp at h; subst h; simp [receiverAt, run_underlying hd, Place.get])
    · cases h
  · cases h
theorem app1_get? (v : Value) (as : Array Value) (i : Nat) : (#[v] ++ as)[i]? = if i = 0 then some v else as[i - 1]? := by
  rw [Array.getElem?_append]
  cases i with
  | zero => simp
  | succ i => simp
theorem run_invoke {P : Program} {t : TypeId} {name : String} {f : FuncId} (h : mthOf P t name = some f) (v : Value) (as : Array Value) (w : World) :
    (invoke (.fn (.method name) #[]) (#[.iface t v] ++ as)).run P w = (callFunc f (#[v] ++ as)).run P w := by
  have e : (#[Value.iface t v] ++ as).extract 1 (#[Value.iface t v] ++ as).size = as := by
    apply Array.ext'
    simp
  have e0 : (#[Value.iface t v] ++ as)[0]? = some (Value.iface t v) := by rw [app1_get?]; rfl
  have hd0 : 0 < Made.depth := by decide
  obtain ⟨k, hk⟩ : ∃ k, P.types.size + Made.depth = k + 1 := ⟨P.types.size + Made.depth - 1, by omega⟩
  have hm := run_method h v w k
  have hp : (program).run P w = .ok P w := rfl
  simp only [invoke, e0, e, callMethod, Sem.run_bind, hp, Result.andThen_ok, hk, hm]
def mkc (P : Program) (T : TypeId) : Option (TypeId × Nat × Nat × List AV) :=
  match P.underlying T with
  | some (.slice e) => match P.info? e with
    | some i => match i.zero with
      | some z => if z.cells.size = i.size ∧ 0 < i.size then some (e, i.size, i.bytes, z.cells.toList.map .lit) else none
      | _ => none
    | none => none
  | _ => none
def repA (l : Nat) (zc : List AV) : List AV := (List.replicate l zc).flatten
theorem repA_one (l : Nat) (x : AV) : repA l [x] = List.replicate l x := by
  unfold repA
  induction l with
  | zero => rfl
  | succ l ih => simp only [List.replicate_succ, List.flatten_cons, ih]; rfl
theorem repA_len (l : Nat) (zc : List AV) : (repA l zc).length = l * zc.length := by
  unfold repA
  induction l with
  | zero => simp
  | succ l ih => simp only [List.replicate_succ, List.flatten_cons, List.length_append, ih, Nat.succ_mul]; omega
theorem repA_get (zc : List AV) (h : 0 < zc.length) : ∀ (l j : Nat) (hj : j < (repA l zc).length), (repA l zc)[j] = zc[j % zc.length]'(Nat.mod_lt _ h)
  | 0, j, hj => by simp [repA] at hj
  | l + 1, j, hj => by
    have e : repA (l + 1) zc = zc ++ repA l zc := by simp [repA, List.replicate_succ]
    simp only [e]
    by_cases hlt : j < zc.length
    · rw [List.getElem_append_left hlt]
      congr 1
      exact (Nat.mod_eq_of_lt hlt).symm
    · rw [List.getElem_append_right (by omega), repA_get zc h l (j - zc.length) (by rw [repA_len] at hj ⊢; rw [Nat.succ_mul] at hj; omega)]
      congr 1
      rw [Nat.mod_eq_sub_mod (a := j) (by omega)]
def usB (P : Program) (T ty : TypeId) : Bool := match P.underlying T with
  | some (.pointer e) => e == ty && P.cellsOf e == 1
  | _ => false
theorem run_loadBytes_zs {P : Program} {w : World} : ∀ (l : List Int) (b off : Nat) (acc : ByteArray), (∀ j, j < l.length → w.cell? ⟨b, off + j, none⟩ = some (.int .u8 (l.getD j 0))) →
    (loadBytes ⟨b, off, none⟩ acc l.length).run P w = .ok ⟨acc.data ++ (l.map fun n => UInt8.ofNat n.toNat).toArray⟩ w
  | [], b, off, acc, _ => by simp [loadBytes]
  | x :: l, b, off, acc, h => by
    have h0 : w.cell? ⟨b, off, none⟩ = some (.int .u8 x) := by
      have := h 0 (by simp)
      simpa using this
    have ih := run_loadBytes_zs (P := P) (w := w) l b (off + 1) (acc.push x.toNat.toUInt8) (fun j hj => by
      have := h (j + 1) (by simpa using hj)
      rw [show off + 1 + j = off + (j + 1) by omega, this]
      simp)
    have e : (⟨b, off, none⟩ : Addr).add 1 = ⟨b, off + 1, none⟩ := by unfold Addr.add; simp
    simp only [List.length_cons, loadBytes, Sem.run_bind, run_load, h0, Result.andThen]
    rw [e, ih]
    simp [ByteArray.push]
theorem run_unsafeString_zs {P : Program} {w : World} (pt it ty e : TypeId) (hp : P.underlying pt = some (.pointer e)) (hc : P.cellsOf e = 1) (g cells : Nat) (hsh : w.shape? g = some (e, cells)) (l : List Int) (h0 : 0 < l.length) (hn : l.length ≤ cells) (h63 : l.length ≤ 9223372036854775807)
    (hcell : ∀ j, j < l.length → w.cell? ⟨g, 0 + j, none⟩ = some (.int .u8 (l.getD j 0))) :
    (Builtin.unsafeString_ #[pt, it] ty #[.pointer (some ⟨g, 0, none⟩), .int .i64 l.length]).run P w = .ok (.string (bstr l)) (w.freeze ⟨g, 0, none⟩ l.length) := by
  have hl : l.length ≠ 0 := by omega
  have hlb := run_loadBytes_zs (P := P) (w := w) l g 0 .empty hcell
  have hlies := Lib.liesAt_bytes (P := P) hc (cells / P.cellsOf e) l.length (by rw [hc]; simpa using hn)
  have h63' : ¬ (9223372036854775807 : Int) < (l.length : Int) := by omega
  have hdef : Builtin.unsafeString_ #[pt, it] ty #[.pointer (some ⟨g, 0, none⟩), .int .i64 l.length] =
      (do
        let n ← asInt (.int .i64 l.length)
        if n < 0 then runtimePanic (.error "unsafe.String: len out of range")
        if n > IntKind.i64.max then unsupported (.unsafePointer "String: a length above the largest int")
        if n = 0 then pure (.string .empty)
        else if ← variablesAt ⟨g, 0, none⟩ (← elemOf pt) n.toNat then do
          let s ← loadBytes ⟨g, 0, none⟩ .empty n.toNat
          freeze ⟨g, 0, none⟩ n.toNat
          pure (.string s)
        else unsupported (.unsafePointer "String: not so many bytes at ptr")) := rfl
  rw [hdef]
  have hmax : IntKind.i64.max = 9223372036854775807 := rfl
  have hneg : ¬ (l.length : Int) < 0 := by omega
  have hb : (⟨(ByteArray.empty).data ++ (l.map fun n => UInt8.ofNat n.toNat).toArray⟩ : ByteArray) = bstr l := by
    unfold bstr
    apply ByteArray.ext
    simp [ByteArray.empty, ByteArray.emptyWithCapacity]
    try rfl
  rw [hb] at hlb
  simp [asInt, asIntOf, hmax, h63', hneg, hl, variablesAt, hsh, elemOf, run_underlying hp, hlies, hlb]
def capA : List Value → List AV
  | [] => []
  | v :: r => .lit v :: capA r
def appA : List AV → List AV → List AV
  | [], l => l
  | x :: r, l => x :: appA r l
theorem capA_eq (l : List Value) : capA l = l.map AV.lit := by
  induction l with
  | nil => rfl
  | cons v r ih => simp [capA, ih]
theorem appA_eq (a l : List AV) : appA a l = a ++ l := by
  induction a with
  | nil => rfl
  | cons v r ih => simp [appA, ih]
def eff (P : Program) (o : Oper) (K : St → Prop) (s : St) : Prop :=
  match o.op with
  | .alloc T => match zmb P T with
    | some m => newB s.H m fun b H => K ⟨(s.put o.dst (pt b 0)).env, H⟩
    | none => False
  | .box T x => (og s.env x).1 ∧ match cellsA (og s.env x).2 with
    | some cs => newB s.H (.cells cs cs.length T) fun b H => K ⟨(s.put o.dst (pt b 0)).env, H⟩
    | none => False
  | .buildSlice T len parts => match apT P T with
    | some (e, sz, _) => (ogp s.env parts.toList).1 ∧ len * sz ≤ 16777216 ∧ match fillA (plN sz len 0) (List.replicate (len * sz) .any) (ogp s.env parts.toList).2 with
      | some cs => newB s.H (rowMB (elk P T) cs (len * sz) e) fun b H => K ⟨(s.put o.dst (ms b 0 len len)).env, H⟩
      | none => False
    | none => False
  | .store T a x => match (og s.env a).2 with
    | .lit (.pointer (some ⟨b, off, none⟩)) => match hget s.H b with
      | some m => (og s.env a).1 ∧ (og s.env x).1 ∧ (stC P T m off (og s.env x).2).1 ∧ K ⟨(s.put o.dst (.lit undef)).env, hset s.H b (stC P T m off (og s.env x).2).2⟩
      | none => False
    | _ => False
  | .convert src dst x => match (og s.env x).2 with
    | .lit (.string bs) => (og s.env x).1 ∧ P.underlying src = some .string ∧ bs.size ≤ maxLen ∧ (∃ e, P.underlying dst = some (.slice e) ∧ P.underlying e = some (.int .u8)) ∧
        K ⟨(s.put o.dst (.slz .u8 (bs.data.toList.map fun b => (b.toNat : Int)))).env, s.H⟩
    | .lit (.slice (some ⟨b, off, none⟩) n cap) => (og s.env x).1 ∧ src = dst ∧ (∃ e, P.underlying dst = some (.slice e) ∧ P.underlying e = some (.int .u8)) ∧ match hget s.H b with
      | some (.zs k zs _ _) => off + n ≤ zs.length ∧ n ≤ cap ∧ cap ≤ maxLen ∧ K ⟨(s.put o.dst (.slz k ((zs.drop off).take n))).env, hdel s.H b⟩
      | _ => False
    | _ => False
  | .makeSlice T x y => match mkz P T, (og s.env x).2, (og s.env y).2 with
    | some (e, bytes, k), .lit (.int _ l), .lit (.int _ c) => (og s.env x).1 ∧ (og s.env y).1 ∧ 0 ≤ l ∧ l ≤ c ∧ (bytes : Int) * c ≤ 281474976710656 ∧ c ≤ 9223372036854775807 ∧
        newB s.H (.zs k (List.replicate l.toNat 0) c.toNat e) fun b H => K ⟨(s.put o.dst (ms b 0 l.toNat c.toNat)).env, H⟩
    | none, .lit (.int _ l), .lit (.int _ c) => match mkc P T with
      | some (e, sz, bytes, zc) => (og s.env x).1 ∧ (og s.env y).1 ∧ 0 ≤ l ∧ l ≤ c ∧ (bytes : Int) * c ≤ 281474976710656 ∧ c ≤ 9223372036854775807 ∧
          newB s.H (.cells (repA l.toNat zc) (c.toNat * sz) e) fun b H => K ⟨(s.put o.dst (ms b 0 l.toNat c.toNat)).env, H⟩
      | none => False
    | _, _, _ => False
  | .call c => match c.callee with
    | .value (.func f) => (ogs s.env c.args.toList).1 ∧ CallV P f (ogs s.env c.args.toList).2 s.H fun r H => K ⟨(s.put o.dst r).env, H⟩
    | .builtin .append => match c.argTypes.toList, (ogs s.env c.args.toList).2 with
      | [T, u], [d, x] => (ogs s.env c.args.toList).1 ∧ appE P s.H T u d x fun r H => K ⟨(s.put o.dst r).env, H⟩
      | _, _ => False
    | .builtin .clear => match c.argTypes.toList, (ogs s.env c.args.toList).2 with
      | [T], [.lit (.slice (some ⟨b, off, none⟩) n _)] => match mkc P T, hget s.H b with
        | some q, some m => (ogs s.env c.args.toList).1 ∧ 0 < n ∧ (stL m off (repA n q.2.2.2)).1 ∧ K ⟨(s.put o.dst (.tup [])).env, hset s.H b (stL m off (repA n q.2.2.2)).2⟩
        | _, _ => False
      | _, _ => False
    | .builtin .copy => match c.argTypes.toList, (ogs s.env c.args.toList).2 with
      | [T, u], [.lit (.slice (some ⟨b, off, none⟩) n _), x] => match apT P T, hget s.H b with
        | some q, some m => (ogs s.env c.args.toList).1 ∧ (srcC s.H q.2.1 x).1 ∧ (srcC s.H q.2.1 x).2.1 ≤ n ∧ (stL m off (srcC s.H q.2.1 x).2.2).1 ∧
            K ⟨(s.put o.dst (iv .i64 ((srcC s.H q.2.1 x).2.1 : Int))).env, hset s.H b (stL m off (srcC s.H q.2.1 x).2.2).2⟩
        | _, _ => False
      | _, _ => False
    | .builtin .unsafeString => match c.argTypes.toList, (ogs s.env c.args.toList).2 with
      | [T, _], [.lit (.pointer (some ⟨b, 0, none⟩)), .lit (.int .i64 l)] => match hget s.H b with
        | some (.zs .u8 zs _ ty) => (ogs s.env c.args.toList).1 ∧ usB P T ty = true ∧ 0 < l ∧ l ≤ (zs.length : Int) ∧ l ≤ 9223372036854775807 ∧
            K ⟨(s.put o.dst (.lit (.string (bstr (zs.take l.toNat))))).env, hdel s.H b⟩
        | _ => False
      | _, _ => False
    | .invoke rc m => match (og s.env rc).2 with
      | .ifc t x => match mthOf P t m with
        | some f => (og s.env rc).1 ∧ (ogs s.env c.args.toList).1 ∧ CallV P f (x :: (ogs s.env c.args.toList).2) s.H fun r H => K ⟨(s.put o.dst r).env, H⟩
        | none => False
      | _ => False
    | .builtin .len => match c.argTypes.toList, (ogs s.env c.args.toList).2 with
      | [T], [.lit (.map (some r))] => match hget s.H r with
        | some (.obj (.map es _)) => (ogs s.env c.args.toList).1 ∧ (∃ k e, P.underlying T = some (.map k e)) ∧ K ⟨(s.put o.dst (iv .i64 (es.size : Int))).env, s.H⟩
        | _ => False
      | _, _ => False
    | .value x => match (og s.env x).2 with
      | .lit (.func (.func f) fi ca) => (og s.env x).1 ∧ (ogs s.env c.args.toList).1 ∧ CallV P f (appA (capA fi.toList) (appA (ogs s.env c.args.toList).2 (capA ca.toList))) s.H fun r H => K ⟨(s.put o.dst r).env, H⟩
      | _ => False
    | _ => False
  | .makeMap T none => newB s.H (.obj (.map #[] 0)) fun b H => K ⟨(s.put o.dst (.lit (.map (some b)))).env, H⟩
  | .range T x => match (og s.env x).2 with
    | .lit (.string bs) => (og s.env x).1 ∧ P.underlying T = some .string ∧ newB s.H (.obj (.stringIter bs 0)) fun b H => K ⟨(s.put o.dst (pt b 0)).env, H⟩
    | _ => False
  | .next it true => match (og s.env it).2 with
    | .lit (.pointer (some ⟨b, 0, none⟩)) => match hget s.H b with
      | some (.obj (.stringIter bs pos)) => (og s.env it).1 ∧ Two (Cs (pos < bs.size) (K ⟨(s.put o.dst (.tup [bv true, iv .i64 (pos : Int), iv .i32 ((Utf8.decode bs pos).1 : Int)])).env, hset s.H b (.obj (.stringIter bs (pos + (Utf8.decode bs pos).2)))⟩))
          (Cs (bs.size ≤ pos) (K ⟨(s.put o.dst (.tup [bv false])).env, s.H⟩))
      | _ => False
    | _ => False
  | _ => False
def calleeOf (P : Program) (env : List (Nat × AV)) : Op → Option (Prop × FuncId × List AV)
  | .call c => match c.callee with
    | .value (.func f) => some ((ogs env c.args.toList).1, f, (ogs env c.args.toList).2)
    | .invoke rc m => match (og env rc).2 with
      | .ifc t y => match mthOf P t m with
        | some f => some ((og env rc).1 ∧ (ogs env c.args.toList).1, f, y :: (ogs env c.args.toList).2)
        | none => none
      | _ => none
    | _ => none
  | _ => none
def ExF (P : Program) (f : FuncId) (args : List AV) (H : Hp) (K : AV → Prop) (d : Hd K := .mk) : Prop := ∃ x, DCt P f args H x ∧ K x
theorem ExF.mk {P : Program} {f : FuncId} {args : List AV} {H : Hp} {K : AV → Prop} {x : AV} (h : ACt P f args [] (Fn x)) (hk : K x) : ExF P f args H K := ⟨x, .fn h, hk⟩
theorem ExF.on {P : Program} {f : FuncId} {args : List AV} {H : Hp} {K : AV → Prop} {x : AV} (h : DCt P f args H x) (hk : K x) : ExF P f args H K := ⟨x, h, hk⟩
def ExG (c : Bool) (P : Program) (f : FuncId) (args : List AV) (H : Hp) (K : AV → Prop) (d : Hd K := .mk) : Prop := ∃ x, (c = true → DCt P f args H x) ∧ K x
theorem ExG.mk {c : Bool} {P : Program} {f : FuncId} {args : List AV} {H : Hp} {K : AV → Prop} {x : AV} (h : c = true → ACt P f args [] (Fn x)) (hk : K x) : ExG c P f args H K := ⟨x, fun hc => .fn (h hc), hk⟩
theorem ExG.on {c : Bool} {P : Program} {f : FuncId} {args : List AV} {H : Hp} {K : AV → Prop} {x : AV} (h : c = true → DCt P f args H x) (hk : K x) : ExG c P f args H K := ⟨x, h, hk⟩
def Rt (p : Prop) (d : Hd p := .mk) : Prop := p
theorem Rt.mk {p : Prop} (h : p) : Rt p := h
def gcall (P : Program) (o : Oper) (c : Bool) (K : St → Prop) (s : St) : Prop :=
  match calleeOf P s.env o.op with
  | some q => (c = true → q.1) ∧ ExG c P q.2.1 q.2.2 s.H fun x => K (s.put o.dst (.gd c x))
  | none => False
def stp (P : Program) (ops : Array Oper) (o : Oper) (K : St → Prop) (s : St) : Prop :=
  match o.guard with
  | none => match pev P s.H s.env o.op with
    | some r => r.1 ∧ K (s.put o.dst r.2)
    | none => eff P o K s
  | some (j, want) => match gdOf s.env ops j want with
    | some c => match pev P s.H s.env o.op with
      | some r => (c = true → r.1) ∧ K (s.put o.dst (.gd c r.2))
      | none => gcall P o c K s ∨ Rt ((c = true → eff P o K s) ∧ (c = false → K (s.put o.dst (.lit undef))))
    | none => False
def rvc (P : Program) (n : Nat) (ops : Array Oper) : List Oper → (St → Prop) → St → Prop
  | [], K, s => K s
  | o :: rest, K, s => okd n o.dst ∧ stp P ops o (rvc P n ops rest K) s
section
variable {P : Program} {cx : Cx} {n : Nat} {K : St → Prop} {s : St} {o : Oper}
theorem put_H {d : Option Tmp} {x : AV} {H : Hp} (s : St) : (⟨(s.put d x).env, H⟩ : St) = ({ s with H := H } : St).put d x := by
  cases d <;> rfl
theorem rowMB_ok {w : World} {I : Nat → Prop} {b sz : Nat} {k : Option IntKind} {cs : List AV} {ty : TypeId} (h : MOk w I b (.cells cs sz ty)) : MOk w I b (rowMB k cs sz ty) := by
  unfold rowMB
  split
  · split
    · rename_i zs hz
      have := intsA_spec hz
      subst this
      exact h.to_zs
    · exact h
  · exact h
theorem plN_get (sz : Nat) : ∀ (len k i : Nat) (p : Nat × Nat), (plN sz len k)[i]? = some p → p = ((k + i) * sz, sz)
  | 0, _, _, _, h => by simp [plN] at h
  | n + 1, k, 0, p, h => by simp [plN] at h; rw [← h]; simp
  | n + 1, k, i + 1, p, h => by
    have := plN_get sz n (k + 1) i p (by simpa [plN] using h)
    rw [this, show k + 1 + i = k + (i + 1) by omega]
theorem run_alloc_of {T : TypeId} {z : Value} {w : World} (h : (zeroValue T).run P w = .ok z w) :
    (Instr.alloc T true (.tuple #[])).run P w = .ok (.pointer (some ⟨w.heap.size, 0, none⟩)) (w.alloc (.cells z.cells T)) := by
  simp [Instr.alloc, h, newVar, newRow]
theorem OpS.of_run {x : AV} {s1 : St} (hd : okd n o.dst)
    (h : ∀ a w, Ok cx n s a w → ∃ v w', (execOp a.eval o).run P w = .ok (.value v) w' ∧ ∃ s1, Ok cx n s1 a w' ∧ ∃ x, Rep w' (imm cx w' s1.H) v x ∧ K (s1.put o.dst x)) : OpS P cx n o K s := by
  intro X R hX a w ok
  obtain ⟨v, w', hr, s1, ok1, x, hx, hk⟩ := h a w ok
  unfold Oper.wp
  rw [hr]
  exact hX _ _ _ hk (ok1.put hd hx)
theorem hdel_mem {b : Nat} : ∀ {H : Hp}, (H.map (·.1)).Nodup → ∀ x ∈ hdel H b, x ∈ H ∧ x.1 ≠ b
  | [], _, x, hx => by cases hx
  | (b', m) :: r, hn, x, hx => by
    simp only [List.map_cons, List.nodup_cons] at hn
    simp only [hdel] at hx
    split at hx
    · rename_i he
      subst he
      exact ⟨List.mem_cons_of_mem _ hx, fun he => hn.1 (List.mem_map.2 ⟨x, hx, he⟩)⟩
    · rename_i he
      rcases List.mem_cons.1 hx with rfl | hx
      · exact ⟨List.mem_cons_self .., fun h => he h.symm⟩
      · have := hdel_mem hn.2 x hx
        exact ⟨List.mem_cons_of_mem _ this.1, this.2⟩
theorem hdel_nodup {b : Nat} : ∀ {H : Hp}, (H.map (·.1)).Nodup → ((hdel H b).map (·.1)).Nodup
  | [], _ => by simp [hdel]
  | (b', m) :: r, hn => by
    have hn0 := hn
    simp only [List.map_cons, List.nodup_cons] at hn
    simp only [hdel]
    split
    · exact hn.2
    · rw [List.map_cons, List.nodup_cons]
      refine ⟨fun hm => ?_, hdel_nodup hn.2⟩
      obtain ⟨x, hx, he⟩ := List.mem_map.1 hm
      exact hn.1 (List.mem_map.2 ⟨x, (hdel_mem hn.2 x hx).1, he⟩)
theorem OkW.lose {H : Hp} {w w' : World} {b : Nat} {m : MB} (h : OkW cx H w) (hb : (b, m) ∈ H) (hsz : w'.heap.size = w.heap.size) (ho : w'.os = w.os) (ht : w'.tape = w.tape) (hp : w'.output = w.output)
    (hold : ∀ k, k ≠ b → w'.heap[k]? = w.heap[k]?) (hnr : isRo m = false := by rfl) : OkW cx (hdel H b) w' ∧ (∀ k, imm cx w H k → imm cx w' (hdel H b) k ∧ w'.heap[k]? = w.heap[k]?) ∧ imm cx w' (hdel H b) b := by
  have hI : ∀ k, imm cx w H k → imm cx w' (hdel H b) k ∧ w'.heap[k]? = w.heap[k]? := by
    intro k hk
    have hkey := imm_key h.keys h.ro hk
    refine ⟨?_, hold k fun he => hkey (b, m) hb hnr he.symm⟩
    rcases hk with hk | ⟨h1, h2, h3⟩
    · exact .inl hk
    · exact .inr ⟨h1, by omega, fun x hx => h3 x (hdel_mem h.nodup x hx).1⟩
  refine ⟨⟨hdel_nodup h.nodup, fun x hx => h.keys x (hdel_mem h.nodup x hx).1, fun x hx => ?_, ?_, fun x hx => h.ro x (hdel_mem h.nodup x hx).1⟩, hI, ?_⟩
  · exact (h.mem x (hdel_mem h.nodup x hx).1).mono hI (hold _ (hdel_mem h.nodup x hx).2)
  · refine ⟨ho.trans h.ext.os, ht.trans h.ext.tape, hp.trans h.ext.output, by have := h.ext.size; omega, fun k hk hK => ?_⟩
    rw [hold k fun he => ?_]
    · exact h.ext.blk k hk hK
    · subst he
      rcases h.keys (k, m) hb with h1 | h1
      · rcases hK with hK | hK
        · exact hK h1
        · have := h.ro (k, m) hb hK
          simp only [hnr] at this; cases this
      · simp only at h1; omega
  · refine .inr ⟨h.keys (b, m) hb, ?_, fun x hx => (hdel_mem h.nodup x hx).2⟩
    have := keys_lt h (b, m) hb
    simp only at this
    omega
theorem eff_sound (hd : okd n o.dst) (h : eff P o K s) : OpS P cx n o K s := by
  obtain ⟨dst, op, type, pos, after, guard⟩ := o
  unfold eff at h
  simp only at h hd
  split at h
  · -- alloc
    rename_i T
    split at h
    · rename_i m hm
      refine OpS.of_run (x := .any) (s1 := s) hd fun a w ok => ?_
      obtain ⟨z, hz', hmok⟩ := zmb_spec (w := w) hm
      refine ⟨_, _, by simp only [execOp, Sem.run_bind, run_alloc_of hz', Result.andThen_ok, Sem.run_pure]; rfl, ?_⟩
      obtain ⟨ok1, hf⟩ := ok.push (w' := w.alloc (.cells z.cells T)) (ob := .cells z.cells T) (m := m) rfl rfl rfl rfl (hmok _ _ _ (by rw [heap_alloc]; exact Array.getElem?_push_size))
      refine ⟨_, ok1, _, .lit _, ?_⟩
      have := (h.out w.heap.size).out hf
      simp only [put_H] at this
      exact this
    · exact h.elim
  · -- box
    rename_i T x
    obtain ⟨hob, h⟩ := h
    split at h
    · rename_i cs hcs
      refine OpS.of_run (x := .any) (s1 := s) hd fun a w ok => ?_
      have hc := rep_cells (ok.og hob) hcs
      refine ⟨.pointer (some ⟨w.heap.size, 0, none⟩), w.alloc (.cells (a.eval x).cells T), by simp [execOp, Instr.box, newVar, newRow], ?_⟩
      have hI := imm_push (m := .cells cs cs.length T) ok.world (heap_alloc w (.cells (a.eval x).cells T))
      obtain ⟨ok1, hf⟩ := ok.push (w' := w.alloc (.cells (a.eval x).cells T)) (ob := .cells (a.eval x).cells T) (m := .cells cs cs.length T) rfl rfl rfl rfl
        (MOk.new (by rw [heap_alloc]; exact Array.getElem?_push_size) ⟨hc.1, fun i hi => (hc.2 i hi).mono hI⟩)
      refine ⟨_, ok1, _, .lit _, ?_⟩
      have := (h.out w.heap.size).out hf
      simp only [put_H] at this
      exact this
    · exact h.elim
  · -- buildSlice
    rename_i T len parts
    split at h
    · rename_i e sz bytes hT
      obtain ⟨hob, hlen, h⟩ := h
      split at h
      · rename_i cs hcs
        refine OpS.of_run (x := .any) (s1 := s) hd fun a w ok => ?_
        unfold apT at hT
        split at hT
        case h_2 => cases hT
        rename_i e' ht
        split at hT
        case h_2 => cases hT
        rename_i i hi
        split at hT
        case h_2 => cases hT
        rename_i z hz
        split at hT
        case isFalse => cases hT
        rename_i hzs
        cases hT
        have hl : ((parts.map fun (p : Nat × Operand) => (p.1, a.eval p.2)).toList.map (·.2)) = parts.toList.map fun p => a.eval p.2 := by simp
        have hany : ∀ (cells : Array Value), cells.size = len * i.size → RepL w (imm cx w s.H) cells (List.replicate (len * i.size) .any) := by
          intro cells hc
          refine ⟨by simp [hc], fun j hj => ?_⟩
          simp only [List.getElem_replicate]
          exact .any _
        have key : ∃ r, (Instr.buildSlice T len (parts.map fun (p : Nat × Operand) => (p.1, a.eval p.2))).run P w = .ok (.slice (some ⟨w.heap.size, 0, none⟩) len len) (w.alloc (.cells r e)) ∧ RepL w (imm cx w s.H) r cs := by
          have hfill : ∀ cells : Array Value, cells.size = len * i.size → ∃ r, Instr.fill (fun k => some (k * i.size, i.size)) cells (parts.map fun (p : Nat × Operand) => (p.1, a.eval p.2)).toList = some r ∧ RepL w (imm cx w s.H) r cs :=
            fun cells hc => rep_fill (fun j p hp => by have := plN_get _ _ _ _ _ hp; simp at this; rw [this]) _ (ogp s.env parts.toList).2 cells _ cs (by rw [ogp_keys]; simp)
              (fun j hj => by rw [hl]; exact ok.ogp hob j hj) (hany cells hc) hcs
          have hlen' : ¬ (len * i.size > 2 ^ 24) := by have : len * i.size ≤ 16777216 := hlen; omega
          by_cases h0 : len * i.size = 0
          · obtain ⟨r, h1, h2⟩ := hfill ((Array.range (len * i.size)).map ((#[] : Array Value)[· % (#[] : Array Value).size]!)) (by simp)
            refine ⟨r, ?_, h2⟩
            simp only [Instr.buildSlice, Sem.run_bind, run_underlying ht, Result.andThen_ok, run_sizeOf_info hi, if_neg hlen', if_pos h0, Sem.run_pure, h1]
            simp [newRow]
          · obtain ⟨r, h1, h2⟩ := hfill ((Array.range (len * i.size)).map (z.cells[· % z.cells.size]!)) (by simp)
            refine ⟨r, ?_, h2⟩
            have hzv : (zeroValue e).run P w = .ok z w := by simp [zeroValue, typeInfo, program, Sem.run, hi, hz]
            simp only [Instr.buildSlice, Sem.run_bind, run_underlying ht, Result.andThen_ok, run_sizeOf_info hi, if_neg hlen', if_neg h0, hzv, Sem.run_pure, h1]
            simp [newRow]
        obtain ⟨r, h1, h2⟩ := key
        have hsz : cs.length = len * i.size := by
          have : ∀ (l : List (Nat × AV)) (c out : List AV), fillA (plN i.size len 0) c l = some out → out.length = c.length := by
            intro l
            induction l with
            | nil => intro c out hf; simp only [fillA] at hf; cases hf; rfl
            | cons p r ih =>
              intro c out hf
              obtain ⟨j, v⟩ := p
              simp only [fillA] at hf
              split at hf
              · split at hf
                · rename_i hs
                  rw [ih _ _ hf]
                  simp
                  omega
                · cases hf
              · cases hf
          rw [this _ _ _ hcs]; simp
        refine ⟨_, _, by simp only [execOp, Sem.run_bind]; rw [h1]; rfl, ?_⟩
        have hI := imm_push (m := rowMB (elk P T) cs (len * i.size) e) ok.world (heap_alloc w (.cells r e))
        obtain ⟨ok1, hf⟩ := ok.push (w' := w.alloc (.cells r e)) (ob := .cells r e) (m := rowMB (elk P T) cs (len * i.size) e) rfl rfl rfl rfl
          (rowMB_ok (by rw [← hsz]; exact MOk.new (by rw [heap_alloc]; exact Array.getElem?_push_size) ⟨h2.1, fun i hi => (h2.2 i hi).mono (by rw [← hsz] at hI; exact hI)⟩))
        refine ⟨_, ok1, _, .lit _, ?_⟩
        have := (h.out w.heap.size).out hf
        simp only [put_H] at this
        exact this
      · exact h.elim
    · exact h.elim
  · -- store
    rename_i T ad x
    split at h
    · rename_i b off had
      split at h
      · rename_i m hm
        obtain ⟨ha, hx, hst, h⟩ := h
        intro X R hX a w ok
        have h1 := ok.og ha
        rw [had] at h1
        have h2 := h1.lit_inv
        obtain ⟨w', r1, r2, r3⟩ := run_store_of (P := P) ok.world hm (ok.og hx) hst
        unfold Oper.wp
        have hrun : (execOp a.eval ⟨dst, .store T ad x, type, pos, after, guard⟩).run P w = .ok .skip w' := by
          simp only [execOp, Sem.run_bind, h2, r1, Result.andThen_ok, Sem.run_pure]
        rw [hrun]
        rw [put_H] at h
        exact hX _ _ _ h ((ok.world_to r2 r3).put hd (.lit _))
      · exact h.elim
    · exact h.elim
  · -- a string's bytes
    rename_i src dst' x
    split at h
    · rename_i bs hbs
      obtain ⟨hob, hs, hsize, ⟨e, hdt, he⟩, h⟩ := h
      refine OpS.of_run (x := .any) (s1 := s) hd fun a w ok => ?_
      have h1 := ok.og hob
      rw [hbs] at h1
      have h2 := h1.lit_inv
      have hrun : ∃ cap w', (convert src dst' (.string bs)).run P w = .ok (.slice (some ⟨w.heap.size, 0, none⟩) bs.size cap) w' ∧ bs.size ≤ cap ∧ cap ≤ maxLen ∧ w'.os = w.os ∧ w'.tape = w.tape ∧ w'.output = w.output ∧
          w'.heap.size = w.heap.size + 1 ∧ (∀ k, k < w.heap.size → w'.heap[k]? = w.heap[k]?) ∧ ∃ cur fz, w'.heap[w.heap.size]? = some (.cells cur e fz) ∧ ∀ j, j < bs.size → cur[j]? = some (.int .u8 ((bs.data.toList.getD j 0).toNat : Int)) := by
        have hge := grownCap_ge w bs.size 0 e
        have hle := grownCap_le_maxLen w bs.size 0 e hsize
        refine ⟨_, _, run_bytes_of_string w src dst' e bs hs hdt he, hge, hle, rfl, rfl, rfl, by rw [heap_alloc]; simp, fun k hk => by rw [heap_alloc]; exact (Array.getElem?_push_lt hk).trans (Array.getElem?_eq_getElem hk).symm, _, _, by rw [heap_alloc]; exact Array.getElem?_push_size, fun j hj => ?_⟩
        have hj' : j < bs.data.size := hj
        rw [bytesRow_at bs _ j hj']
        simp only [List.getD, Array.getElem?_toList, Array.getElem?_eq_getElem hj', Option.getD_some]
      obtain ⟨cap, w', r1, r2, r3, r4, r5, r6, r7, r8, cur, fz, r9, r10⟩ := hrun
      refine ⟨_, _, by simp only [execOp, Sem.run_bind, h2]; rw [r1]; rfl, s, ?_, .slz .u8 (bs.data.toList.map fun b => (b.toNat : Int)), ?_, ?_⟩
      · have hI : ∀ b, imm cx w s.H b → imm cx w' s.H b ∧ w'.heap[b]? = w.heap[b]? := fun b hb => by
          have hlt := imm_lt ok.world.ext.size hb
          refine ⟨?_, r8 b hlt⟩
          rcases hb with hb | ⟨b1, b2, b3⟩
          · exact .inl hb
          · exact .inr ⟨b1, by omega, b3⟩
        refine ok.world_to (H' := s.H) ⟨ok.world.nodup, ok.world.keys, fun x hx => (ok.world.mem x hx).mono hI (r8 _ (keys_lt ok.world x hx)), ?_, ok.world.ro⟩ hI
        exact ⟨r4.trans ok.world.ext.os, r5.trans ok.world.ext.tape, r6.trans ok.world.ext.output, by have := ok.world.ext.size; omega, fun b hb hk => (r8 b (by have := ok.world.ext.size; omega)).trans (ok.world.ext.blk b hb hk)⟩
      · have hl : (bs.data.toList.map fun b => (b.toNat : Int)).length = bs.size := by simp
        rw [← hl]
        refine .slz _ _ _ _ (by rw [hl]; exact r2) r3 (.inr ⟨w.heap.size, 0, rfl, .inr ⟨.inr ok.world.ext.size, by omega, fun x hx => by have := keys_lt ok.world x hx; omega⟩, fun j hj => ?_⟩)
        rw [hl] at hj
        rw [Nat.zero_add, cell_of_block r9, r10 j hj]
        have hj' : j < bs.data.size := hj
        simp only [List.getD, List.getElem?_map, Array.getElem?_toList, Array.getElem?_eq_getElem hj', Option.map_some, Option.getD_some]
      · rw [put_H] at h
        exact h
    · rename_i b off n' cap hbs
      obtain ⟨hob, rfl, ⟨e, hdt, he⟩, h⟩ := h
      cases hg : hget s.H b with
      | none => rw [hg] at h; exact h.elim
      | some mb =>
        rw [hg] at h
        cases mb with
        | cells cs s0 ty => exact h.elim
        | obj ob => exact h.elim
        | ro k0 zs0 s00 ty0 => exact h.elim
        | zs k zs s0 ty =>
          obtain ⟨h1, h2, h3, hk⟩ := h
          refine OpS.of_run (x := .any) (s1 := s) hd fun a w ok => ?_
          have hv := ok.og hob
          rw [hbs] at hv
          have hv := hv.lit_inv
          obtain ⟨cur, c1, c2, c3, c4⟩ := ok.world.mem _ (hget_mem hg)
          simp only at c1
          have hrun : (convert src src (.slice (some ⟨b, off, none⟩) n' cap)).run P w = .ok (.slice (some ⟨b, off, none⟩) n' cap) (w.freeze ⟨b, cur.size, none⟩ 1) := by
            simp [convert, run_underlying hdt, run_underlying he, markStringish, World.shape?, c1, shape, freeze, Sem.run]
          have hw' : (w.freeze ⟨b, cur.size, none⟩ 1).heap = w.heap.modify b fun
              | .cells c elem (lo, hi) => .cells c elem (if lo == hi then (cur.size, cur.size + 1) else (min lo cur.size, max hi (cur.size + 1)))
              | o => o := rfl
          obtain ⟨hw, hI, hb⟩ := ok.world.lose (w' := w.freeze ⟨b, cur.size, none⟩ 1) (hget_mem hg) (by rw [hw']; simp) rfl rfl rfl (fun k hk => by rw [hw', Array.getElem?_modify]; rw [if_neg (fun h => hk h.symm)])
          refine ⟨_, _, by simp only [execOp, Sem.run_bind, hv]; rw [hrun]; rfl, { s with H := hdel s.H b }, ok.world_to hw hI, .slz k ((zs.drop off).take n'), ?_, ?_⟩
          · have hl : ((zs.drop off).take n').length = n' := by simp; omega
            have hr : Rep (w.freeze ⟨b, cur.size, none⟩ 1) (imm cx (w.freeze ⟨b, cur.size, none⟩ 1) (hdel s.H b)) (.slice (some ⟨b, off, none⟩) ((zs.drop off).take n').length cap) (.slz k ((zs.drop off).take n')) := by
              refine .slz _ _ _ _ (by omega) h3 (.inr ⟨b, off, rfl, hb, fun j hj => ?_⟩)
              have hj' : j < n' := by omega
              have hcell : (w.freeze ⟨b, cur.size, none⟩ 1).cell? ⟨b, off + j, none⟩ = cur[off + j]? := by
                have : (w.freeze ⟨b, cur.size, none⟩ 1).heap[b]? = some (.cells cur ty (cur.size, cur.size + 1)) := by
                  rw [hw', Array.getElem?_modify, if_pos rfl, c1]
                  rfl
                exact cell_of_block this
              rw [hcell, c4 _ (by omega)]
              have : off + j < zs.length := by omega
              simp [List.getD, hj']
            rw [hl] at hr
            exact hr
          · rw [put_H] at hk
            exact hk
    · exact h.elim
  · -- a new row of integers
    rename_i T x y
    split at h
    · rename_i e bytes k kl l kc c hT hx hy
      obtain ⟨hox, hoy, h0, hlc, hb, hc, h⟩ := h
      refine OpS.of_run (x := .any) (s1 := s) hd fun a w ok => ?_
      have ex : a.eval x = .int kl l := by
        have := ok.og hox
        rw [hx] at this
        exact this.lit_inv
      have ey : a.eval y = .int kc c := by
        have := ok.og hoy
        rw [hy] at this
        exact this.lit_inv
      unfold mkz at hT
      split at hT
      case h_2 => cases hT
      rename_i e' ht
      split at hT
      case h_2 => cases hT
      rename_i i hi
      split at hT
      case h_2 => cases hT
      rename_i k' hz
      split at hT
      case isFalse => cases hT
      rename_i hs
      cases hT
      have hr := run_make (P := P) w T e i (.int k 0) ht hi hz kl kc l c h0 hlc hb hc
      refine ⟨_, _, by simp only [execOp, ex, ey, Sem.run_bind, hr, Result.andThen_ok, Sem.run_pure]; rfl, ?_⟩
      obtain ⟨ok1, hf⟩ := ok.push (w' := w.alloc (.cells (madeCells (Value.int k 0).cells (c.toNat * i.size)) e)) (ob := .cells (madeCells (Value.int k 0).cells (c.toNat * i.size)) e) (m := .zs k (List.replicate l.toNat 0) c.toNat e) rfl rfl rfl rfl
        ⟨_, by rw [heap_alloc]; exact Array.getElem?_push_size, by rw [size_madeCells, hs, Nat.mul_one], by simp; omega, fun j hj => by
          simp only [List.length_replicate] at hj
          have hj2 : j < c.toNat := by omega
          simp [madeCells, hs, Value.cells, Nat.mod_one, hj, hj2, List.getD]⟩
      refine ⟨_, ok1, _, .lit _, ?_⟩
      have := (h.out w.heap.size).out hf
      simp only [put_H] at this
      exact this
    · rename_i kl l kc c hT0 hx hy
      split at h
      · rename_i e sz bytes zc hT
        obtain ⟨hox, hoy, h0, hlc, hb, hc, h⟩ := h
        refine OpS.of_run (x := .any) (s1 := s) hd fun a w ok => ?_
        have ex : a.eval x = .int kl l := by
          have := ok.og hox
          rw [hx] at this
          exact this.lit_inv
        have ey : a.eval y = .int kc c := by
          have := ok.og hoy
          rw [hy] at this
          exact this.lit_inv
        unfold mkc at hT
        split at hT
        case h_2 => cases hT
        rename_i e' ht
        split at hT
        case h_2 => cases hT
        rename_i i hi
        split at hT
        case h_2 => cases hT
        rename_i z hz
        split at hT
        case isFalse => cases hT
        rename_i hs
        obtain ⟨hs1, hs2⟩ := hs
        cases hT
        have hr := run_make (P := P) w T e i z ht hi hz kl kc l c h0 hlc hb hc
        refine ⟨_, _, by simp only [execOp, ex, ey, Sem.run_bind, hr, Result.andThen_ok, Sem.run_pure]; rfl, ?_⟩
        obtain ⟨ok1, hf⟩ := ok.push (w' := w.alloc (.cells (madeCells z.cells (c.toNat * i.size)) e)) (ob := .cells (madeCells z.cells (c.toNat * i.size)) e) (m := .cells (repA l.toNat (z.cells.toList.map .lit)) (c.toNat * i.size) e) rfl rfl rfl rfl
          ⟨_, by rw [heap_alloc]; exact Array.getElem?_push_size, by rw [size_madeCells], by rw [repA_len]; simp only [List.length_map, Array.length_toList, hs1]; exact Nat.mul_le_mul_right _ (by omega), fun j hj => by
            have hlen : (z.cells.toList.map AV.lit).length = i.size := by simp [hs1]
            have hj1 : j < l.toNat * i.size := by rw [repA_len, hlen] at hj; exact hj
            have hj2 : j < c.toNat * i.size := Nat.lt_of_lt_of_le hj1 (Nat.mul_le_mul_right _ (by omega))
            rw [repA_get _ (by rw [hlen]; exact hs2)]
            have hm : j % i.size < z.cells.size := by rw [hs1]; exact Nat.mod_lt _ hs2
            have e1 : (madeCells z.cells (c.toNat * i.size)).getD j undef = z.cells[j % i.size] := by
              simp [madeCells, hj2, hs1]
              exact getElem!_pos z.cells _ hm
            rw [e1]
            simp only [List.getElem_map, Array.getElem_toList, List.length_map, Array.length_toList, hs1]
            exact .lit _⟩
        refine ⟨_, ok1, _, .lit _, ?_⟩
        have := (h.out w.heap.size).out hf
        simp only [put_H] at this
        exact this
      · exact h.elim
    · exact h.elim
  · -- calls
    rename_i c
    obtain ⟨callee, args, ts⟩ := c
    simp only at h
    split at h
    · rename_i f
      obtain ⟨hob, h⟩ := h
      intro X R hX a w ok
      have hlen := ogs_length (env := s.env) args.toList
      have c2 := run_callV (n := n) (vs := args.map a.eval) ok h (by rw [hlen]; simp) (fun i hi => by
        have := ok.ogs hob i (by rw [hlen] at hi; exact hi)
        simpa [List.getD] using this)
      unfold Oper.wp
      have hrun : (execOp a.eval ⟨dst, .call ⟨.value (.func f), args, ts⟩, type, pos, after, guard⟩).run P w = (callFunc f (args.map a.eval)).run P w := by
        simp only [execOp, resolve, Act.eval, Deferred.ofValue, Sem.run_bind, Sem.run_pure, Result.andThen_ok, invoke, Array.append_empty, Array.empty_append]
        try simp
      refine c2.upon hrun ?_
      rintro e w' ⟨v, r, H', rfl, hk, ok', hr⟩
      rw [put_H] at hk
      exact ⟨_, rfl, hX _ _ _ hk (ok'.put hd hr)⟩
    · split at h
      · rename_i T u d x hts hargs
        obtain ⟨hob, h⟩ := h
        have hlen := ogs_length (env := s.env) args.toList
        rw [hargs] at hlen
        obtain ⟨args⟩ := args
        obtain ⟨ts⟩ := ts
        simp only at hts hargs hob hlen
        subst hts
        match args, hlen with
        | [y1, y2], _ =>
          refine OpS.of_run (x := .any) (s1 := s) hd fun a w ok => ?_
          have hv1 := ok.ogs hob 0 (by simp)
          have hv2 := ok.ogs hob 1 (by simp)
          rw [hargs] at hv1 hv2
          simp at hv1 hv2
          obtain ⟨v, x', H', w', r1, r2, r3, r4, r5, v', r6⟩ := run_appE (P := P) (ty := type) (a := a) ok.world hv1 hv2 h
          subst r6
          simp only at r5
          subst r5
          refine ⟨v, w', ?_, { s with H := H' }, ok.world_to r3 r4, .lit v, .lit _, ?_⟩
          · simp only [execOp, resolve, invoke, builtin, List.map_toArray, List.map_cons, List.map_nil, Sem.run_bind, Sem.run_pure, Result.andThen_ok]
            rw [r1]
            rfl
          · rw [put_H] at r2
            exact r2
      · exact h.elim
    · -- clear
      split at h
      · rename_i T b off nn cc hts hargs
        split at h
        · rename_i q m hT hg
          obtain ⟨hob, hn, hst, hk⟩ := h
          have hlen := ogs_length (env := s.env) args.toList
          rw [hargs] at hlen
          obtain ⟨args⟩ := args
          obtain ⟨ts⟩ := ts
          simp only at hts hargs hob hlen
          subst hts
          match args, hlen with
          | [y1], _ =>
            refine OpS.of_run (x := .any) (s1 := s) hd fun a w ok => ?_
            have hv1 := ok.ogs hob 0 (by simp)
            rw [hargs] at hv1
            simp at hv1
            have hv1 := hv1.lit_inv
            unfold mkc at hT
            split at hT
            case h_2 => cases hT
            rename_i e' ht
            split at hT
            case h_2 => cases hT
            rename_i i hi
            split at hT
            case h_2 => cases hT
            rename_i z hz
            split at hT
            case isFalse => cases hT
            rename_i hs
            obtain ⟨hs1, hs2⟩ := hs
            cases hT
            have hlz : (z.cells.toList.map AV.lit).length = i.size := by simp [hs1]
            have hzl : (Builtin.zeroCells z.cells nn).toList.length = (repA nn (z.cells.toList.map .lit)).length := by
              rw [repA_len, hlz]; simp [Builtin.zeroCells, hs1]
            obtain ⟨w', r1, r2, r3⟩ := run_storeL (P := P) (vs := (Builtin.zeroCells z.cells nn).toList) ok.world hg hzl (fun j hj => by
              rw [repA_get _ (by omega)]
              have hj1 : j < nn * z.cells.size := by rw [repA_len, hlz, ← hs1] at hj; exact hj
              have hm : j % z.cells.size < z.cells.size := Nat.mod_lt _ (by omega)
              have e1 : (Builtin.zeroCells z.cells nn).toList.getD j undef = z.cells[j % z.cells.size] := by
                simp [Builtin.zeroCells, hj1]
                exact getElem!_pos z.cells _ hm
              rw [e1]
              simp only [List.getElem_map, Array.getElem_toList, List.length_map, Array.length_toList]
              exact .lit _) hst
            refine ⟨.tuple #[], w', ?_, { s with H := hset s.H b (stL m off (repA nn (z.cells.toList.map .lit))).2 }, ok.world_to r2 r3, .tup [], .tup _ _ rfl (fun i hi => by simp at hi), ?_⟩
            · have hzv : (zeroValue e').run P w = .ok z w := by simp [zeroValue, typeInfo, program, Sem.run, hi, hz]
              have hn0 : nn ≠ 0 := by omega
              obtain ⟨n', rfl⟩ : ∃ n', nn = n' + 1 := ⟨nn - 1, by omega⟩
              simp only [execOp, resolve, invoke, builtin, List.map_toArray, List.map_cons, List.map_nil, Sem.run_bind, Sem.run_pure, Result.andThen_ok, hv1, Builtin.clear_, List.getElem?_toArray, List.getElem?_cons_zero, run_underlying ht, hzv, r1]
              try rfl
            · rw [put_H] at hk
              exact hk
        · exact h.elim
      · exact h.elim
    · -- copy
      split at h
      · rename_i T u b off nn cc x hts hargs
        split at h
        · rename_i q m hT hg
          obtain ⟨hob, hsrc, hle, hst, hk⟩ := h
          have hlen := ogs_length (env := s.env) args.toList
          rw [hargs] at hlen
          obtain ⟨args⟩ := args
          obtain ⟨ts⟩ := ts
          simp only at hts hargs hob hlen
          subst hts
          match args, hlen with
          | [y1, y2], _ =>
            refine OpS.of_run (x := .any) (s1 := s) hd fun a w ok => ?_
            have hv1 := ok.ogs hob 0 (by simp)
            have hv2 := ok.ogs hob 1 (by simp)
            rw [hargs] at hv1 hv2
            simp at hv1 hv2
            have hv1 := hv1.lit_inv
            unfold apT at hT
            split at hT
            case h_2 => cases hT
            rename_i e' ht
            split at hT
            case h_2 => cases hT
            rename_i i hi
            split at hT
            case h_2 => cases hT
            rename_i z hz
            split at hT
            case isFalse => cases hT
            rename_i hzs
            cases hT
            simp only at hsrc hle hst hk
            obtain ⟨news, hS, hl, hr⟩ := srcC_sound (P := P) (p := (srcC s.H i.size x).1) (m := (srcC s.H i.size x).2.1) (ds := (srcC s.H i.size x).2.2) ok.world hv2 rfl hsrc
            obtain ⟨w', r1, r2, r3⟩ := run_storeL (P := P) (vs := news) ok.world hg hl hr hst
            have hmin : Nat.min (srcC s.H i.size x).2.1 nn = (srcC s.H i.size x).2.1 := Nat.min_eq_left hle
            refine ⟨goInt (srcC s.H i.size x).2.1, w', ?_, { s with H := hset s.H b (stL m off (srcC s.H i.size x).2.2).2 }, ok.world_to r2 r3, iv .i64 ((srcC s.H i.size x).2.1 : Int), .lit _, ?_⟩
            · simp only [execOp, resolve, invoke, builtin, List.map_toArray, List.map_cons, List.map_nil, Sem.run_bind, Sem.run_pure, Result.andThen_ok, hv1, Builtin.copy_, List.getElem?_toArray, List.getElem?_cons_zero, List.getElem?_cons_succ, run_underlying ht, hS.len w, hmin, run_sizeOf_info hi, hS.first w rfl, r1]
              try rfl
            · rw [put_H] at hk
              exact hk
        · exact h.elim
      · exact h.elim
    · -- a text out of a row, which nobody writes from then on
      split at h
      · rename_i T u b l hts hargs
        split at h
        · rename_i zs s0 ty hg
          obtain ⟨hob, hus, hl0, hl1, hl2, hk⟩ := h
          have hlen := ogs_length (env := s.env) args.toList
          rw [hargs] at hlen
          obtain ⟨args⟩ := args
          obtain ⟨ts⟩ := ts
          simp only at hts hargs hob hlen
          subst hts
          match args, hlen with
          | [y1, y2], _ =>
            refine OpS.of_run (x := .any) (s1 := s) hd fun a w ok => ?_
            have hv1 := ok.ogs hob 0 (by simp)
            have hv2 := ok.ogs hob 1 (by simp)
            rw [hargs] at hv1 hv2
            simp at hv1 hv2
            have hv1 := hv1.lit_inv
            have hv2 := hv2.lit_inv
            obtain ⟨cur, c1, c2, c3, c4⟩ := ok.world.mem _ (hget_mem hg)
            simp only at c1
            unfold usB at hus
            split at hus
            case h_2 => cases hus
            rename_i e hp
            simp only [Bool.and_eq_true, beq_iff_eq] at hus
            obtain ⟨rfl, hc⟩ := hus
            have htl : (zs.take l.toNat).length = l.toNat := by rw [List.length_take]; omega
            have hli : ((zs.take l.toNat).length : Int) = l := by omega
            have r1 := run_unsafeString_zs (P := P) (w := w) T u type e hp hc b cur.size (by simp [World.shape?, c1]) (zs.take l.toNat) (by omega) (by omega) (by omega) (fun j hj => by
              rw [cell_of_block c1, Nat.zero_add, c4 j (by omega)]
              simp [List.getD, List.getElem?_take, show j < l.toNat by omega])
            rw [hli, htl] at r1
            have hn0 : l.toNat ≠ 0 := by omega
            obtain ⟨hw, hI, hb⟩ := ok.world.lose (w' := w.freeze ⟨b, 0, none⟩ l.toNat) (hget_mem hg) (by unfold World.freeze; rw [if_neg hn0]; simp) (by unfold World.freeze; rw [if_neg hn0]) (by unfold World.freeze; rw [if_neg hn0]) (by unfold World.freeze; rw [if_neg hn0])
              (fun k hk => by unfold World.freeze; rw [if_neg hn0]; simp only [Array.getElem?_modify]; rw [if_neg (fun h => hk h.symm)])
            refine ⟨_, _, ?_, { s with H := hdel s.H b }, ok.world_to hw hI, .lit (.string (bstr (zs.take l.toNat))), .lit _, ?_⟩
            · simp only [execOp, resolve, invoke, builtin, List.map_toArray, List.map_cons, List.map_nil, Sem.run_bind, Sem.run_pure, Result.andThen_ok, hv1, hv2]
              rw [r1]
              rfl
            · rw [put_H] at hk
              exact hk
        · exact h.elim
      · exact h.elim
    · rename_i rc m
      split at h
      · rename_i t x hrc
        split at h
        · rename_i f hf
          obtain ⟨hob1, hob, h⟩ := h
          intro X R hX a w ok
          have hlen := ogs_length (env := s.env) args.toList
          have hrv := ok.og hob1
          rw [hrc] at hrv
          obtain ⟨v, hv, hvr⟩ : ∃ v, a.eval rc = .iface t v ∧ Rep w (imm cx w s.H) v x := by
            generalize a.eval rc = u at hrv
            cases hrv with
            | ifc _ v _ r => exact ⟨v, rfl, r⟩
          have c2 := run_callV (n := n) (vs := #[v] ++ args.map a.eval) ok h (by simp [hlen]; omega) (fun i hi => by
            cases i with
            | zero => simpa only [Array.getD_eq_getD_getElem?, app1_get?, if_true, Option.getD_some, List.getD_cons_zero] using hvr
            | succ i =>
              have := ok.ogs hob i (by simp [hlen] at hi; simpa using hi)
              simpa [List.getD, app1_get?] using this)
          unfold Oper.wp
          have hrun : (execOp a.eval ⟨dst, .call ⟨.invoke rc m, args, ts⟩, type, pos, after, guard⟩).run P w = (callFunc f (#[v] ++ args.map a.eval)).run P w := by
            simp only [execOp, resolve, Sem.run_bind, Sem.run_pure, Result.andThen_ok, hv]
            rw [run_invoke hf]
          refine c2.upon hrun ?_
          rintro e w' ⟨v, r, H', rfl, hk, ok', hr⟩
          rw [put_H] at hk
          exact ⟨_, rfl, hX _ _ _ hk (ok'.put hd hr)⟩
        · exact h.elim
      · exact h.elim
    · -- how many a map holds
      split at h
      · rename_i T r hts hargs
        split at h
        · rename_i es ck hg
          obtain ⟨hob, ⟨k, e, hT⟩, hk⟩ := h
          have hlen := ogs_length (env := s.env) args.toList
          rw [hargs] at hlen
          obtain ⟨args⟩ := args
          obtain ⟨ts⟩ := ts
          simp only at hts hargs hob hlen
          subst hts
          match args, hlen with
          | [y1], _ =>
            refine OpS.of_run (x := .any) (s1 := s) hd fun a w ok => ?_
            have hv1 := ok.ogs hob 0 (by simp)
            rw [hargs] at hv1
            simp at hv1
            have hv1 := hv1.lit_inv
            have hm : w.heap[r]? = some (.map es ck) := ok.world.mem _ (hget_mem hg)
            refine ⟨.int .i64 es.size, w, ?_, s, ok, .lit (.int .i64 es.size), .lit _, ?_⟩
            · simp only [execOp, resolve, invoke, builtin, List.map_toArray, List.map_cons, List.map_nil, Sem.run_bind, Sem.run_pure, Result.andThen_ok, hv1]
              simp [Builtin.len_, run_underlying hT, getObj, Sem.run, hm, goInt]
            · have e : (⟨(s.put dst (iv .i64 (es.size : Int))).env, s.H⟩ : St) = s.put dst (iv .i64 (es.size : Int)) := by cases dst <;> rfl
              rw [e] at hk
              exact hk
        · exact h.elim
      · exact h.elim
    · -- a function's value
      rename_i fx _
      split at h
      · rename_i f fi ca hfv
        obtain ⟨hob1, hob, h⟩ := h
        rw [capA_eq, capA_eq, appA_eq, appA_eq] at h
        intro X R hX a w ok
        have hlen := ogs_length (env := s.env) args.toList
        have hfx := ok.og hob1
        rw [hfv] at hfx
        have hfx := hfx.lit_inv
        have c2 := run_callV (n := n) (vs := (fi ++ args.map a.eval) ++ ca) ok h (by simp [hlen] <;> omega) (fun i hi => by
          simp only [List.length_append, List.length_map, Array.length_toList, hlen] at hi
          simp only [Array.getD_eq_getD_getElem?, Array.getElem?_append, Array.size_append, Array.size_map, List.getD_eq_getElem?_getD, List.getElem?_append, List.length_map, Array.length_toList, hlen]
          by_cases h1 : i < fi.size
          · rw [if_pos (by omega), if_pos h1, if_pos h1]
            simp [h1]
            exact .lit _
          · rw [if_neg h1]
            by_cases h2 : i - fi.size < args.size
            · rw [if_pos (by omega), if_neg h1, if_pos h2]
              have := ok.ogs hob (i - fi.size) (by simpa using h2)
              simpa [List.getD] using this
            · rw [if_neg (by omega), if_neg h2]
              have h3 : i - (fi.size + args.size) < ca.size := by omega
              rw [show i - fi.size - args.size = i - (fi.size + args.size) by omega]
              simp [h3, h1]
              exact .lit _)
        unfold Oper.wp
        have hrun : (execOp a.eval ⟨dst, .call ⟨.value fx, args, ts⟩, type, pos, after, guard⟩).run P w = (callFunc f ((fi ++ args.map a.eval) ++ ca)).run P w := by
          simp only [execOp, resolve, hfx, Deferred.ofValue, Sem.run_bind, Sem.run_pure, Result.andThen_ok, invoke]
        refine c2.upon hrun ?_
        rintro e w' ⟨v, r, H', rfl, hk, ok', hr⟩
        rw [put_H] at hk
        exact ⟨_, rfl, hX _ _ _ hk (ok'.put hd hr)⟩
      · exact h.elim
    · exact h.elim
  · -- a new map
    rename_i T
    refine OpS.of_run (x := .any) (s1 := s) hd fun a w ok => ?_
    obtain ⟨ok1, hf⟩ := ok.push (w' := w.alloc (.map #[] 0)) (ob := .map #[] 0) (m := .obj (.map #[] 0)) rfl rfl rfl rfl (by show (w.alloc (.map #[] 0)).heap[w.heap.size]? = _; rw [heap_alloc]; exact Array.getElem?_push_size)
    refine ⟨.map (some w.heap.size), w.alloc (.map #[] 0), ?_, _, ok1, .lit (.map (some w.heap.size)), .lit _, ?_⟩
    · have h1 : (newObj (.map #[] 0)).run P w = .ok w.heap.size (w.alloc (.map #[] 0)) := rfl
      simp only [execOp, Instr.makeMap, Option.map_none, Sem.run_bind, h1, Result.andThen_ok, Sem.run_pure]
    · have := (h.out w.heap.size).out hf
      simp only [put_H] at this
      exact this
  · -- a walk over a text's runes begins
    rename_i T x
    split at h
    · rename_i bs hbs
      obtain ⟨hob, hT, h⟩ := h
      refine OpS.of_run (x := .any) (s1 := s) hd fun a w ok => ?_
      have h1 := ok.og hob
      rw [hbs] at h1
      have h2 := h1.lit_inv
      refine ⟨.pointer (some ⟨w.heap.size, 0, none⟩), w.alloc (.stringIter bs 0), by simp only [execOp, h2, Sem.run_bind, run_range_string w T bs hT, Result.andThen_ok, Sem.run_pure]; rfl, ?_⟩
      obtain ⟨ok1, hf⟩ := ok.push (w' := w.alloc (.stringIter bs 0)) (ob := .stringIter bs 0) (m := .obj (.stringIter bs 0)) rfl rfl rfl rfl (by show (w.alloc (.stringIter bs 0)).heap[w.heap.size]? = _; rw [heap_alloc]; exact Array.getElem?_push_size)
      refine ⟨_, ok1, _, .lit _, ?_⟩
      have := (h.out w.heap.size).out hf
      simp only [put_H] at this
      exact this
    · exact h.elim
  · -- the next rune
    rename_i it
    split at h
    · rename_i b hit
      split at h
      · rename_i bs pos hg
        obtain ⟨hob, h⟩ := h
        refine OpS.of_run (x := .any) (s1 := s) hd fun a w ok => ?_
        have h1 := ok.og hob
        rw [hit] at h1
        have h2 := h1.lit_inv
        have hm : w.heap[b]? = some (.stringIter bs pos) := ok.world.mem _ (hget_mem hg)
        have hbl : b < w.heap.size := (Array.getElem?_eq_some_iff.1 hm).1
        by_cases hlt : pos < bs.size
        · obtain ⟨⟨c, d⟩, hcd⟩ : ∃ q : Nat × Nat, Utf8.decode bs pos = q := ⟨_, rfl⟩
          have hk := h.fst.out hlt
          rw [hcd] at hk
          obtain ⟨w', hw'⟩ : ∃ w', w' = { w with heap := w.heap.setIfInBounds b (.stringIter bs (pos + d)) } := ⟨_, rfl⟩
          have hrun : (Instr.next (.pointer (some ⟨b, 0, none⟩)) true type).run P w = .ok (.tuple #[.bool true, .int .i64 pos, .int .i32 c]) w' := by
            rw [hw']
            simp only [Instr.next, getObj, setObj, Sem.run_bind, Sem.run, hm, Result.andThen, hlt, if_true, hcd]
            simp [goInt, Sem.run, hm]
          have hh : w'.heap = w.heap.setIfInBounds b (.stringIter bs (pos + d)) := by rw [hw']
          have hwr := ok.world.write (w' := w') (m' := .obj (.stringIter bs (pos + d))) (hget_mem hg) (by rw [hh]; simp) (by rw [hw']) (by rw [hw']) (by rw [hw']) (fun k hk => by rw [hh]; exact Array.getElem?_setIfInBounds_ne (Ne.symm hk)) (by
            show w'.heap[b]? = _
            rw [hh]
            simp [hbl])
          refine ⟨_, w', by simp only [execOp, h2, Sem.run_bind, hrun, Result.andThen_ok, Sem.run_pure]; rfl, _, ok.world_to hwr.1 hwr.2, .tup [bv true, iv .i64 (pos : Int), iv .i32 (c : Int)], ?_, ?_⟩
          · refine .tup _ _ (by simp) fun i hi => ?_
            match i, hi with
            | 0, _ => exact .lit _
            | 1, _ => exact .lit _
            | 2, _ => exact .lit _
          · rw [put_H] at hk
            exact hk
        · have hk := h.snd.out (by omega)
          have hrun : (Instr.next (.pointer (some ⟨b, 0, none⟩)) true type).run P w = .ok (.tuple #[.bool false]) w := by
            simp [Instr.next, getObj, Sem.run, hm, hlt]
          refine ⟨_, w, by simp only [execOp, h2, Sem.run_bind, hrun, Result.andThen_ok, Sem.run_pure]; rfl, s, ok, .tup [bv false], ?_, ?_⟩
          · refine .tup _ _ (by simp) fun i hi => ?_
            match i, hi with
            | 0, _ => exact .lit _
          · have e : (⟨(s.put dst (.tup [bv false])).env, s.H⟩ : St) = s.put dst (.tup [bv false]) := by cases dst <;> rfl
            rw [e] at hk
            exact hk
      · exact h.elim
    · exact h.elim
  · exact h.elim
theorem eff_callee {s : St} {o : Oper} {K : St → Prop} {q : Prop × FuncId × List AV} {x : AV} (h : calleeOf P s.env o.op = some q) (hq : q.1) (hct : DCt P q.2.1 q.2.2 s.H x) (hk : ∀ H', H'.Perm s.H → K ⟨(s.put o.dst x).env, H'⟩) : eff P o K s := by
  have hct := hct.get (q := fun r H => K ⟨(s.put o.dst r).env, H⟩) fun r H' hr => by obtain ⟨rfl, hp⟩ := hr; exact hk H' hp
  unfold calleeOf at h
  split at h
  · rename_i c hop
    unfold eff
    rw [hop]
    simp only
    split at h
    · rename_i f hf
      cases h
      try simp only [hf]
      exact ⟨hq, hct⟩
    · rename_i rc m hf
      split at h
      · rename_i t y hrc
        split at h
        · rename_i f hm
          cases h
          try simp only [hf, hrc, hm]
          exact ⟨hq.1, hq.2, hct⟩
        · cases h
      · cases h
    · cases h
  · cases h
theorem rvc_sound {ops : Array Oper} : ∀ (l : List Oper) (s : St), rvc P n ops l K s → RP P cx n ops l K s
  | [], s, h => RP.nil h
  | o :: rest, s, ⟨hd, h⟩ => by
    unfold stp at h
    split at h
    · rename_i hg
      split at h
      · rename_i r hr
        exact RP.pure hg hd (pev_sound hr h.1) (rvc_sound rest _ h.2)
      · refine RP.step hg ?_
        have := eff_sound (cx := cx) hd h
        exact fun X R hX a w ok => this X R (fun s' a' w' hk ok' => hX s' a' w' (rvc_sound rest s' hk) ok') a w ok
    · rename_i j want hg
      split at h
      · rename_i c hc
        split at h
        · rename_i r hr
          exact RP.pureG hg hc hd (fun ht => pev_sound hr (h.1 ht)) (rvc_sound rest _ h.2)
        · rcases h with h | h
          · unfold gcall at h
            split at h
            · rename_i q hq
              · obtain ⟨hob, x, h1, h2⟩ := h
                intro R hR a w ok
                refine wpList_step fun X hX => ?_
                rw [wanted_of_gd ok hg hc]
                cases c with
                | true =>
                  rw [if_pos rfl]
                  have he : eff P o (fun s' => ∃ H, s' = ({ s with H := H } : St).put o.dst x ∧ H.Perm s.H) s := eff_callee hq (hob rfl) (h1 rfl) fun H' hp => ⟨H', put_H s, hp⟩
                  refine eff_sound (cx := cx) hd he X R (fun s' a' w' hs' ok' => ?_) a w ok
                  obtain ⟨H, rfl, hp⟩ := hs'
                  have ok' : Ok cx n (s.put o.dst x) a' w' := by
                    have hH : (({ s with H := H } : St).put o.dst x).H = H := by cases o.dst <;> rfl
                    have hH' : (s.put o.dst x).H = s.H := by cases o.dst <;> rfl
                    have hE : (({ s with H := H } : St).put o.dst x).env = (s.put o.dst x).env := by cases o.dst <;> rfl
                    refine ⟨ok'.defers, ok'.size, fun i => ?_, ?_⟩
                    · have := ok'.reps i
                      rw [hH, hE] at this
                      rw [hH']
                      exact this.mono fun b hb => ⟨(imm_perm hp).1 hb, rfl⟩
                    · have := ok'.world
                      rw [hH] at this
                      rw [hH']
                      exact this.perm hp
                  refine hX a' w' (rvc_sound rest _ h2 R hR a' w' ⟨ok'.defers, ok'.size, fun i => ?_, ?_⟩)
                  · have := ok'.reps i
                    cases hdst : o.dst with
                    | none => rw [hdst] at this; exact this
                    | some d =>
                      rw [hdst] at this
                      simp only [St.put, look] at this ⊢
                      split
                      · rename_i hi; rw [if_pos hi] at this; exact .gdt _ _ this
                      · rename_i hi; rw [if_neg hi] at this; exact this
                  · have := ok'.world
                    cases hdst : o.dst <;> rw [hdst] at this <;> exact this
                | false =>
                  rw [if_neg (by simp)]
                  exact hX _ _ (rvc_sound rest _ h2 R hR _ _ (ok.put hd (.gdf _)))
            · exact h.elim
          · have h : (c = true → eff P o (rvc P n ops rest K) s) ∧ (c = false → rvc P n ops rest K (s.put o.dst (.lit undef))) := h
            refine RP.stepG hg hc hd (fun ht => ?_) (fun hf => rvc_sound rest _ (h.2 hf))
            have := eff_sound (cx := cx) hd (h.1 ht)
            exact fun X R hX a w ok => this X R (fun s' a' w' hk ok' => hX s' a' w' (rvc_sound rest s' hk) ok') a w ok
      · exact h.elim
end
end Go.Proofs.YtdkkfgcdnojmaaaDoor
