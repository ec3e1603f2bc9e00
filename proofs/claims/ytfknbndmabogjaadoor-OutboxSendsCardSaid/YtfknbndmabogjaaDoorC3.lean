/-
  The walks and the laws that the statement leans on, part 3.
-/
import Derived.Test.YtfknbndmabogjaaDoorC2
namespace Go.Proofs.YtfknbndmabogjaaDoor
open Go
set_option linter.unusedSimpArgs false
set_option linter.unusedVariables false
def fresh (H : Hp) (b : Nat) : Prop := ∀ x ∈ H, x.1 ≠ b ∧ b ≠ x.1
def intsV (k : IntKind) : List Value → Option (List Int)
  | [] => some []
  | .int k' n :: r => if k = k' then (intsV k r).map (n :: ·) else none
  | _ => none
def intsA (k : IntKind) : List AV → Option (List Int)
  | [] => some []
  | .lit (.int k' n) :: r => if k = k' then (intsA k r).map (n :: ·) else none
  | _ => none
theorem intsA_spec {k : IntKind} : ∀ {cs : List AV} {zs : List Int}, intsA k cs = some zs → cs = zs.map (iv k)
  | [], zs, h => by cases h; rfl
  | x :: r, zs, h => by
    cases x <;> try (simp [intsA] at h; done)
    rename_i v
    cases v <;> try (simp [intsA] at h; done)
    rename_i k' m
    simp only [intsA] at h
    split at h
    · rename_i hk
      subst hk
      cases hr : intsA k r with
      | none => rw [hr] at h; cases h
      | some ys =>
        rw [hr] at h
        cases h
        simp [intsA_spec hr]
    · cases h
def zer (P : Program) (T : TypeId) : Option (List Value) := (P.info? T).bind fun i => i.zero.map fun z => z.cells.toList
def zmb (P : Program) (T : TypeId) : Option MB :=
  match zer P T with
  | some vs => match P.underlying T with
    | some (.array _ e) => match P.underlying e with
      | some (.int k) => match intsV k vs with
        | some zs => some (.zs k zs zs.length T)
        | none => none
      | _ => some (.cells (vs.map .lit) vs.length T)
    | _ => some (.cells (vs.map .lit) vs.length T)
  | none => none
section
variable {P : Program} {cx : Cx} {w : World} {H : Hp} {I : Nat → Prop}
theorem MOk.to_cells {b sz : Nat} {k : IntKind} {zs : List Int} {ty : TypeId} (h : MOk w I b (.zs k zs sz ty)) : MOk w I b (.cells (zs.map (iv k)) sz ty) := by
  obtain ⟨cur, h1, h2, h3, h4⟩ := h
  refine ⟨cur, h1, h2, by simpa using h3, fun i hi => ?_⟩
  have hi' : i < zs.length := by simpa using hi
  have := h4 i hi'
  simp only [List.getElem_map]
  refine Rep.of_eq ?_
  simp [this, List.getD, hi']
theorem MOk.to_zs {b sz : Nat} {k : IntKind} {zs : List Int} {ty : TypeId} (h : MOk w I b (.cells (zs.map (iv k)) sz ty)) : MOk w I b (.zs k zs sz ty) := by
  obtain ⟨cur, h1, h2, h3, h4⟩ := h
  have h3' : zs.length ≤ sz := by simpa using h3
  refine ⟨cur, h1, h2, h3', fun i hi => ?_⟩
  have := h4 i (by simpa using hi)
  simp only [List.getElem_map] at this
  have := this.lit_inv
  have hlt : i < cur.size := by omega
  simp [hlt] at this
  simp [hlt, this, List.getD, hi]
theorem MOk.new {b : Nat} {vs : Array Value} {cs : List AV} {ty : TypeId} (hb : w.heap[b]? = some (.cells vs ty (0, 0))) (h : RepL w I vs cs) : MOk w I b (.cells cs cs.length ty) :=
  ⟨vs, hb, h.1, Nat.le_refl _, h.2⟩
theorem intsV_spec {k : IntKind} : ∀ {vs : List Value} {zs : List Int}, intsV k vs = some zs → vs = zs.map (Value.int k)
  | [], zs, h => by cases h; rfl
  | v :: r, zs, h => by
    cases v <;> try (simp [intsV] at h; done)
    rename_i k' m
    simp only [intsV] at h
    split at h
    · rename_i hk
      subst hk
      cases hr : intsV k r with
      | none => rw [hr] at h; cases h
      | some ys =>
        rw [hr] at h
        cases h
        simp [intsV_spec hr]
    · cases h
theorem zmb_spec {T : TypeId} {m : MB} (h : zmb P T = some m) : ∃ z, (zeroValue T).run P w = .ok z w ∧
    ∀ (w' : World) (I : Nat → Prop) (b : Nat), w'.heap[b]? = some (.cells z.cells T (0, 0)) → MOk w' I b m := by
  unfold zmb at h
  cases hz : zer P T with
  | none => rw [hz] at h; cases h
  | some vs =>
    rw [hz] at h
    unfold zer at hz
    cases hi : P.info? T with
    | none => rw [hi] at hz; cases hz
    | some i =>
      rw [hi] at hz
      cases hzz : i.zero with
      | none => simp [hzz] at hz
      | some z =>
        simp [hzz] at hz
        subst hz
        have hcells : ∀ (w' : World) (I : Nat → Prop) (b : Nat), w'.heap[b]? = some (.cells z.cells T (0, 0)) → MOk w' I b (.cells (z.cells.toList.map .lit) z.cells.toList.length T) := by
          intro w' I b hb
          have := MOk.new (I := I) hb (rep_zero z.cells)
          simpa using this
        refine ⟨z, by simp [zeroValue, typeInfo, program, Sem.run, hi, hzz], ?_⟩
        simp only at h
        split at h
        · split at h
          · split at h
            · rename_i zs hs
              cases h
              intro w' I b hb
              have h1 := hcells w' I b hb
              have h2 := intsV_spec hs
              have h3 := congrArg (List.map AV.lit) h2
              rw [List.map_map] at h3
              rw [h3] at h1
              have h4 := h1.to_zs
              have h5 : z.cells.toList.length = zs.length := by rw [h2]; simp
              rw [h5] at h4
              exact h4
            · cases h
          · cases h; exact hcells
        · cases h; exact hcells
theorem heap_alloc (w : World) (ob : Obj) : (w.alloc ob).heap = w.heap.push ob := rfl
theorem Ok.push {n : Nat} {s : St} {a : Act} (ok : Ok cx n s a w) {w' : World} {ob : Obj} {m : MB} (hh : w'.heap = w.heap.push ob) (ho : w'.os = w.os) (ht : w'.tape = w.tape) (hp : w'.output = w.output)
    (hm : MOk w' (imm cx w' ((w.heap.size, m) :: s.H)) w.heap.size m) : Ok cx n { s with H := (w.heap.size, m) :: s.H } a w' ∧ fresh s.H w.heap.size := by
  have := ok.world.push hh ho ht hp hm
  exact ⟨ok.world_to this.1 this.2, fun x hx => by have := keys_lt ok.world x hx; omega⟩
theorem imm_push {w' : World} {ob : Obj} {m : MB} (hw : OkW cx H w) (hh : w'.heap = w.heap.push ob) : ∀ b, imm cx w H b → imm cx w' ((w.heap.size, m) :: H) b ∧ w'.heap[b]? = w.heap[b]? := by
  intro b hb
  have hlt := imm_lt hw.ext.size hb
  have hsz : w'.heap.size = w.heap.size + 1 := by rw [hh]; simp
  refine ⟨?_, by rw [hh, Array.getElem?_push, if_neg (by omega)]⟩
  rcases hb with hb | ⟨h1, h2, h3⟩
  · exact .inl hb
  · refine .inr ⟨h1, by omega, fun x hx => ?_⟩
    rcases List.mem_cons.1 hx with rfl | hx
    · simp only; omega
    · exact h3 x hx
/-! ### A store -/
def oneC : AV → Bool
  | .lit v => v.oneCell'
  | .sl _ _ => true
  | .slz _ _ => true
  | .ip _ => true
  | .ipz _ _ => true
  | .ifc _ _ => true
  | _ => false
theorem one_of_oneC {v : Value} {x : AV} (hv : Rep w I v x) (h : oneC x = true) : v.oneCell' = true := by
  cases hv <;> first | exact h | rfl | (simp [oneC] at h; done)
theorem cells_of_one {v : Value} (h : v.oneCell' = true) : v.cells = #[v] := by cases v <;> first | rfl | simp [Value.oneCell'] at h
def stC (P : Program) (T : TypeId) (m : MB) (off : Nat) (x : AV) : Prop × MB :=
  match tyc P T with
  | some none => match m with
    | .cells cs sz ty => (off < cs.length ∧ oneC x = true, .cells (cs.set off x) sz ty)
    | .zs k zs sz ty => match x with
      | .lit (.int k' n) => (k = k' ∧ off < zs.length, .zs k (zs.set off n) sz ty)
      | _ => (False, m)
    | .obj _ => (False, m)
    | .ro .. => (False, m)
  | some (some c) => match x with
    | .agg ds => match m with
      | .cells cs sz ty => (ds.length = c ∧ off + c ≤ cs.length ∧ ds.all oneC = true, .cells (cs.take off ++ ds ++ cs.drop (off + c)) sz ty)
      | .zs k zs sz ty => match intsA k ds with
        | some ys => (ys.length = c ∧ off + c ≤ zs.length, .zs k (zs.take off ++ ys ++ zs.drop (off + c)) sz ty)
        | none => (False, m)
      | .obj _ => (False, m)
      | .ro .. => (False, m)
    | _ => (False, m)
  | none => (False, m)
theorem splice_getD (l : List Value) (vs : List Value) (off i : Nat) (h : off + vs.length ≤ l.length) :
    (l.take off ++ vs ++ l.drop (off + vs.length)).getD i undef = if off ≤ i ∧ i < off + vs.length then vs.getD (i - off) undef else l.getD i undef := by
  by_cases h1 : i < off
  · rw [if_neg (by omega)]
    simp only [List.getD]
    rw [List.getElem?_append_left (by simp; omega), List.getElem?_append_left (by simp; omega), List.getElem?_take_of_lt h1]
  · by_cases h2 : i < off + vs.length
    · rw [if_pos (by omega)]
      simp only [List.getD]
      rw [List.getElem?_append_left (by simp; omega), List.getElem?_append_right (by simp; omega)]
      simp [show min off l.length = off by omega]
    · rw [if_neg (by omega)]
      simp only [List.getD]
      rw [List.getElem?_append_right (by simp; omega)]
      simp [List.getElem?_drop, show min off l.length = off by omega]
      congr 2
      omega
theorem run_storeCells_cells (hw : OkW cx H w) {b off sz : Nat} {cs ds : List AV} {ty : TypeId} {vs : List Value} (hg : (b, MB.cells cs sz ty) ∈ H) (hoff : off + ds.length ≤ cs.length)
    (hvl : vs.length = ds.length) (hv : ∀ i (hi : i < ds.length), Rep w (imm cx w H) (vs.getD i undef) ds[i]) (h1 : ∀ v ∈ vs, v.oneCell' = true) :
    ∃ w', (storeCells ⟨b, off, none⟩ vs).run P w = .ok () w' ∧ OkW cx (hset H b (.cells (cs.take off ++ ds ++ cs.drop (off + ds.length)) sz ty)) w' ∧
      ∀ k, imm cx w H k → imm cx w' (hset H b (.cells (cs.take off ++ ds ++ cs.drop (off + ds.length)) sz ty)) k ∧ w'.heap[k]? = w.heap[k]? := by
  obtain ⟨cur, c1, c2, c3, c4⟩ := hw.mem _ hg
  have hst := run_storeCells_at P b off ty vs 0 cur w c1 (by simp; omega) h1
  refine ⟨_, hst, ?_⟩
  simp only [Nat.add_zero]
  have hlen : (cs.take off ++ ds ++ cs.drop (off + ds.length)).length = cs.length := by simp; omega
  generalize hrow : (cur.toList.take off ++ vs ++ cur.toList.drop (off + vs.length)).toArray = row
  have hkeep : ∀ k, k ≠ b → (w.setRow b row).heap[k]? = w.heap[k]? := fun k hk => setRow_other w b k _ hk
  refine hw.write hg (by simp) rfl rfl rfl hkeep ?_
  refine ⟨row, setRow_heap w b cur _ ty _ c1, by rw [← hrow]; simp; omega, by omega, fun i hi => ?_⟩
  rw [hlen] at hi
  have hI : ∀ k, imm cx w H k → imm cx (w.setRow b row) (hset H b (.cells (cs.take off ++ ds ++ cs.drop (off + ds.length)) sz ty)) k ∧ (w.setRow b row).heap[k]? = w.heap[k]? :=
    fun k hk => ⟨imm_keys (hset_keys _ _ _) (by simp) hk, hkeep k fun he => imm_key hw.keys hw.ro hk _ hg rfl he.symm⟩
  have hget : row.getD i undef = if off ≤ i ∧ i < off + vs.length then vs.getD (i - off) undef else cur.getD i undef := by
    rw [← hrow]
    have := splice_getD cur.toList vs off i (by simp; omega)
    simpa [List.getD] using this
  rw [hget]
  by_cases hin : off ≤ i ∧ i < off + vs.length
  · rw [if_pos hin]
    have e1 : (cs.take off ++ ds ++ cs.drop (off + ds.length))[i]'(by omega) = ds[i - off]'(by omega) := by
      rw [List.getElem_append_left (by simp; omega), List.getElem_append_right (by simp; omega)]
      simp [show min off cs.length = off by omega]
    rw [e1]
    exact (hv (i - off) (by omega)).mono hI
  · rw [if_neg hin]
    have e1 : (cs.take off ++ ds ++ cs.drop (off + ds.length))[i]'(by omega) = cs[i] := by
      by_cases hlt : i < off
      · rw [List.getElem_append_left (by simp; omega), List.getElem_append_left (by simp; omega)]
        simp
      · rw [List.getElem_append_right (by simp; omega)]
        simp only [List.getElem_drop, List.length_append, List.length_take]
        congr 1
        omega
    rw [e1]
    exact (c4 i hi).mono hI
theorem OkW.as_cells {b sz : Nat} {k : IntKind} {zs : List Int} {ty : TypeId} (hw : OkW cx H w) (hg : (b, MB.zs k zs sz ty) ∈ H) :
    OkW cx (hset H b (.cells (zs.map (iv k)) sz ty)) w ∧ (b, MB.cells (zs.map (iv k)) sz ty) ∈ hset H b (.cells (zs.map (iv k)) sz ty) ∧
      ∀ c, imm cx w H c ↔ imm cx w (hset H b (.cells (zs.map (iv k)) sz ty)) c := by
  have hI : ∀ c, imm cx w H c ↔ imm cx w (hset H b (.cells (zs.map (iv k)) sz ty)) c :=
    fun c => ⟨imm_keys (hset_keys _ _ _) rfl, imm_keys (hset_keys _ _ _).symm rfl⟩
  refine ⟨⟨by rw [hset_keys]; exact hw.nodup, fun x hx => ?_, fun x hx => ?_, hw.ext, ro_hset hw.nodup hw.ro hg _⟩, ?_, hI⟩
  · rcases hset_mem hw.nodup x hx with rfl | hx
    · exact hw.keys (b, MB.zs k zs sz ty) hg
    · exact hw.keys x hx.1
  · rcases hset_mem hw.nodup x hx with rfl | hx
    · exact (hw.mem _ hg).to_cells.mono (fun c hc => ⟨(hI c).1 hc, rfl⟩) rfl
    · exact (hw.mem x hx.1).mono (fun c hc => ⟨(hI c).1 hc, rfl⟩) rfl
  · have hn := hw.nodup
    clear hI hw
    induction H with
    | nil => cases hg
    | cons p r ih =>
      obtain ⟨b', m'⟩ := p
      simp only [List.map_cons, List.nodup_cons] at hn
      simp only [hset]
      split
      · rename_i he; subst he; exact List.mem_cons_self ..
      · rename_i he
        rcases List.mem_cons.1 hg with h | h
        · cases h; exact absurd rfl he
        · exact List.mem_cons_of_mem _ (ih h hn.2)
theorem hset_hset (b : Nat) (m m' : MB) : ∀ H : Hp, hset (hset H b m) b m' = hset H b m'
  | [] => rfl
  | (b', x) :: r => by
    simp only [hset]
    split
    · rename_i h; subst h; simp [hset]
    · rename_i h; simp [hset, h, hset_hset b m m' r]
theorem OkW.as_zs {b sz : Nat} {k : IntKind} {zs : List Int} {ty : TypeId} (hw : OkW cx (hset H b (.cells (zs.map (iv k)) sz ty)) w) :
    OkW cx (hset H b (.zs k zs sz ty)) w ∧ ∀ c, imm cx w (hset H b (.cells (zs.map (iv k)) sz ty)) c ↔ imm cx w (hset H b (.zs k zs sz ty)) c := by
  have hk : (hset H b (.zs k zs sz ty)).map (·.1) = (hset H b (.cells (zs.map (iv k)) sz ty)).map (·.1) := by rw [hset_keys, hset_keys]
  have hI : ∀ c, imm cx w (hset H b (.cells (zs.map (iv k)) sz ty)) c ↔ imm cx w (hset H b (.zs k zs sz ty)) c :=
    fun c => ⟨imm_keys hk rfl, imm_keys hk.symm rfl⟩
  have hmem : ∀ x ∈ hset H b (.zs k zs sz ty), (x = (b, .zs k zs sz ty) ∧ (b, MB.cells (zs.map (iv k)) sz ty) ∈ hset H b (.cells (zs.map (iv k)) sz ty)) ∨ x ∈ hset H b (.cells (zs.map (iv k)) sz ty) := by
    clear hw hI hk
    induction H with
    | nil => intro x hx; cases hx
    | cons p r ih =>
      obtain ⟨b', m'⟩ := p
      intro x hx
      simp only [hset] at hx ⊢
      split at hx
      · rename_i he
        simp only [if_pos he]
        rcases List.mem_cons.1 hx with rfl | hx
        · subst he; exact .inl ⟨rfl, List.mem_cons_self ..⟩
        · exact .inr (List.mem_cons_of_mem _ hx)
      · rename_i he
        simp only [if_neg he]
        rcases List.mem_cons.1 hx with rfl | hx
        · exact .inr (List.mem_cons_self ..)
        · rcases ih x hx with ⟨h1, h2⟩ | h
          · exact .inl ⟨h1, List.mem_cons_of_mem _ h2⟩
          · exact .inr (List.mem_cons_of_mem _ h)
  refine ⟨⟨by rw [hk]; exact hw.nodup, fun x hx => ?_, fun x hx => ?_, hw.ext, fun x hx hT => ?_⟩, hI⟩
  rotate_left 2
  · rcases hmem x hx with ⟨rfl, h⟩ | h
    · have := hw.ro _ h hT; cases this
    · exact hw.ro x h hT
  · rcases hmem x hx with ⟨rfl, h⟩ | h
    · exact hw.keys (b, MB.cells (zs.map (iv k)) sz ty) h
    · exact hw.keys x h
  · rcases hmem x hx with ⟨rfl, h⟩ | h
    · exact (hw.mem _ h).to_zs.mono (fun c hc => ⟨(hI c).1 hc, rfl⟩) rfl
    · exact (hw.mem x h).mono (fun c hc => ⟨(hI c).1 hc, rfl⟩) rfl
theorem run_storeCells_zs (hw : OkW cx H w) {b off sz : Nat} {k : IntKind} {zs ys : List Int} {ty : TypeId} (hg : (b, MB.zs k zs sz ty) ∈ H) (hoff : off + ys.length ≤ zs.length) :
    ∃ w', (storeCells ⟨b, off, none⟩ (ys.map (Value.int k))).run P w = .ok () w' ∧ OkW cx (hset H b (.zs k (zs.take off ++ ys ++ zs.drop (off + ys.length)) sz ty)) w' ∧
      ∀ c, imm cx w H c → imm cx w' (hset H b (.zs k (zs.take off ++ ys ++ zs.drop (off + ys.length)) sz ty)) c ∧ w'.heap[c]? = w.heap[c]? := by
  obtain ⟨h1, h2, h3⟩ := hw.as_cells hg
  obtain ⟨w', r1, r2, r3⟩ := run_storeCells_cells (P := P) h1 (ds := ys.map (iv k)) (vs := ys.map (Value.int k)) (off := off) h2 (by simpa using hoff) (by simp)
    (fun i hi => by
      have hi' : i < ys.length := by simpa using hi
      simp only [List.getElem_map]
      exact Rep.of_eq (by simp [List.getD, hi'])) (fun v hv => by obtain ⟨y, _, rfl⟩ := List.mem_map.1 hv; rfl)
  rw [hset_hset] at r2 r3
  have e : (zs.map (iv k)).take off ++ ys.map (iv k) ++ (zs.map (iv k)).drop (off + (ys.map (iv k)).length) = (zs.take off ++ ys ++ zs.drop (off + ys.length)).map (iv k) := by simp
  rw [e] at r2 r3
  obtain ⟨z1, z2⟩ := r2.as_zs
  exact ⟨w', r1, z1, fun c hc => ⟨(z2 c).1 (r3 c ((h3 c).1 hc)).1, (r3 c ((h3 c).1 hc)).2⟩⟩
theorem run_store_of {T : TypeId} {b off : Nat} {m : MB} {v : Value} {x : AV} (hw : OkW cx H w) (hg : hget H b = some m) (hv : Rep w (imm cx w H) v x) (h : (stC P T m off x).1) :
    ∃ w', (Instr.storeAt T (.pointer (some ⟨b, off, none⟩)) v).run P w = .ok () w' ∧ OkW cx (hset H b (stC P T m off x).2) w' ∧
      ∀ c, imm cx w H c → imm cx w' (hset H b (stC P T m off x).2) c ∧ w'.heap[c]? = w.heap[c]? := by
  have hmem := hget_mem hg
  unfold stC at h ⊢
  have key : ∀ vs : List Value, v.cells.toList = vs → (∃ i, P.info? T = some i ∧ i.size = vs.length) →
      (Instr.storeAt T (.pointer (some ⟨b, off, none⟩)) v).run P w = (storeCells ⟨b, off, none⟩ vs).run P w := by
    rintro vs rfl ⟨i, hi, hs⟩
    have hsz : v.cells.size = i.size := by rw [hs]; simp
    simp [Instr.storeAt, Instr.sureAddr, storeVar, run_sizeOf_info hi, hsz]
  split at h
  · rename_i ht
    obtain ⟨d, i, hd, hi, hs, _, _⟩ := tyc_one ht
    split at h
    · rename_i cs sz ty
      obtain ⟨h1, h2⟩ := h
      have ho := one_of_oneC hv h2
      obtain ⟨w', r1, r2, r3⟩ := run_storeCells_cells (P := P) hw (off := off) (ds := [x]) (vs := [v]) hmem (by simp; omega) rfl
        (fun j hj => by have : j = 0 := by simp at hj; omega
                        subst this; simpa using hv) (by simpa using ho)
      have e : cs.take off ++ [x] ++ cs.drop (off + [x].length) = cs.set off x := by
        rw [List.set_eq_take_append_cons_drop, if_pos h1]; simp
      rw [e] at r2 r3
      exact ⟨w', by rw [key [v] (by rw [cells_of_one ho]) ⟨i, hi, by simp [hs]⟩]; exact r1, r2, r3⟩
    · rename_i k zs sz ty
      split at h
      · rename_i k' n
        obtain ⟨rfl, h1⟩ := h
        have := hv.lit_inv; subst this
        obtain ⟨w', r1, r2, r3⟩ := run_storeCells_zs (P := P) hw (off := off) (ys := [n]) hmem (by simp; omega)
        have e : zs.take off ++ [n] ++ zs.drop (off + [n].length) = zs.set off n := by
          rw [List.set_eq_take_append_cons_drop, if_pos h1]; simp
        rw [e] at r2 r3
        exact ⟨w', by rw [key [.int k n] rfl ⟨i, hi, by simp [hs]⟩]; exact r1, r2, r3⟩
      · exact h.elim
    · exact h.elim
    · exact h.elim
  · rename_i c ht
    have hinfo : ∃ i, P.info? T = some i ∧ i.size = c := by
      unfold tyc at ht
      split at ht
      · cases ht
      · split at ht
        · cases ht
        · rename_i i hi
          split at ht
          · cases ht; exact ⟨i, hi, rfl⟩
          · cases ht; exact ⟨i, hi, rfl⟩
          · split at ht <;> cases ht
    obtain ⟨i, hi, hs⟩ := hinfo
    split at h
    · rename_i ds
      cases hv with
      | agg vs ds hvs hr =>
        split at h
        · rename_i cs sz ty
          obtain ⟨rfl, h1, h2⟩ := h
          obtain ⟨w', r1, r2, r3⟩ := run_storeCells_cells (P := P) hw (off := off) (ds := ds) (vs := vs.toList) hmem h1 (by simpa using hvs)
            (fun j hj => by have := hr j hj; simpa [List.getD] using this)
            (fun u hu => by
              obtain ⟨j, hj, rfl⟩ := List.getElem_of_mem hu
              have hj' : j < vs.size := by simpa using hj
              have hjd : j < ds.length := by omega
              have := hr j hjd
              simp [hj'] at this
              exact one_of_oneC (by simpa using this) (List.all_eq_true.1 h2 _ (List.getElem_mem hjd)))
          exact ⟨w', by rw [key vs.toList rfl ⟨i, hi, by simp [hs, hvs]⟩]; exact r1, r2, r3⟩
        · rename_i k zs sz ty
          cases hys : intsA k ds with
          | none => rw [hys] at h; exact h.elim
          | some ys =>
            rw [hys] at h
            obtain ⟨rfl, h1⟩ := h
            have hds := intsA_spec hys
            have hvs' : vs.toList = ys.map (Value.int k) := by
              apply List.ext_getElem
              · rw [hds] at hvs; simpa using hvs
              · intro j hj1 hj2
                have hjd : j < ds.length := by simp at hj1; omega
                have := hr j hjd
                subst hds
                simp only [List.getElem_map] at this
                have := this.lit_inv
                have hj' : j < vs.size := by simpa using hj1
                simp [hj'] at this
                simpa using this
            obtain ⟨w', r1, r2, r3⟩ := run_storeCells_zs (P := P) hw (off := off) (ys := ys) hmem h1
            exact ⟨w', by rw [key _ hvs' ⟨i, hi, by simp [hs]⟩]; exact r1, r2, r3⟩
        · exact h.elim
        · exact h.elim
    · exact h.elim
  · exact h.elim
def stL (m : MB) (off : Nat) (ds : List AV) : Prop × MB :=
  match m with
  | .cells cs sz ty => (off + ds.length ≤ cs.length ∧ ds.all oneC = true, .cells (cs.take off ++ ds ++ cs.drop (off + ds.length)) sz ty)
  | .zs k zs sz ty => match intsA k ds with
    | some ys => (off + ys.length ≤ zs.length, .zs k (zs.take off ++ ys ++ zs.drop (off + ys.length)) sz ty)
    | none => (False, m)
  | .obj _ => (False, m)
  | .ro .. => (False, m)
theorem run_storeL {b off : Nat} {m : MB} {vs : List Value} {ds : List AV} (hw : OkW cx H w) (hg : hget H b = some m) (hvl : vs.length = ds.length) (hv : ∀ i (hi : i < ds.length), Rep w (imm cx w H) (vs.getD i undef) ds[i])
    (h : (stL m off ds).1) : ∃ w', (storeCells ⟨b, off, none⟩ vs).run P w = .ok () w' ∧ OkW cx (hset H b (stL m off ds).2) w' ∧
      ∀ c, imm cx w H c → imm cx w' (hset H b (stL m off ds).2) c ∧ w'.heap[c]? = w.heap[c]? := by
  have hmem := hget_mem hg
  cases m with
  | cells cs sz ty =>
    obtain ⟨h1, h2⟩ := h
    exact run_storeCells_cells (P := P) hw hmem h1 hvl hv (fun u hu => by
      obtain ⟨j, hj, rfl⟩ := List.getElem_of_mem hu
      have hjd : j < ds.length := by omega
      have := hv j hjd
      rw [List.getD_eq_getElem?_getD, List.getElem?_eq_getElem hj, Option.getD_some] at this
      exact one_of_oneC this (List.all_eq_true.1 h2 _ (List.getElem_mem hjd)))
  | zs k zs sz ty =>
    simp only [stL] at h ⊢
    cases hys : intsA k ds with
    | none => rw [hys] at h; exact h.elim
    | some ys =>
      rw [hys] at h
      simp only
      have hds := intsA_spec hys
      have hvs' : vs = ys.map (Value.int k) := by
        apply List.ext_getElem
        · rw [hds] at hvl; simpa using hvl
        · intro j hj1 hj2
          have hjd : j < ds.length := by omega
          have := hv j hjd
          subst hds
          simp only [List.getElem_map] at this
          have := this.lit_inv
          rw [List.getD_eq_getElem?_getD, List.getElem?_eq_getElem hj1, Option.getD_some] at this
          simpa using this
      subst hvs'
      exact run_storeCells_zs (P := P) hw hmem h
  | obj o => exact h.elim
  | ro k zs sz ty => exact h.elim
end
end Go.Proofs.YtfknbndmabogjaaDoor
namespace Go.Proofs.YtfknbndmabogjaaDoor
open Go
set_option linter.unusedSimpArgs false
set_option linter.unusedVariables false
def apT (P : Program) (T : TypeId) : Option (TypeId × Nat × Nat) :=
  match P.underlying T with
  | some (.slice e) => match P.info? e with
    | some i => match i.zero with
      | some z => if z.cells.size = i.size then some (e, i.size, i.bytes) else none
      | none => none
    | none => none
  | _ => none
def srcC (H : Hp) (sz : Nat) : AV → Prop × Nat × List AV
  | .slz k zs => (sz = 1, zs.length, zs.map (iv k))
  | .sl n cs => (n * sz = cs.length, n, cs)
  | .lit (.slice (some ⟨b, off, none⟩) n _) => match hget H b with
    | some (.cells cs _ _) => (off + n * sz ≤ cs.length, n, (cs.drop off).take (n * sz))
    | some (.zs k zs _ _) => (off + n * sz ≤ zs.length, n, ((zs.drop off).take (n * sz)).map (iv k))
    | _ => (False, 0, [])
  | .lit (.slice none n _) => (n = 0, 0, [])
  | .lit (.string s) => (sz = 1, s.size, s.data.toList.map fun b => iv .u8 (b.toNat : Int))
  | _ => (False, 0, [])
def mkz (P : Program) (T : TypeId) : Option (TypeId × Nat × IntKind) :=
  match P.underlying T with
  | some (.slice e) => match P.info? e with
    | some i => match i.zero with
      | some (.int k 0) => if i.size = 1 then some (e, i.bytes, k) else none
      | _ => none
    | none => none
  | _ => none
def srcM (q : Option (TypeId × Nat × IntKind)) (k : IntKind) (l : Int) : Prop × List Int :=
  match q with
  | some (_, _, k') => (k' = k ∧ 0 ≤ l ∧ l ≤ 9223372036854775807, List.replicate l.toNat 0)
  | none => (False, [])
def srcZ (P : Program) (T : TypeId) (H : Hp) (k : IntKind) : AV → Prop × List Int
  | .slz k' zs => (k' = k, zs)
  | .lit (.slice (some ⟨b, off, none⟩) n _) => match hget H b with
    | some (.zs k' zs _ _) => (k' = k ∧ off + n ≤ zs.length, (zs.drop off).take n)
    | some (.cells cs _ _) => match intsA k ((cs.drop off).take n) with
      | some ys => (off + n ≤ cs.length, ys)
      | none => (False, [])
    | _ => (False, [])
  | .lit (.slice none n _) => (n = 0, [])
  | .lit (.string s) => (k = .u8, s.data.toList.map fun b => (b.toNat : Int))
  | .lit (.int _ l) => srcM (mkz P T) k l
  | _ => (False, [])
def uOk (P : Program) (u : TypeId) : AV → Prop
  | .lit (.int _ _) => ∃ k, P.underlying u = some (.int k)
  | _ => P.underlying u = some .string ∨ ∃ e, P.underlying u = some (.slice e)
section
variable {P : Program} {cx : Cx} {w : World} {H : Hp}
theorem getD_map_lt {α β : Type} (f : α → β) (l : List α) (i : Nat) (d : β) (h : i < l.length) : (l.map f).getD i d = f l[i] := by simp [List.getD, h]
structure SrcOk (P : Program) (w : World) (sz : Nat) (v : Value) (m : Nat) (news : List Value) : Prop where
  len : ∀ w', (Builtin.lenOf v).run P w' = .ok m w'
  first : ∀ w', w'.heap = w.heap → (Builtin.firstCells sz m v).run P w' = .ok news.toArray w'
  size : news.length = m * sz
theorem cell?_heap {w w' : World} (h : w'.heap = w.heap) (a : Addr) : w'.cell? a = w.cell? a := by simp [World.cell?, h]
theorem srcOk_slice {sz m cap b off : Nat} {news : List Value} (hs : news.length = m * sz) (hc : ∀ j, j < news.length → w.cell? ⟨b, off + j, none⟩ = some (news.getD j undef)) :
    SrcOk P w sz (.slice (some ⟨b, off, none⟩) m cap) m news :=
  ⟨fun w' => by simp [Builtin.lenOf], fun w' hw => by
    have := run_firstCells_some (P := P) w' sz m ⟨b, off, none⟩ m cap news hs (fun j v hj => by
      have hjl : j < news.length := by
        rcases Nat.lt_or_ge j news.length with h | h
        · exact h
        · rw [List.getElem?_eq_none h] at hj; cases hj
      rw [Addr.add_none, cell?_heap hw, hc j hjl]
      simp [List.getD, hj])
    exact this, hs⟩
theorem srcOk_empty {sz cap : Nat} {a : Option Addr} : SrcOk P w sz (.slice a 0 cap) 0 [] :=
  ⟨fun w' => by simp [Builtin.lenOf], fun w' _ => by cases a <;> simp [Builtin.firstCells, loadCells, loadCellsFrom], by simp⟩
theorem srcOk_string {s : ByteArray} : SrcOk P w 1 (.string s) s.size (s.data.toList.map fun b => Value.int .u8 (b.toNat : Int)) :=
  ⟨fun w' => by simp [Builtin.lenOf], fun w' _ => by
    simp only [Builtin.firstCells, Sem.run_pure]
    congr 1
    have : (s.extract 0 s.size).data = s.data := by
      rw [ByteArray.data_extract]
      exact Array.extract_size
    rw [this]
    apply Array.ext'
    simp, by rw [List.length_map, Nat.mul_one]; rfl⟩
theorem srcC_sound {sz : Nat} {v : Value} {x : AV} {p : Prop} {m : Nat} {ds : List AV} (hw : OkW cx H w) (hv : Rep w (imm cx w H) v x) (hx : srcC H sz x = (p, m, ds)) (h : p) :
    ∃ news, SrcOk P w sz v m news ∧ news.length = ds.length ∧ ∀ i (hi : i < ds.length), Rep w (imm cx w H) (news.getD i undef) ds[i] := by
  unfold srcC at hx
  split at hx
  · rename_i k zs
    (simp only [Prod.mk.injEq] at hx; obtain ⟨rfl, rfl, rfl⟩ := hx)
    have h : sz = 1 := h
    subst h
    cases hv with
    | slz a k zs cap hn hm hsp =>
      refine ⟨zs.map (Value.int k), ?_, by simp, fun i hi => ?_⟩
      · rcases hsp with hsp | ⟨b, off, rfl, hb, hc⟩
        · have : zs = [] := List.eq_nil_of_length_eq_zero hsp
          subst this
          exact srcOk_empty
        · exact srcOk_slice (by simp) fun j hj => by
            have hj' : j < zs.length := by simpa using hj
            rw [hc j hj']
            simp [List.getD, hj']
      · have hi' : i < zs.length := by simpa using hi
        simp only [List.getElem_map]
        exact Rep.of_eq (getD_map_lt _ _ _ _ hi')
  · rename_i n cs
    (simp only [Prod.mk.injEq] at hx; obtain ⟨rfl, rfl, rfl⟩ := hx)
    have h : n * sz = cs.length := h
    cases hv with
    | sl a n cap cs g hn hm hsp r =>
      refine ⟨(List.range cs.length).map g, ?_, by simp, fun i hi => ?_⟩
      · rcases hsp with hsp | ⟨b, off, rfl, hb, hc⟩
        · by_cases hn0 : n = 0
          · subst hn0
            rw [hsp]
            exact srcOk_empty
          · have hz : sz = 0 := by
              rw [hsp] at h
              rcases Nat.mul_eq_zero.1 h with h | h
              · exact absurd h hn0
              · exact h
            subst hz
            rw [hsp]
            exact ⟨fun w' => by simp [Builtin.lenOf], fun w' _ => by cases a <;> simp [Builtin.firstCells, loadCells, loadCellsFrom], by simp⟩
        · exact srcOk_slice (by simp [h]) fun j hj => by
            have hj' : j < cs.length := by simpa using hj
            rw [hc j hj']
            simp [List.getD, hj']
      · have := r i hi
        simpa [List.getD, hi] using this
  · rename_i b off n cap
    have := hv.lit_inv; subst this
    cases hg : hget H b with
    | none => rw [hg] at hx; (simp only [Prod.mk.injEq] at hx; obtain ⟨rfl, rfl, rfl⟩ := hx); exact h.elim
    | some mb =>
      rw [hg] at hx
      cases mb with
      | cells cs s0 ty =>
        (simp only [Prod.mk.injEq] at hx; obtain ⟨rfl, rfl, rfl⟩ := hx)
        have h : off + n * sz ≤ cs.length := h
        obtain ⟨cur, c1, c2, c3, c4⟩ := hw.mem _ (hget_mem hg)
        have hl : ((cs.drop off).take (n * sz)).length = n * sz := by simp; omega
        refine ⟨(List.range (n * sz)).map fun j => cur.getD (off + j) undef, srcOk_slice (by simp) fun j hj => ?_, by simp only [hl]; simp, fun i hi => ?_⟩
        · have hj' : j < n * sz := by simpa using hj
          rw [cell_of_block c1]
          have : off + j < cur.size := by omega
          simp [List.getD, hj', this]
        · have hi' : i < n * sz := by simp only [hl] at hi; exact hi
          simp only [List.getElem_take, List.getElem_drop]
          have := c4 (off + i) (by omega)
          simpa [List.getD, hi'] using this
      | zs k zs s0 ty =>
        (simp only [Prod.mk.injEq] at hx; obtain ⟨rfl, rfl, rfl⟩ := hx)
        have h : off + n * sz ≤ zs.length := h
        obtain ⟨cur, c1, c2, c3, c4⟩ := hw.mem _ (hget_mem hg)
        have hl : ((zs.drop off).take (n * sz)).length = n * sz := by simp; omega
        refine ⟨((zs.drop off).take (n * sz)).map (Value.int k), srcOk_slice (by simp; omega) fun j hj => ?_, by simp, fun i hi => ?_⟩
        · have hj' : j < n * sz := by simp only [List.length_map, hl] at hj; exact hj
          rw [cell_of_block c1, c4 _ (by omega)]
          have : off + j < zs.length := by omega
          simp [List.getD, hj', this]
        · have hi' : i < ((zs.drop off).take (n * sz)).length := by simpa using hi
          simp only [List.getElem_map]
          exact Rep.of_eq (getD_map_lt _ _ _ _ hi')
      | obj o => (simp only [Prod.mk.injEq] at hx; obtain ⟨rfl, rfl, rfl⟩ := hx); exact h.elim
      | ro k0 zs0 s00 ty0 => (simp only [Prod.mk.injEq] at hx; obtain ⟨rfl, rfl, rfl⟩ := hx); exact h.elim
  · rename_i n cap
    (simp only [Prod.mk.injEq] at hx; obtain ⟨rfl, rfl, rfl⟩ := hx)
    have h : n = 0 := h
    subst h
    have := hv.lit_inv; subst this
    exact ⟨[], srcOk_empty, rfl, fun i hi => by simp at hi⟩
  · rename_i s
    (simp only [Prod.mk.injEq] at hx; obtain ⟨rfl, rfl, rfl⟩ := hx)
    have h : sz = 1 := h
    subst h
    have := hv.lit_inv; subst this
    refine ⟨_, srcOk_string, by simp, fun i hi => ?_⟩
    have hi' : i < s.data.toList.length := by simpa using hi
    simp only [List.getElem_map]
    exact Rep.of_eq (getD_map_lt _ _ _ _ hi')
  · (simp only [Prod.mk.injEq] at hx; obtain ⟨rfl, rfl, rfl⟩ := hx); exact h.elim
theorem srcZ_sound {T : TypeId} {k : IntKind} {v : Value} {x : AV} {p : Prop} {ys : List Int} (hw : OkW cx H w) (hv : Rep w (imm cx w H) v x) (hni : ∀ k l, x ≠ .lit (.int k l)) (hx : srcZ P T H k x = (p, ys)) (h : p) :
    SrcOk P w 1 v ys.length (ys.map (Value.int k)) := by
  unfold srcZ at hx
  split at hx
  · rename_i k' zs
    (simp only [Prod.mk.injEq] at hx; obtain ⟨rfl, rfl⟩ := hx)
    have h : k' = k := h
    subst h
    cases hv with
    | slz a k zs cap hn hm hsp =>
      rcases hsp with hsp | ⟨b, off, rfl, hb, hc⟩
      · have : zs = [] := List.eq_nil_of_length_eq_zero hsp
        subst this
        exact srcOk_empty
      · exact srcOk_slice (by simp) fun j hj => by
          have hj' : j < zs.length := by simpa using hj
          rw [hc j hj']
          simp [List.getD, hj']
  · rename_i b off n cap
    have := hv.lit_inv; subst this
    cases hg : hget H b with
    | none => rw [hg] at hx; (simp only [Prod.mk.injEq] at hx; obtain ⟨rfl, rfl⟩ := hx); exact h.elim
    | some mb =>
      rw [hg] at hx
      cases mb with
      | cells cs s0 ty =>
        simp only at hx
        cases hy : intsA k ((cs.drop off).take n) with
        | none => rw [hy] at hx; (simp only [Prod.mk.injEq] at hx; obtain ⟨rfl, rfl⟩ := hx); exact h.elim
        | some ys =>
          rw [hy] at hx
          (simp only [Prod.mk.injEq] at hx; obtain ⟨rfl, rfl⟩ := hx)
          have h : off + n ≤ cs.length := h
          obtain ⟨cur, c1, c2, c3, c4⟩ := hw.mem _ (hget_mem hg)
          have he := intsA_spec hy
          have hl : ys.length = n := by
            have := congrArg List.length he
            simp at this
            omega
          rw [hl]
          refine srcOk_slice (by simp [hl]) fun j hj => ?_
          have hj' : j < n := by simpa [hl] using hj
          rw [cell_of_block c1]
          have hjs : off + j < cur.size := by omega
          have hjc : off + j < cs.length := by omega
          have h4 := c4 (off + j) hjc
          have e : cs[off + j] = iv k (ys[j]'(by omega)) := by
            have : ((cs.drop off).take n)[j]'(by simp; omega) = (ys.map (iv k))[j]'(by simp; omega) := by simp only [he]
            simpa using this
          rw [e] at h4
          have h5 := h4.lit_inv
          simp [hjs] at h5
          simp [hjs, h5, List.getD, show j < ys.length by omega]
      | zs k' zs s0 ty =>
        (simp only [Prod.mk.injEq] at hx; obtain ⟨rfl, rfl⟩ := hx)
        obtain ⟨rfl, h⟩ : k' = k ∧ off + n ≤ zs.length := h
        obtain ⟨cur, c1, c2, c3, c4⟩ := hw.mem _ (hget_mem hg)
        have hl : ((zs.drop off).take n).length = n := by simp; omega
        rw [hl]
        refine srcOk_slice (by simp; omega) fun j hj => ?_
        have hj' : j < n := by simp only [List.length_map, hl] at hj; exact hj
        rw [cell_of_block c1, c4 _ (by omega)]
        have : off + j < zs.length := by omega
        simp [List.getD, hj', this]
      | obj o => (simp only [Prod.mk.injEq] at hx; obtain ⟨rfl, rfl⟩ := hx); exact h.elim
      | ro k0 zs0 s00 ty0 => (simp only [Prod.mk.injEq] at hx; obtain ⟨rfl, rfl⟩ := hx); exact h.elim
  · rename_i n cap
    (simp only [Prod.mk.injEq] at hx; obtain ⟨rfl, rfl⟩ := hx)
    have h : n = 0 := h
    subst h
    have := hv.lit_inv; subst this
    exact srcOk_empty
  · rename_i s
    (simp only [Prod.mk.injEq] at hx; obtain ⟨rfl, rfl⟩ := hx)
    have h : k = .u8 := h
    subst h
    have := hv.lit_inv; subst this
    have h1 := srcOk_string (P := P) (w := w) (s := s)
    have e : (s.data.toList.map fun b => (b.toNat : Int)).length = s.size := by rw [List.length_map]; rfl
    rw [e, List.map_map]
    exact h1
  · exact absurd rfl (hni _ _)
  · (simp only [Prod.mk.injEq] at hx; obtain ⟨rfl, rfl⟩ := hx); exact h.elim
/-! ### append by itself -/
theorem run_append_room' {t u ty e : TypeId} {du : TypeDesc} {i : TypeInfo} (ht : P.underlying t = some (.slice e)) (hu : P.underlying u = some du) (hdu : du = .string ∨ ∃ e', du = .slice e') (hi : P.info? e = some i)
    {b n cap m : Nat} {x : Value} {news : List Value} (hs : SrcOk P w i.size x m news) (hroom : n + m ≤ cap) :
    (Builtin.append_ #[t, u] ty #[.slice (some ⟨b, 0, none⟩) n cap, x]).run P w =
      ((storeCells ⟨b, n * i.size, none⟩ news).run P w).andThen fun _ w' => .ok (.slice (some ⟨b, 0, none⟩) (n + m) cap) w' := by
  have h1 := hs.len w
  have h2 := hs.first w rfl
  rcases hdu with rfl | ⟨e', rfl⟩ <;> simp [Builtin.append_, run_underlying ht, run_underlying hu, run_sizeOf_info hi, h1, h2, hroom, Addr.add_none]
theorem run_append_grow' {t u ty e : TypeId} {du : TypeDesc} {i : TypeInfo} {z : Value} (ht : P.underlying t = some (.slice e)) (hu : P.underlying u = some du) (hdu : du = .string ∨ ∃ e', du = .slice e') (hi : P.info? e = some i) (hz0 : i.zero = some z)
    {a : Option Addr} {n cap m : Nat} {x : Value} {news olds : List Value} (hs : SrcOk P w i.size x m news) (ho : SrcOk P w i.size (.slice a n cap) n olds) (hg : cap < n + m) (h63 : ((n + m : Nat) : Int) ≤ 9223372036854775807)
    (hb : (n + m) * i.bytes ≤ 140737488355328) :
    (Builtin.append_ #[t, u] ty #[.slice a n cap, x]).run P w =
      .ok (.slice (some ⟨w.heap.size, 0, none⟩) (n + m) (grownCap w (n + m) cap e))
        (w.drew.alloc (.cells (olds.toArray ++ news.toArray ++ Builtin.zeroCells z.cells (grownCap w (n + m) cap e - (n + m))) e)) := by
  have h1 := hs.len w
  have h2 := hs.first w.drew rfl
  have h3 := ho.first w.drew rfl
  have hn : ¬ (n + m ≤ cap) := by omega
  have h63' : ¬ (9223372036854775807 < ((n : Int) + (m : Int))) := by omega
  have hfit := growslice_fits (need := n + m) (old := cap) (bytes := i.bytes) (by omega) hb
  have h48' : ¬ (281474976710656 < Builtin.nextslicecap (n + m) cap * i.bytes) := by omega
  rcases hdu with rfl | ⟨e', rfl⟩ <;> simp [Builtin.append_, run_underlying ht, run_underlying hu, sizeOf, typeInfo, zeroValue, hi, hz0, h1, hn, h63', h48', Question.forced, h2, h3, newRow, grownCap]
  all_goals
    congr 2
    apply Array.ext'
    simp [List.append_assoc]
theorem run_append_none' {t u ty e : TypeId} {du : TypeDesc} {i : TypeInfo} (ht : P.underlying t = some (.slice e)) (hu : P.underlying u = some du) (hdu : du = .string ∨ ∃ e', du = .slice e') (hi : P.info? e = some i)
    {cap : Nat} {x : Value} (hs : SrcOk P w i.size x 0 []) :
    (Builtin.append_ #[t, u] ty #[.slice none 0 cap, x]).run P w = .ok (.slice none 0 cap) w := by
  have h1 := hs.len w
  have h2 := hs.first w rfl
  rcases hdu with rfl | ⟨e', rfl⟩ <;> simp [Builtin.append_, run_underlying ht, run_underlying hu, run_sizeOf_info hi, h1, h2]
structure ApR (P : Program) (w : World) (t u e : TypeId) (i : TypeInfo) (z : Value) (x : Value) (m : Nat) (news : List Value) : Prop where
  size : news.length = m * i.size
  room : ∀ {ty b n cap : Nat}, n + m ≤ cap → (n + m) * i.bytes ≤ 140737488355328 → (Builtin.append_ #[t, u] ty #[.slice (some ⟨b, 0, none⟩) n cap, x]).run P w =
      ((storeCells ⟨b, n * i.size, none⟩ news).run P w).andThen fun _ w' => .ok (.slice (some ⟨b, 0, none⟩) (n + m) cap) w'
  grow : ∀ {ty n cap : Nat} {a : Option Addr} {olds : List Value}, SrcOk P w i.size (.slice a n cap) n olds → cap < n + m → ((n + m : Nat) : Int) ≤ 9223372036854775807 → (n + m) * i.bytes ≤ 140737488355328 →
    (Builtin.append_ #[t, u] ty #[.slice a n cap, x]).run P w =
      .ok (.slice (some ⟨w.heap.size, 0, none⟩) (n + m) (grownCap w (n + m) cap e))
        (w.drew.alloc (.cells (olds.toArray ++ news.toArray ++ Builtin.zeroCells z.cells (grownCap w (n + m) cap e - (n + m))) e))
  none : m = 0 → ∀ {ty cap : Nat}, (Builtin.append_ #[t, u] ty #[.slice none 0 cap, x]).run P w = .ok (.slice none 0 cap) w
theorem ApR.of_src {t u e : TypeId} {du : TypeDesc} {i : TypeInfo} {z : Value} {x : Value} {m : Nat} {news : List Value} (ht : P.underlying t = some (.slice e)) (hu : P.underlying u = some du) (hdu : du = .string ∨ ∃ e', du = .slice e') (hi : P.info? e = some i) (hz : i.zero = some z)
    (hs : SrcOk P w i.size x m news) : ApR P w t u e i z x m news := {
  size := hs.size
  room := fun h _ => run_append_room' ht hu hdu hi hs h
  grow := fun ho hg h63 hb => run_append_grow' ht hu hdu hi hz hs ho hg h63 hb
  none := fun hm ty cap => by
    subst hm
    have hn : news = [] := List.eq_nil_of_length_eq_zero (by have := hs.size; simpa using this)
    subst hn
    exact run_append_none' ht hu hdu hi hs }
theorem ApR.zeros {t u e : TypeId} {k ku : IntKind} {i : TypeInfo} {z : Value} {l : Int} (ht : P.underlying t = some (.slice e)) (hu : P.underlying u = some (.int ku)) (hi : P.info? e = some i) (hz : i.zero = some z) (hzs : z.cells.size = i.size)
    (h0 : 0 ≤ l) (h1 : l ≤ 9223372036854775807) : ApR P w t u e i z (.int k l) l.toNat (Builtin.zeroCells z.cells l.toNat).toList := by
  have wl : IntKind.i64.wrap l = l := by rw [IntKind.wrap_i64]; omega
  have n1 : ¬ l < 0 := by omega
  have hmul : ∀ n : Nat, (n + l.toNat) * i.bytes ≤ 140737488355328 → ¬ (281474976710656 < l * (i.bytes : Int)) := by
    intro n hb
    have h2 : l.toNat * i.bytes ≤ 140737488355328 := Nat.le_trans (Nat.mul_le_mul_right _ (by omega)) hb
    have h3 : l * (i.bytes : Int) = ((l.toNat * i.bytes : Nat) : Int) := by rw [Int.natCast_mul, Int.toNat_of_nonneg h0]
    omega
  have hz0 : l.toNat * i.size = 0 → Builtin.zeroCells z.cells l.toNat = #[] := fun h => Array.eq_empty_of_size_eq_zero (by rw [size_zeroCells, hzs, h])
  refine ⟨by simp [size_zeroCells, hzs], fun {ty b n cap} hroom hb => ?_, fun {ty n cap a olds} ho hg h63 hb => ?_, fun hm ty cap => ?_⟩
  · have h2 := hmul n hb
    by_cases hs : l.toNat * i.size = 0
    · have he := hz0 hs
      simp [Builtin.append_, run_underlying ht, run_underlying hu, run_sizeOf_info hi, asInt, asIntOf, wl, n1, typeInfo, hi, h2, hs, hroom, Addr.add_none, he]
    · simp [Builtin.append_, run_underlying ht, run_underlying hu, run_sizeOf_info hi, asInt, asIntOf, wl, n1, typeInfo, zeroValue, hi, hz, h2, hs, hroom, Addr.add_none]
  · have h2 := hmul n hb
    have h3 := ho.first w.drew rfl
    have hn : ¬ (n + l.toNat ≤ cap) := by omega
    have h63' : ¬ (9223372036854775807 < ((n : Int) + (l.toNat : Int))) := by omega
    have hfit := growslice_fits (need := n + l.toNat) (old := cap) (bytes := i.bytes) (by omega) hb
    have h48' : ¬ (281474976710656 < Builtin.nextslicecap (n + l.toNat) cap * i.bytes) := by omega
    have h63'' : ¬ (9223372036854775807 < ((n : Int) + max l 0)) := by omega
    by_cases hs : l.toNat * i.size = 0
    · have he := hz0 hs
      simp [Builtin.append_, run_underlying ht, run_underlying hu, sizeOf, typeInfo, zeroValue, hi, hz, asInt, asIntOf, wl, n1, h2, hs, hn, h63', h63'', h48', Question.forced, h3, newRow, grownCap, he]
      try (congr 2; apply Array.ext'; simp [List.append_assoc])
    · simp [Builtin.append_, run_underlying ht, run_underlying hu, sizeOf, typeInfo, zeroValue, hi, hz, asInt, asIntOf, wl, n1, h2, hs, hn, h63', h63'', h48', Question.forced, h3, newRow, grownCap]
      try (congr 2; apply Array.ext'; simp [List.append_assoc])
  · have hl : l = 0 := by omega
    subst hl
    simp [Builtin.append_, run_underlying ht, run_underlying hu, run_sizeOf_info hi, asInt, asIntOf, typeInfo, hi, show IntKind.i64.wrap 0 = 0 from rfl]
/-! ### The block after it -/
def hrep : Hp → Nat → Nat → MB → Hp
  | [], _, _, _ => []
  | (b0, m0) :: r, b, b', m => if b = b0 then (b', m) :: r else (b0, m0) :: hrep r b b' m
theorem hrep_self (b : Nat) (m : MB) : ∀ H : Hp, hrep H b b m = hset H b m
  | [] => rfl
  | (b0, m0) :: r => by
    simp only [hrep, hset]
    split
    · rename_i h; subst h; rfl
    · rw [hrep_self b m r]
theorem hrep_perm {b b' : Nat} {m m' : MB} : ∀ {H : Hp}, hget H b = some m → ((b', m') :: H).Perm (hrep H b b' m' ++ [(b, m)])
  | [], h => by cases h
  | (b0, m0) :: r, h => by
    simp only [hget, hrep] at h ⊢
    split at h
    · rename_i he
      subst he
      cases h
      rw [if_pos rfl]
      exact (List.Perm.cons _ (List.perm_append_comm (l₁ := [(b, _)])))
    · rename_i he
      rw [if_neg he]
      exact (List.Perm.swap _ _ _).trans (List.Perm.cons _ (hrep_perm h))
def freshBut (H : Hp) (b b' : Nat) : Prop := ∀ x ∈ H, x.1 = b ∨ (x.1 ≠ b' ∧ b' ≠ x.1)
theorem OkW.conv {b : Nat} {m m' : MB} (hw : OkW cx H w) (hg : (b, m) ∈ H) (h : ∀ I, MOk w I b m → MOk w I b m') (hnr : isRo m = false := by rfl) :
    OkW cx (hset H b m') w ∧ ∀ c, imm cx w H c ↔ imm cx w (hset H b m') c := by
  have hI : ∀ c, imm cx w H c ↔ imm cx w (hset H b m') c := fun c => ⟨imm_keys (hset_keys _ _ _) rfl, imm_keys (hset_keys _ _ _).symm rfl⟩
  refine ⟨⟨by rw [hset_keys]; exact hw.nodup, fun x hx => ?_, fun x hx => ?_, hw.ext, ro_hset hw.nodup hw.ro hg _ hnr⟩, hI⟩
  · rcases hset_mem hw.nodup x hx with rfl | hx
    · exact hw.keys (b, m) hg
    · exact hw.keys x hx.1
  · rcases hset_mem hw.nodup x hx with rfl | hx
    · exact (h _ (hw.mem _ hg)).mono (fun c hc => ⟨(hI c).1 hc, rfl⟩) rfl
    · exact (hw.mem x hx.1).mono (fun c hc => ⟨(hI c).1 hc, rfl⟩) rfl
theorem hset_get {b : Nat} {m m' : MB} : ∀ {H : Hp}, hget H b = some m → hget (hset H b m') b = some m'
  | [], h => by cases h
  | (b0, m0) :: r, h => by
    simp only [hget, hset] at h ⊢
    split at h
    · rename_i he; subst he; simp [hget]
    · rename_i he; simp [he, hget, hset_get h]
theorem getElem_append_any {cs : List AV} {k i : Nat} (hi : i < (cs ++ List.replicate k AV.any).length) :
    (∃ h : i < cs.length, (cs ++ List.replicate k AV.any)[i] = cs[i]) ∨ (cs ++ List.replicate k AV.any)[i] = .any := by
  by_cases h : i < cs.length
  · exact .inl ⟨h, List.getElem_append_left h⟩
  · right
    rw [List.getElem_append_right (by omega)]
    simp
theorem append_own {t u ty e T0 : TypeId} {sz bytes b n cap m s0 : Nat} {x : Value} {news : List Value} {cs ds : List AV} (hT : apT P t = some (e, sz, bytes))
    (hw : OkW cx H w) (hg : hget H b = some (.cells cs s0 e)) (hn : cs.length = n * sz) (hcap : cap * sz = s0) (hcm : cap ≤ maxLen) (hA : ∀ i z, P.underlying t = some (.slice e) → P.info? e = some i → i.zero = some z → z.cells.size = i.size → i.size = sz → ApR P w t u e i z x m news) (hl : news.length = ds.length)
    (hr : ∀ i (hi : i < ds.length), Rep w (imm cx w H) (news.getD i undef) ds[i]) (h1 : ds.all oneC = true) (h63 : n + m ≤ maxLen) (hb : (n + m) * bytes ≤ 140737488355328) :
    ∃ b' cap' w', (Builtin.append_ #[t, u] ty #[.slice (some ⟨b, 0, none⟩) n cap, x]).run P w = .ok (.slice (some ⟨b', 0, none⟩) (n + m) cap') w' ∧
      n + m ≤ cap' ∧ cap' ≤ maxLen ∧ freshBut H b b' ∧ OkW cx (hrep H b b' (.cells (cs ++ ds) (cap' * sz) e)) w' ∧
      ∀ c, imm cx w H c → imm cx w' (hrep H b b' (.cells (cs ++ ds) (cap' * sz) e)) c ∧ w'.heap[c]? = w.heap[c]? := by
  unfold apT at hT
  split at hT
  · rename_i e' ht
    split at hT
    · rename_i i hi
      split at hT
      · rename_i z hz
        split at hT
        case isFalse => cases hT
        rename_i hzs
        cases hT
        have hs := hA i z ht hi hz hzs rfl
        have hmem := hget_mem hg
        obtain ⟨cur, c1, c2, c3, c4⟩ := hw.mem _ hmem
        have hds : ds.length = m * i.size := by rw [← hl]; exact hs.size
        by_cases hroom : n + m ≤ cap
        · have hfit : cs.length + ds.length ≤ s0 := by rw [hn, hds, ← hcap, ← Nat.add_mul]; exact Nat.mul_le_mul_right _ hroom
          obtain ⟨hw1, hI1⟩ := hw.conv (m' := .cells (cs ++ List.replicate (s0 - cs.length) .any) s0 e) hmem (fun I hm => by
            obtain ⟨cur, c1, c2, c3, c4⟩ := hm
            refine ⟨cur, c1, c2, by simp; omega, fun j hj => ?_⟩
            rcases getElem_append_any hj with ⟨h, he⟩ | he
            · rw [he]; exact c4 j h
            · rw [he]; exact .any _)
          have hone : ∀ v ∈ news, v.oneCell' = true := fun v hv => by
            obtain ⟨j, hj, rfl⟩ := List.getElem_of_mem hv
            have hjd : j < ds.length := by omega
            have := hr j hjd
            simp [List.getD, hj] at this
            exact one_of_oneC this (List.all_eq_true.1 h1 _ (List.getElem_mem hjd))
          obtain ⟨w', r1, r2, r3⟩ := run_storeCells_cells (P := P) hw1 (b := b) (off := n * i.size) (ds := ds) (vs := news) (hget_mem (hset_get hg)) (by simp; omega) hl
            (fun j hj => (hr j hj).mono fun c hc => ⟨(hI1 c).1 hc, rfl⟩) hone
          rw [hset_hset] at r2 r3
          generalize hcs2 : (cs ++ List.replicate (s0 - cs.length) AV.any).take (n * i.size) ++ ds ++ (cs ++ List.replicate (s0 - cs.length) AV.any).drop (n * i.size + ds.length) = cs2 at r2 r3
          have hpre : cs2.take (cs ++ ds).length = cs ++ ds := by
            rw [← hcs2, ← hn, List.take_left' rfl]
            exact List.take_left
          have hlen2 : cs2.length = s0 := by rw [← hcs2]; simp; omega
          obtain ⟨hw2, hI2⟩ := r2.conv (b := b) (m := .cells cs2 s0 e) (m' := .cells (cs ++ ds) s0 e) (hget_mem (hset_get hg)) (fun I hm => by
            obtain ⟨cur, c1, c2, c3, c4⟩ := hm
            refine ⟨cur, c1, c2, by simp; omega, fun j hj => ?_⟩
            have hj2 : j < cs2.length := by simp at hj; omega
            have := c4 j hj2
            have e2 : cs2[j] = (cs ++ ds)[j] := by
              have h3 : (cs2.take (cs ++ ds).length)[j]'(by simp at hj ⊢; omega) = (cs ++ ds)[j] := by simp only [hpre]
              rw [List.getElem_take] at h3
              exact h3
            rw [← e2]
            exact this)
          rw [hset_hset] at hw2 hI2
          refine ⟨b, cap, w', ?_, hroom, hcm, fun y hy => ?_, ?_, ?_⟩
          · rw [hs.room (ty := ty) hroom hb, r1]; rfl
          · by_cases hyb : y.1 = b
            · exact .inl hyb
            · exact .inr ⟨hyb, fun h => hyb h.symm⟩
          · rw [hrep_self, hcap]; exact hw2
          · rw [hrep_self, hcap]
            exact fun c hc => ⟨(hI2 c).1 (r3 c ((hI1 c).1 hc)).1, (r3 c ((hI1 c).1 hc)).2⟩
        · have hso : SrcOk P w i.size (.slice (some ⟨b, 0, none⟩) n cap) n ((List.range cs.length).map fun j => cur.getD j undef) :=
            srcOk_slice (by simp [hn]) fun j hj => by
              have hj' : j < cs.length := by simpa using hj
              rw [cell_of_block c1]
              have : j < cur.size := by omega
              simp [List.getD, hj', this]
          have hrun := hs.grow (ty := ty) hso (by omega) (by simp only [maxLen] at h63; omega) hb
          have hge := grownCap_ge w (n + m) cap e
          have hcm' := grownCap_le_maxLen w (n + m) cap e h63
          generalize grownCap w (n + m) cap e = cap' at hrun hge hcm'
          generalize hrow : ((List.range cs.length).map fun j => cur.getD j undef).toArray ++ news.toArray ++ Builtin.zeroCells z.cells (cap' - (n + m)) = row at hrun
          have hrs : row.size = cap' * i.size := by
            rw [← hrow]
            simp only [Array.size_append, List.size_toArray, List.length_map, List.length_range, size_zeroCells, hzs, hn, hs.size, ← Nat.add_mul]
            congr 1
            omega
          have hpush := hw.push (w' := w.drew.alloc (.cells row e)) (ob := .cells row e) (m := .cells (cs ++ ds) (cap' * i.size) e) rfl rfl rfl rfl
            ⟨row, by rw [heap_alloc]; exact Array.getElem?_push_size, hrs, by rw [← hrs, ← hrow]; simp; omega, fun j hj => by
              have hI := imm_push (m := .cells (cs ++ ds) (cap' * i.size) e) hw (heap_alloc w.drew (.cells row e))
              have hrl : row.toList = (((List.range cs.length).map fun j => cur.getD j undef) ++ news) ++ (Builtin.zeroCells z.cells (cap' - (n + m))).toList := by rw [← hrow]; simp
              have hg1 : row.getD j undef = row.toList.getD j undef := by simp [List.getD]
              have hjl : j < cs.length + ds.length := by simpa using hj
              by_cases hjc : j < cs.length
              · have e1 : row.getD j undef = cur.getD j undef := by
                  rw [hg1, hrl]
                  simp only [List.getD]
                  rw [List.getElem?_append_left (by simp; omega), List.getElem?_append_left (by simpa using hjc)]
                  simp [hjc]
                rw [e1, List.getElem_append_left hjc]
                exact (c4 j hjc).mono hI
              · have hjd : j - cs.length < ds.length := by simp at hj; omega
                have e1 : row.getD j undef = news.getD (j - cs.length) undef := by
                  rw [hg1, hrl]
                  simp only [List.getD]
                  rw [List.getElem?_append_left (by simp; omega), List.getElem?_append_right (by simpa using hjc)]
                  simp
                rw [e1, List.getElem_append_right (by omega)]
                exact (hr _ hjd).mono hI⟩
          have hp := hrep_perm (b' := w.heap.size) (m' := .cells (cs ++ ds) (cap' * i.size) e) hg
          have hd := (hpush.1.perm hp).drop
          refine ⟨w.heap.size, cap', _, hrun, hge, hcm', fun y hy => .inr (by have := keys_lt hw y hy; omega), hd.1, fun c hc => ⟨hd.2 c ((imm_perm hp).1 (hpush.2 c hc).1), (hpush.2 c hc).2⟩⟩
      · cases hT
    · cases hT
  · cases hT
end
end Go.Proofs.YtfknbndmabogjaaDoor
