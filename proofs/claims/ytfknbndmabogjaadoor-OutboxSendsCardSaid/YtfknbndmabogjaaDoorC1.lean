/-
  The walks and the laws that the statement leans on, part 1.
-/
import Derived.WalkKit
import Derived.ProofKit
import Derived.ChangeKeysEq
import Derived.Lib.Builder
import Derived.Lib.UnsafeStr
namespace Go.Proofs.YtfknbndmabogjaaDoor
open Go
/-! ## Values as data -/
inductive AV where
  | any
  | lit (v : Value)
  | sl (n : Nat) (cs : List AV)
  | slz (k : IntKind) (zs : List Int)
  | ip (cs : List AV)
  | ipz (k : IntKind) (zs : List Int)
  | agg (cs : List AV)
  | tup (cs : List AV)
  | ifc (t : TypeId) (x : AV)
  | gd (b : Bool) (x : AV)
abbrev iv (k : IntKind) (n : Int) : AV := .lit (.int k n)
abbrev bv (b : Bool) : AV := .lit (.bool b)
abbrev pt (b off : Nat) : AV := .lit (.pointer (some ⟨b, off, none⟩))
abbrev ms (b off n cap : Nat) : AV := .lit (.slice (some ⟨b, off, none⟩) n cap)
def Spot (w : World) (I : Nat → Prop) (a : Option Addr) (n : Nat) (g : Nat → Value) : Prop :=
  n = 0 ∨ ∃ b off, a = some ⟨b, off, none⟩ ∧ I b ∧ ∀ i, i < n → w.cell? ⟨b, off + i, none⟩ = some (g i)
inductive Rep (w : World) (I : Nat → Prop) : Value → AV → Prop
  | any (v : Value) : Rep w I v .any
  | lit (v : Value) : Rep w I v (.lit v)
  | sl (a : Option Addr) (n cap : Nat) (cs : List AV) (g : Nat → Value) (hn : n ≤ cap) (hm : cap ≤ maxLen)
      (h : Spot w I a cs.length g) (r : ∀ i (hi : i < cs.length), Rep w I (g i) cs[i]) : Rep w I (.slice a n cap) (.sl n cs)
  | slz (a : Option Addr) (k : IntKind) (zs : List Int) (cap : Nat) (hn : zs.length ≤ cap) (hm : cap ≤ maxLen)
      (h : Spot w I a zs.length (fun i => .int k (zs.getD i 0))) : Rep w I (.slice a zs.length cap) (.slz k zs)
  | ip (ad : Addr) (cs : List AV) (g : Nat → Value) (h : Spot w I (some ad) cs.length g)
      (r : ∀ i (hi : i < cs.length), Rep w I (g i) cs[i]) : Rep w I (.pointer (some ad)) (.ip cs)
  | ipz (ad : Addr) (k : IntKind) (zs : List Int) (h : Spot w I (some ad) zs.length (fun i => .int k (zs.getD i 0))) :
      Rep w I (.pointer (some ad)) (.ipz k zs)
  | agg (vs : Array Value) (cs : List AV) (hs : vs.size = cs.length) (r : ∀ i (hi : i < cs.length), Rep w I (vs.getD i undef) cs[i]) :
      Rep w I (.agg vs) (.agg cs)
  | tup (vs : Array Value) (cs : List AV) (hs : vs.size = cs.length) (r : ∀ i (hi : i < cs.length), Rep w I (vs.getD i undef) cs[i]) :
      Rep w I (.tuple vs) (.tup cs)
  | ifc (t : TypeId) (v : Value) (x : AV) (r : Rep w I v x) : Rep w I (.iface t v) (.ifc t x)
  | gdt (v : Value) (x : AV) (r : Rep w I v x) : Rep w I v (.gd true x)
  | gdf (x : AV) : Rep w I undef (.gd false x)
theorem Spot.mono {w w' : World} {I I' : Nat → Prop} (hI : ∀ b, I b → I' b ∧ w'.heap[b]? = w.heap[b]?) {a : Option Addr} {n : Nat} {g : Nat → Value}
    (h : Spot w I a n g) : Spot w' I' a n g := by
  rcases h with h | ⟨b, off, ha, hb, hc⟩
  · exact .inl h
  · refine .inr ⟨b, off, ha, (hI b hb).1, fun i hi => ?_⟩
    rw [World.cell?_of_block (w := w) (hI b hb).2]
    exact hc i hi
theorem Rep.mono {w w' : World} {I I' : Nat → Prop} (hI : ∀ b, I b → I' b ∧ w'.heap[b]? = w.heap[b]?) {v : Value} {x : AV}
    (h : Rep w I v x) : Rep w' I' v x := by
  induction h with
  | any v => exact .any v
  | lit v => exact .lit v
  | sl a n cap cs g hn hm h _ ih => exact .sl a n cap cs g hn hm (h.mono hI) ih
  | slz a k zs cap hn hm h => exact .slz a k zs cap hn hm (h.mono hI)
  | ip ad cs g h _ ih => exact .ip ad cs g (h.mono hI) ih
  | ipz ad k zs h => exact .ipz ad k zs (h.mono hI)
  | agg vs cs hs _ ih => exact .agg vs cs hs ih
  | tup vs cs hs _ ih => exact .tup vs cs hs ih
  | ifc t v x _ ih => exact .ifc t v x ih
  | gdt v x _ ih => exact .gdt v x ih
  | gdf x => exact .gdf x
theorem Rep.lit_inv {w : World} {I : Nat → Prop} {v u : Value} (h : Rep w I v (.lit u)) : v = u := by cases h; rfl
theorem Rep.of_eq {w : World} {I : Nat → Prop} {v u : Value} (h : v = u) : Rep w I v (.lit u) := by subst h; exact .lit _
theorem Rep.gd_true {w : World} {I : Nat → Prop} {v : Value} {x : AV} {b : Bool} (hb : b = true) (h : Rep w I v (.gd b x)) : Rep w I v x := by
  subst hb; cases h; assumption
theorem Rep.gd_false {w : World} {I : Nat → Prop} {v : Value} {x : AV} (h : Rep w I v (.gd false x)) : v = undef := by cases h; rfl
/-! ## Memory as data -/
inductive MB where
  | cells (cs : List AV) (sz : Nat) (ty : TypeId)
  | zs (k : IntKind) (zs : List Int) (sz : Nat) (ty : TypeId)
  | obj (o : Obj)
  | ro (k : IntKind) (zs : List Int) (sz : Nat) (ty : TypeId)
def isRo : MB → Bool
  | .ro .. => true
  | _ => false
abbrev Hp := List (Nat × MB)
def MOk (w : World) (I : Nat → Prop) (b : Nat) : MB → Prop
  | .cells cs sz ty => ∃ cur, w.heap[b]? = some (.cells cur ty (0, 0)) ∧ cur.size = sz ∧ cs.length ≤ sz ∧ ∀ i (hi : i < cs.length), Rep w I (cur.getD i undef) cs[i]
  | .zs k zs sz ty => ∃ cur, w.heap[b]? = some (.cells cur ty (0, 0)) ∧ cur.size = sz ∧ zs.length ≤ sz ∧ ∀ i, i < zs.length → cur[i]? = some (.int k (zs.getD i 0))
  | .obj o => w.heap[b]? = some o
  | .ro k zs sz ty => ∃ cur, w.heap[b]? = some (.cells cur ty (0, 0)) ∧ cur.size = sz ∧ zs.length ≤ sz ∧ ∀ i, i < zs.length → cur[i]? = some (.int k (zs.getD i 0))
theorem MOk.lt {w : World} {I : Nat → Prop} {b : Nat} {m : MB} (h : MOk w I b m) : b < w.heap.size := by
  cases m <;> simp only [MOk] at h
  case cells cs sz ty => obtain ⟨cur, h, _⟩ := h; exact (Array.getElem?_eq_some_iff.1 h).1
  case zs k zs sz ty => obtain ⟨cur, h, _⟩ := h; exact (Array.getElem?_eq_some_iff.1 h).1
  case ro k zs sz ty => obtain ⟨cur, h, _⟩ := h; exact (Array.getElem?_eq_some_iff.1 h).1
  case obj o => exact (Array.getElem?_eq_some_iff.1 h).1
theorem MOk.mono {w w' : World} {I I' : Nat → Prop} (hI : ∀ b, I b → I' b ∧ w'.heap[b]? = w.heap[b]?) {b : Nat} {m : MB}
    (hb : w'.heap[b]? = w.heap[b]?) (h : MOk w I b m) : MOk w' I' b m := by
  cases m <;> simp only [MOk] at h ⊢ <;> rw [hb]
  case cells cs sz ty => obtain ⟨cur, h1, h2, h3, h4⟩ := h; exact ⟨cur, h1, h2, h3, fun i hi => (h4 i hi).mono hI⟩
  case zs k zs sz ty => exact h
  case ro k zs sz ty => exact h
  case obj o => exact h
structure Cx where
  w0 : World
  I : Nat → Prop
  K : List Nat
  T : List Nat
  hI : ∀ b, I b → b < w0.heap.size ∧ (b ∉ K ∨ b ∈ T)
  hT : ∀ b ∈ T, b < w0.heap.size
def imm (cx : Cx) (w : World) (H : Hp) (b : Nat) : Prop :=
  cx.I b ∨ ((b ∈ cx.K ∨ cx.w0.heap.size ≤ b) ∧ b < w.heap.size ∧ ∀ x ∈ H, x.1 ≠ b)
structure Ext (w0 w : World) (K T : List Nat) : Prop where
  os : w.os = w0.os
  tape : w.tape = w0.tape
  output : w.output = w0.output
  size : w0.heap.size ≤ w.heap.size
  blk : ∀ b, b < w0.heap.size → b ∉ K ∨ b ∈ T → w.heap[b]? = w0.heap[b]?
structure OkW (cx : Cx) (H : Hp) (w : World) : Prop where
  nodup : (H.map (·.1)).Nodup
  keys : ∀ x ∈ H, x.1 ∈ cx.K ∨ cx.w0.heap.size ≤ x.1
  mem : ∀ x ∈ H, MOk w (imm cx w H) x.1 x.2
  ext : Ext cx.w0 w cx.K cx.T
  ro : ∀ x ∈ H, x.1 ∈ cx.T → isRo x.2 = true
theorem imm_lt {cx : Cx} {w : World} {H : Hp} (hx : cx.w0.heap.size ≤ w.heap.size) {b : Nat} (h : imm cx w H b) : b < w.heap.size := by
  rcases h with h | h
  · have := (cx.hI b h).1; omega
  · exact h.2.1
theorem imm_key {cx : Cx} {w : World} {H : Hp} (hk : ∀ x ∈ H, x.1 ∈ cx.K ∨ cx.w0.heap.size ≤ x.1) (hr : ∀ x ∈ H, x.1 ∈ cx.T → isRo x.2 = true) {b : Nat} (h : imm cx w H b) : ∀ x ∈ H, isRo x.2 = false → x.1 ≠ b := by
  rcases h with h | h
  · intro x hx hn he
    have h1 := cx.hI b h
    rcases hk x hx with h2 | h2
    · rcases h1.2 with h3 | h3
      · exact h3 (he ▸ h2)
      · have := hr x hx (he ▸ h3); rw [hn] at this; cases this
    · omega
  · exact fun x hx _ => h.2.2 x hx
def roK : Hp → List Nat
  | [] => []
  | (b, m) :: r => if isRo m then b :: roK r else roK r
theorem roK_mem {b : Nat} : ∀ {H : Hp}, b ∈ roK H ↔ ∃ x ∈ H, x.1 = b ∧ isRo x.2 = true
  | [] => by simp [roK]
  | (b', m) :: r => by
    unfold roK
    split
    · rename_i h
      rw [List.mem_cons, roK_mem]
      constructor
      · rintro (rfl | ⟨x, hx, h1, h2⟩)
        · exact ⟨_, List.mem_cons_self .., rfl, h⟩
        · exact ⟨x, List.mem_cons_of_mem _ hx, h1, h2⟩
      · rintro ⟨x, hx, h1, h2⟩
        rcases List.mem_cons.1 hx with rfl | hx
        · exact .inl h1.symm
        · exact .inr ⟨x, hx, h1, h2⟩
    · rename_i h
      rw [roK_mem]
      constructor
      · rintro ⟨x, hx, h1, h2⟩; exact ⟨x, List.mem_cons_of_mem _ hx, h1, h2⟩
      · rintro ⟨x, hx, h1, h2⟩
        rcases List.mem_cons.1 hx with rfl | hx
        · exact absurd h2 h
        · exact ⟨x, hx, h1, h2⟩
theorem eq_of_key {H : Hp} (hn : (H.map (·.1)).Nodup) : ∀ {x y : Nat × MB}, x ∈ H → y ∈ H → x.1 = y.1 → x = y := by
  induction H with
  | nil => intro x y hx; cases hx
  | cons z r ih =>
    intro x y hx hy he
    rw [List.map_cons, List.nodup_cons] at hn
    rcases List.mem_cons.1 hx with h1 | h1 <;> rcases List.mem_cons.1 hy with h2 | h2
    · rw [h1, h2]
    · exact absurd (by rw [← h1, he]; exact List.mem_map_of_mem h2) hn.1
    · exact absurd (by rw [← h2, ← he]; exact List.mem_map_of_mem h1) hn.1
    · exact ih hn.2 h1 h2 he
theorem roK_ro {H : Hp} (hn : (H.map (·.1)).Nodup) : ∀ x ∈ H, x.1 ∈ roK H → isRo x.2 = true := fun x hx h => by
  obtain ⟨y, hy, h1, h2⟩ := roK_mem.1 h
  rw [eq_of_key hn hx hy h1.symm]; exact h2
def look : List (Nat × AV) → Nat → AV
  | [], _ => .any
  | (j, v) :: r, i => if i = j then v else look r i
structure St where
  env : List (Nat × AV)
  H : Hp
structure Ok (cx : Cx) (n : Nat) (s : St) (a : Act) (w : World) : Prop where
  defers : a.defers = []
  size : a.tmps.size = n
  reps : ∀ i, Rep w (imm cx w s.H) (a.tmps.getD i undef) (look s.env i)
  world : OkW cx s.H w
def St.put (s : St) (d : Option Tmp) (v : AV) : St :=
  match d with
  | some d => { s with env := (d, v) :: s.env }
  | none => s
def okd (n : Nat) : Option Tmp → Prop
  | some d => d < n
  | none => True
theorem Ok.put {cx : Cx} {n : Nat} {s : St} {a : Act} {w : World} (h : Ok cx n s a w) {d : Option Tmp} (hd : okd n d) {v : Value} {x : AV}
    (hv : Rep w (imm cx w s.H) v x) : Ok cx n (s.put d x) (a.put d v) w := by
  cases d with
  | none => exact h
  | some d =>
    refine ⟨h.defers, by simp [Act.put, h.size], fun i => ?_, h.world⟩
    have hd' : d < a.tmps.size := by rw [h.size]; exact hd
    simp only [Act.put, St.put, look]
    by_cases hi : i = d
    · subst hi
      simp [hd', hv]
    · rw [if_neg hi]
      have := h.reps i
      simpa [Array.getElem?_setIfInBounds_ne (Ne.symm hi)] using this
theorem Ok.world_to {cx : Cx} {n : Nat} {s : St} {a : Act} {w w' : World} {H' : Hp} (h : Ok cx n s a w) (hw : OkW cx H' w')
    (hI : ∀ b, imm cx w s.H b → imm cx w' H' b ∧ w'.heap[b]? = w.heap[b]?) : Ok cx n { s with H := H' } a w' :=
  ⟨h.defers, h.size, fun i => (h.reps i).mono hI, hw⟩
/-! ## The judgement for code -/
def WP (P : Program) (cx : Cx) (n : Nat) (c : Code) (Q : Exit → St → Prop) (s : St) : Prop :=
  ∀ a w, Ok cx n s a w → c.wp P (fun e a' w' => ∃ s', Q e s' ∧ Ok cx n s' a' w') a w
def SeqQ (K : St → Prop) (Q : Exit → St → Prop) : Exit → St → Prop
  | .normal, s => K s
  | e, s => Q e s
def BlkQ (id : Nat) (Q : Exit → St → Prop) : Exit → St → Prop
  | .exit id', s => if id' = id then Q .normal s else Q (.exit id') s
  | e, s => Q e s
section
variable {P : Program} {cx : Cx} {n : Nat} {Q : Exit → St → Prop} {s : St}
theorem WP.mono {c : Code} {Q' : Exit → St → Prop} (h : WP P cx n c Q s) (hq : ∀ e s, Q e s → Q' e s) : WP P cx n c Q' s :=
  fun a w ok => Go.wp_mono (h a w ok) fun e _ _ ⟨s', q, ok'⟩ => ⟨s', hq e s' q, ok'⟩
theorem WP.seq {c1 c2 : Code} (h : ∀ K : St → Prop, (∀ s, WP P cx n c2 Q s → K s) → WP P cx n c1 (SeqQ K Q) s) : WP P cx n (.seq c1 c2) Q s := by
  intro a w ok
  refine Go.wp_seq (Go.wp_mono (h _ (fun _ h => h) a w ok) ?_)
  rintro e a' w' ⟨s', q, ok'⟩
  cases e with
  | normal => exact q a' w' ok'
  | exit id => exact ⟨s', q, ok'⟩
  | goto l => exact ⟨s', q, ok'⟩
  | ret => exact ⟨s', q, ok'⟩
  | panic ch => exact ⟨s', q, ok'⟩
  | outgrown => exact ⟨s', q, ok'⟩
theorem WP.block {id : Nat} {c : Code} (h : WP P cx n c (BlkQ id Q) s) : WP P cx n (.block id c) Q s := by
  intro a w ok
  refine Go.wp_block (Go.wp_mono (h a w ok) ?_)
  rintro e a' w' ⟨s', q, ok'⟩
  cases e with
  | exit id' =>
    simp only [BlkQ] at q
    simp only [Exit.inBlock]
    split
    · rename_i h; rw [if_pos h] at q; exact ⟨s', q, ok'⟩
    · rename_i h; rw [if_neg h] at q; exact ⟨s', q, ok'⟩
  | normal => exact ⟨s', q, ok'⟩
  | goto l => exact ⟨s', q, ok'⟩
  | ret => exact ⟨s', q, ok'⟩
  | panic ch => exact ⟨s', q, ok'⟩
  | outgrown => exact ⟨s', q, ok'⟩
theorem WP.skip (h : Q .normal s) : WP P cx n .skip Q s := fun _ _ ok => Go.wp_skip ⟨s, h, ok⟩
theorem WP.ret (h : Q .ret s) : WP P cx n .ret Q s := fun _ _ ok => Go.wp_ret ⟨s, h, ok⟩
theorem WP.exit {id : Nat} (h : Q (.exit id) s) : WP P cx n (.exit id) Q s := fun _ _ ok => Go.wp_exit ⟨s, h, ok⟩
def litv : Value → AV
  | .agg cs => .agg (cs.toList.map .lit)
  | v => .lit v
def opd (env : List (Nat × AV)) : Operand → AV
  | .tmp t => look env t
  | .const v => litv v
  | .global g => .lit (.pointer (some ⟨g, 0, none⟩))
  | .func f => .lit (.func (.func f) #[] #[])
theorem Rep.litv {w : World} {I : Nat → Prop} (v : Value) : Rep w I v (litv v) := by
  cases v <;> simp only [Proofs.YtfknbndmabogjaaDoor.litv]
  case agg cs =>
    refine .agg _ _ (by simp) fun i hi => ?_
    have hi' : i < cs.size := by simpa using hi
    simp [hi']
    exact .lit _
  all_goals exact .lit _
theorem Ok.opd {a : Act} {w : World} (h : Ok cx n s a w) (x : Operand) : Rep w (imm cx w s.H) (a.eval x) (opd s.env x) := by
  cases x with
  | tmp t => exact h.reps t
  | const v => exact Rep.litv v
  | global g => exact .lit _
  | func f => exact .lit _
theorem WP.cond {c : Operand} {x y : Code} {t : Bool} (hc : Proofs.YtfknbndmabogjaaDoor.opd s.env c = bv t) (ht : t = true → WP P cx n x Q s) (hf : t = false → WP P cx n y Q s) :
    WP P cx n (.cond c x y) Q s := by
  intro a w ok
  have hv := ok.opd c
  rw [hc] at hv
  refine Go.wp_cond_split (t := t) hv.lit_inv (fun h => ht h a w ok) (fun h => hf h a w ok)
theorem OkW.drop {H R : Hp} {w : World} (h : OkW cx (H ++ R) w) : OkW cx H w ∧ ∀ b, imm cx w (H ++ R) b → imm cx w H b := by
  have hI : ∀ b, imm cx w (H ++ R) b → imm cx w H b := by
    rintro b (hb | ⟨h1, h2, h3⟩)
    · exact .inl hb
    · exact .inr ⟨h1, h2, fun x hx => h3 x (List.mem_append_left _ hx)⟩
  refine ⟨⟨?_, fun x hx => h.keys x (List.mem_append_left _ hx), fun x hx => (h.mem x (List.mem_append_left _ hx)).mono (fun b hb => ⟨hI b hb, rfl⟩) rfl, h.ext, fun x hx => h.ro x (List.mem_append_left _ hx)⟩, hI⟩
  have := h.nodup
  rw [List.map_append, List.nodup_append] at this
  exact this.1
def Sub (s s' : St) : Prop := (∃ R, s.H.Perm (s'.H ++ R)) ∧ ∀ i, look s'.env i = .any ∨ look s'.env i = look s.env i
theorem imm_perm {w : World} {H H' : Hp} (hp : H.Perm H') {b : Nat} : imm cx w H b ↔ imm cx w H' b := by
  unfold imm
  constructor
  · rintro (h | ⟨h1, h2, h3⟩)
    · exact .inl h
    · exact .inr ⟨h1, h2, fun x hx => h3 x (hp.mem_iff.2 hx)⟩
  · rintro (h | ⟨h1, h2, h3⟩)
    · exact .inl h
    · exact .inr ⟨h1, h2, fun x hx => h3 x (hp.mem_iff.1 hx)⟩
theorem OkW.perm {w : World} {H H' : Hp} (hp : H.Perm H') (h : OkW cx H w) : OkW cx H' w := {
  nodup := (hp.map _).nodup_iff.1 h.nodup
  keys := fun x hx => h.keys x (hp.mem_iff.2 hx)
  mem := fun x hx => (h.mem x (hp.mem_iff.2 hx)).mono (fun _ hb => ⟨(imm_perm hp).1 hb, rfl⟩) rfl
  ext := h.ext
  ro := fun x hx => h.ro x (hp.mem_iff.2 hx) }
theorem Ok.sub {s' : St} {a : Act} {w : World} (h : Ok cx n s a w) (hs : Sub s s') : Ok cx n s' a w := by
  obtain ⟨⟨R, hp⟩, he⟩ := hs
  have hd := (h.world.perm hp).drop
  refine ⟨h.defers, h.size, fun i => ?_, hd.1⟩
  rcases he i with hi | hi
  · rw [hi]; exact .any _
  · rw [hi]; exact (h.reps i).mono fun b hb => ⟨hd.2 b ((imm_perm hp).1 hb), rfl⟩
theorem WP.sub {c : Code} {s' : St} (hs : Sub s s') (h : WP P cx n c Q s') : WP P cx n c Q s := fun a w ok => h a w (ok.sub hs)
theorem Sub.refl (s : St) : Sub s s := ⟨⟨[], by simp⟩, fun _ => .inr rfl⟩
theorem Sub.of_env {env env' : List (Nat × AV)} {H H' : Hp} (R : Hp) (hH : H.Perm (H' ++ R)) (h : ∀ p ∈ env', look env p.1 = p.2) : Sub ⟨env, H⟩ ⟨env', H'⟩ := by
  refine ⟨⟨R, hH⟩, fun i => ?_⟩
  show look env' i = .any ∨ look env' i = look env i
  induction env' with
  | nil => exact .inl rfl
  | cons p r ih =>
    simp only [look]
    split
    · rename_i hi
      have := h p (List.mem_cons_self ..)
      subst hi
      exact .inr this.symm
    · exact ih fun q hq => h q (List.mem_cons_of_mem _ hq)
def LoopQ {Γ : Type} (S : Γ → St) (φ : Γ → Prop) (μ : Γ → Nat) (g : Γ) (Q : Exit → St → Prop) : Exit → St → Prop
  | .normal, s => ∃ g', φ g' ∧ μ g' < μ g ∧ Sub s (S g')
  | e, s => Q e s
theorem WP.loop {c : Code} {Γ : Type} (S : Γ → St) (φ : Γ → Prop) (μ : Γ → Nat) (g0 : Γ) (h0 : φ g0) (hs : Sub s (S g0))
    (round : ∀ g, φ g → WP P cx n c (LoopQ S φ μ g Q) (S g)) : WP P cx n (.loop c) Q s := by
  intro a w ok b k cs
  have key : ∀ m g a w, μ g = m → φ g → Ok cx n (S g) a w →
      ∃ e a' w', (∃ s', Q e s' ∧ Ok cx n s' a' w') ∧ Arrives P (lone (b.at a (.code c :: .inLoop c :: k)) cs w) b k cs e a' w' := by
    intro m
    induction m using Nat.strongRecOn with
    | _ m ih =>
      intro g a w hm hg hok
      obtain ⟨e, a₁, w₁, ⟨s', hq, ok'⟩, harr⟩ := round g hg a w hok b (.inLoop c :: k) cs
      cases e with
      | normal =>
        obtain ⟨g', hg', hlt, hsub⟩ := hq
        obtain ⟨e₂, a₂, w₂, hq₂, harr₂⟩ := ih (μ g') (hm ▸ hlt) g' a₁ w₁ rfl hg' (ok'.sub hsub)
        exact ⟨e₂, a₂, w₂, hq₂, .of_steps (Steps.trans harr (.one step_inLoop)) harr₂⟩
      | exit id => exact ⟨_, a₁, w₁, ⟨s', hq, ok'⟩, .pass (x := .inLoop c) rfl (fun _ _ => .inl (by simp)) harr⟩
      | goto l => exact ⟨_, a₁, w₁, ⟨s', hq, ok'⟩, .pass (x := .inLoop c) rfl (fun _ _ => .inl (by simp)) harr⟩
      | ret => exact ⟨_, a₁, w₁, ⟨s', hq, ok'⟩, .pass (x := .inLoop c) rfl (fun _ _ => .inl (by simp)) harr⟩
      | panic ch => exact ⟨_, a₁, w₁, ⟨s', hq, ok'⟩, .pass (x := .inLoop c) rfl (fun _ _ => .inl (by simp)) harr⟩
      | outgrown => exact ⟨_, a₁, w₁, ⟨s', hq, ok'⟩, .pass (x := .inLoop c) rfl (fun _ _ => .inl (by simp)) harr⟩
  obtain ⟨e, a', w', hq, harr⟩ := key _ g0 a w rfl h0 (ok.sub hs)
  exact ⟨e, a', w', hq, .of_steps (.one step_loop) harr⟩
theorem WP.cut {c1 c2 : Code} {Γ : Type} (S : Γ → St) (φ : Γ → Prop)
    (h1 : WP P cx n c1 (SeqQ (fun s => ∃ g, φ g ∧ Sub s (S g)) Q) s) (h2 : ∀ g, φ g → WP P cx n c2 Q (S g)) : WP P cx n (.seq c1 c2) Q s :=
  WP.seq fun _ hK => h1.mono fun e _ q => by
    cases e with
    | normal => obtain ⟨g, hg, hsub⟩ := q; exact hK _ (WP.sub hsub (h2 g hg))
    | _ => exact q
/-! ## Lists of operations -/
def RP (P : Program) (cx : Cx) (n : Nat) (ops : Array Oper) (l : List Oper) (K : St → Prop) (s : St) : Prop :=
  ∀ R : Exit → Act → World → Prop, (∀ s a w, K s → Ok cx n s a w → R .normal a w) → ∀ a w, Ok cx n s a w → wpList P ops R l a w
theorem WP.region {id : Nat} {l : List Oper} (h : RP P cx n l.toArray l (Q .normal) s) : WP P cx n (.region id l.toArray false) Q s :=
  fun a w ok => wp_region_lit (h _ (fun _ _ _ hk ok' => ⟨_, hk, ok'⟩) a w ok)
variable {ops : Array Oper} {rest : List Oper} {K : St → Prop} {o : Oper}
theorem RP.nil (h : K s) : RP P cx n ops [] K s := fun _ hR a w ok => hR s a w h ok
theorem RP.sub {l : List Oper} {s' : St} (hs : Sub s s') (h : RP P cx n ops l K s') : RP P cx n ops l K s := fun R hR a w ok => h R hR a w (ok.sub hs)
def OpS (P : Program) (cx : Cx) (n : Nat) (o : Oper) (K : St → Prop) (s : St) : Prop :=
  ∀ (X : Act → World → Prop) (R : Exit → Act → World → Prop), (∀ s' a w, K s' → Ok cx n s' a w → X a w) → ∀ a w, Ok cx n s a w → o.wp P a w X R
theorem RP.step (hg : o.guard = none) (h : OpS P cx n o (RP P cx n ops rest K) s) : RP P cx n ops (o :: rest) K s :=
  fun R hR a w ok => wpList_plain hg fun X hX => h X R (fun _ a' w' hk ok' => hX a' w' (hk R hR a' w' ok')) a w ok
def PE (P : Program) (cx : Cx) (n : Nat) (o : Oper) (s : St) (x : AV) : Prop :=
  ∀ a w, Ok cx n s a w → ∃ v, (execOp a.eval o).run P w = .ok (.value v) w ∧ Rep w (imm cx w s.H) v x
theorem OpS.of_PE {x : AV} (hd : okd n o.dst) (h : PE P cx n o s x) (hk : K (s.put o.dst x)) : OpS P cx n o K s := by
  intro X R hX a w ok
  obtain ⟨v, hr, hv⟩ := h a w ok
  unfold Oper.wp
  rw [hr]
  exact hX _ _ _ hk (ok.put hd hv)
theorem RP.pure {x : AV} (hg : o.guard = none) (hd : okd n o.dst) (h : PE P cx n o s x) (hk : RP P cx n ops rest K (s.put o.dst x)) :
    RP P cx n ops (o :: rest) K s := RP.step hg (OpS.of_PE hd h hk)
def gdv (want : Bool) : AV → Option Bool
  | .lit (.bool t) => some (t == want)
  | .gd c (.lit (.bool t)) => some (c && (t == want))
  | _ => none
def gdOf (env : List (Nat × AV)) (ops : Array Oper) (j : Nat) (want : Bool) : Option Bool :=
  match (ops[j]?).bind (·.dst) with
  | some d => gdv want (look env d)
  | none => none
theorem wanted_of_gd {a : Act} {w : World} {j : Nat} {want c : Bool} (ok : Ok cx n s a w) (hgd : o.guard = some (j, want))
    (h : gdOf s.env ops j want = some c) : Region.wanted o (yielded ops a.tmps) = c := by
  unfold gdOf at h
  cases hd : (ops[j]?).bind (·.dst) with
  | none => rw [hd] at h; cases h
  | some d =>
    rw [hd] at h
    simp only [Region.wanted, hgd, yielded, hd, Option.bind_some]
    have hr := ok.reps d
    have hget : a.tmps.getD d undef = (a.tmps[d]?).getD undef := by simp
    rw [hget] at hr
    generalize hv : a.tmps[d]? = ov at *
    simp only at h
    generalize hx : look s.env d = x at *
    cases x <;> simp only [gdv] at h <;> try cases h
    case lit v =>
      have := hr.lit_inv
      subst this
      cases ov with
      | none => simp [undef] at h
      | some u => cases u <;> simp at h ⊢; rename_i t; subst h; cases t <;> cases want <;> rfl
    case gd c0 x0 =>
      cases x0 <;> try (simp at h; done)
      rename_i v
      cases v <;> simp at h
      rename_i t
      subst h
      cases c0
      · have : ov.getD undef = undef := hr.gd_false
        cases ov with
        | none => rfl
        | some u => simp at this; subst this; rfl
      · have := (Rep.gd_true rfl hr).lit_inv
        cases ov with
        | none => simp [undef] at this
        | some u => simp at this; subst this; cases t <;> cases want <;> rfl
theorem RP.pureG {x : AV} {j : Nat} {want c : Bool} (hg : o.guard = some (j, want)) (hc : gdOf s.env ops j want = some c) (hd : okd n o.dst)
    (h : c = true → PE P cx n o s x) (hk : RP P cx n ops rest K (s.put o.dst (.gd c x))) : RP P cx n ops (o :: rest) K s := by
  intro R hR a w ok
  refine wpList_step fun X hX => ?_
  rw [wanted_of_gd ok hg hc]
  cases c with
  | true =>
    rw [if_pos rfl]
    obtain ⟨v, hr, hv⟩ := h rfl a w ok
    unfold Oper.wp
    rw [hr]
    exact hX _ _ (hk R hR _ _ (ok.put hd (.gdt _ _ hv)))
  | false =>
    rw [if_neg (by simp)]
    exact hX _ _ (hk R hR _ _ (ok.put hd (.gdf _)))
theorem RP.stepG {j : Nat} {want c : Bool} (hg : o.guard = some (j, want)) (hc : gdOf s.env ops j want = some c) (hd : okd n o.dst)
    (h : c = true → OpS P cx n o (RP P cx n ops rest K) s) (hk : c = false → RP P cx n ops rest K (s.put o.dst (.lit undef))) : RP P cx n ops (o :: rest) K s := by
  intro R hR a w ok
  refine wpList_step fun X hX => ?_
  rw [wanted_of_gd ok hg hc]
  cases c with
  | true =>
    rw [if_pos rfl]
    exact h rfl X R (fun _ a' w' hk' ok' => hX a' w' (hk' R hR a' w' ok')) a w ok
  | false =>
    rw [if_neg (by simp)]
    exact hX _ _ (hk rfl R hR _ _ (ok.put hd (.lit _)))
end
end Go.Proofs.YtfknbndmabogjaaDoor
namespace Go.Proofs.YtfknbndmabogjaaDoor
open Go
set_option linter.unusedSimpArgs false
/-! ## Tables of the types -/
def tyc (P : Program) (T : TypeId) : Option (Option Nat) :=
  match P.underlying T with
  | none => none
  | some d => match P.info? T with
    | none => none
    | some i => match d with
      | .struct _ => some (some i.size)
      | .array _ _ => some (some i.size)
      | _ => if i.size = 1 then some none else none
def elt (P : Program) (T : TypeId) : Option (Option Nat × Nat) :=
  match P.underlying T with
  | some (.array len e) => (P.info? e).map fun i => (some len, i.size)
  | some (.slice e) => (P.info? e).map fun i => (none, i.size)
  | _ => none
def foff (P : Program) (T : TypeId) (f : Nat) : Option Nat :=
  match P.underlying T with
  | some (.struct fs) => match fs[f]? with
    | some fl => match P.info? fl.type with
      | some i => if i.size = 0 then none else some fl.offset
      | none => none
    | none => none
  | _ => none
section
variable {P : Program} {w : World} {T : TypeId}
theorem tyc_one (h : tyc P T = some none) : ∃ d i, P.underlying T = some d ∧ P.info? T = some i ∧ i.size = 1 ∧ (∀ fs, d ≠ .struct fs) ∧ ∀ n e, d ≠ .array n e := by
  unfold tyc at h
  split at h
  · cases h
  · rename_i d hd
    split at h
    · cases h
    · rename_i i hi
      split at h
      · cases h
      · cases h
      · rename_i h1 h2
        split at h
        · rename_i hs; exact ⟨d, i, hd, hi, hs, h1, h2⟩
        · cases h
theorem run_isAgg_one (h : tyc P T = some none) : (isAgg T).run P w = .ok false w := by
  obtain ⟨d, i, hd, hi, hs, h1, h2⟩ := tyc_one h
  unfold isAgg
  simp only [Sem.run_bind, run_underlying hd, Result.andThen_ok]
  cases d <;> simp_all
theorem run_isAgg_many {n : Nat} (h : tyc P T = some (some n)) : (isAgg T).run P w = .ok true w ∧ (sizeOf T).run P w = .ok n w := by
  unfold tyc at h
  unfold isAgg sizeOf typeInfo
  split at h
  · cases h
  · rename_i d hd
    split at h
    · cases h
    · rename_i i hi
      simp only [Sem.run_bind, run_underlying hd, Result.andThen_ok]
      split at h
      · cases h; simp [program, Sem.run, hi]
      · cases h; simp [program, Sem.run, hi]
      · split at h <;> cases h
theorem run_sizeOf_info {i : TypeInfo} (h : P.info? T = some i) : (sizeOf T).run P w = .ok i.size w := by
  unfold sizeOf typeInfo
  simp [program, Sem.run, h]
end
/-! ## Values -/
def strip : AV → Prop × AV
  | .gd b x => (b = true, x)
  | x => (True, x)
def og (env : List (Nat × AV)) (x : Operand) : Prop × AV := strip (opd env x)
def one (p : Prop × AV) (f : AV → Prop × AV) : Prop × AV := (p.1 ∧ (f p.2).1, (f p.2).2)
def both (p q : Prop × AV) (f : AV → AV → Prop × AV) : Prop × AV := (p.1 ∧ q.1 ∧ (f p.2 q.2).1, (f p.2 q.2).2)
def pickw : Bool → AV → AV → Prop × AV
  | true, .lit x, _ => (True, .lit x)
  | false, _, .lit y => (True, .lit y)
  | _, _, _ => (False, .any)
def pickv (t : Bool) : AV → AV → Prop × AV
  | .gd g (.lit (.bool u)), .lit (.bool v) => (t = true → g = true, bv (bif t then u else v))
  | .lit (.bool u), .gd g (.lit (.bool v)) => (t = false → g = true, bv (bif t then u else v))
  | .lit (.bool u), .lit (.bool v) => (True, bv (bif t then u else v))
  | a, b => pickw t a b
def picka (c a b : AV) : Prop × AV :=
  match c with
  | .lit (.bool t) => pickv t a b
  | _ => (False, .any)
def ibit (op : BinOp) (k : IntKind) (x y : Int) : Int :=
  let a := BitVec.ofInt k.bits x
  let b := BitVec.ofInt k.bits y
  match op with
  | .and => k.wrap (a &&& b).toNat
  | .or => k.wrap (a ||| b).toNat
  | .xor => k.wrap (a ^^^ b).toNat
  | _ => k.wrap (a &&& ~~~b).toNat
def bini (op : BinOp) (k : IntKind) (a : Int) (k' : IntKind) (b : Int) : Prop × AV :=
  match op with
  | .add => (k = k', iv k (k.wrap (a + b)))
  | .sub => (k = k', iv k (k.wrap (a - b)))
  | .mul => (k = k', iv k (k.wrap (a * b)))
  | .quo => (k = k' ∧ b ≠ 0, iv k (k.wrap (a.tdiv b)))
  | .rem => (k = k' ∧ b ≠ 0, iv k (a.tmod b))
  | .and => (k = k', iv k (ibit .and k a b))
  | .or => (k = k', iv k (ibit .or k a b))
  | .xor => (k = k', iv k (ibit .xor k a b))
  | .andNot => (k = k', iv k (ibit .andNot k a b))
  | .shl => (0 ≤ b, iv k (k.wrap (a * 2 ^ (min b.toNat k.bits))))
  | .shr => (0 ≤ b, iv k (a.fdiv (2 ^ (min b.toNat k.bits))))
  | .eql => (k = k', bv (a == b))
  | .neq => (k = k', bv (a != b))
  | .lss => (k = k', bv (decide (a < b)))
  | .leq => (k = k', bv (decide (a ≤ b)))
  | .gtr => (k = k', bv (decide (a > b)))
  | .geq => (k = k', bv (decide (a ≥ b)))
def bins (op : BinOp) (a b : ByteArray) : Prop × AV :=
  match op with
  | .add => (a.size + b.size ≤ 9223372036854775807, .lit (.string (a ++ b)))
  | .eql => (True, bv (a.toList == b.toList))
  | .neq => (True, bv (!(a.toList == b.toList)))
  | .lss => (True, bv (Op.bytesLess a.toList b.toList))
  | .leq => (True, bv (Op.bytesLess a.toList b.toList || a.toList == b.toList))
  | .gtr => (True, bv (!(Op.bytesLess a.toList b.toList || a.toList == b.toList)))
  | .geq => (True, bv (!Op.bytesLess a.toList b.toList))
  | _ => (False, .any)
def isBoolT (P : Program) (T : TypeId) : Prop := P.underlying T = some .bool
def isPtrT (P : Program) (T : TypeId) : Prop := ∃ e, P.underlying T = some (.pointer e)
def binb (P : Program) (T : TypeId) (op : BinOp) (a b : Bool) : Prop × AV :=
  match op with
  | .eql => (isBoolT P T, bv (a == b))
  | .neq => (isBoolT P T, bv (a != b))
  | _ => (False, .any)
def binp (P : Program) (T : TypeId) (op : BinOp) (r : Bool) : Prop × AV :=
  match op with
  | .eql => (isPtrT P T, bv r)
  | .neq => (isPtrT P T, bv (!r))
  | _ => (False, .any)
def ptB (P : Program) (T : TypeId) : Bool := match P.underlying T with
  | some (.pointer te) => (P.info? te).isSome
  | _ => false
theorem ptB_of {P : Program} {T : TypeId} (h : ptB P T = true) : ∃ te j, P.underlying T = some (.pointer te) ∧ P.info? te = some j := by
  unfold ptB at h
  split at h
  · rename_i te ht
    obtain ⟨j, hj⟩ := Option.isSome_iff_exists.1 h
    exact ⟨te, j, ht, hj⟩
  · cases h
def binpp (P : Program) (T : TypeId) (op : BinOp) (a b : Addr) : Prop × AV :=
  match op with
  | .eql => (a = b ∧ ptB P T = true, bv true)
  | .neq => (a = b ∧ ptB P T = true, bv false)
  | _ => (False, .any)
def isSlT (P : Program) (T : TypeId) : Prop := ∃ e, P.underlying T = some (.slice e)
def binq (P : Program) (T : TypeId) (op : BinOp) (r : Bool) : Prop × AV :=
  match op with
  | .eql => (isSlT P T, bv r)
  | .neq => (isSlT P T, bv (!r))
  | _ => (False, .any)
def eqCells : List AV → List AV → Prop × Bool
  | [], [] => (True, true)
  | .lit (.int k a) :: r, .lit (.int k' b) :: s => (k = k' ∧ (eqCells r s).1, a == b && (eqCells r s).2)
  | .lit (.bool a) :: r, .lit (.bool b) :: s => ((eqCells r s).1, a == b && (eqCells r s).2)
  | .lit (.string a) :: r, .lit (.string b) :: s => ((eqCells r s).1, a == b && (eqCells r s).2)
  | _, _ => (False, false)
def shp : AV → Nat
  | .lit (.int _ _) => 1
  | .lit (.bool _) => 2
  | .lit (.string _) => 3
  | _ => 0
def flatEq (P : Program) (T : TypeId) (sh : List Nat) : Prop :=
  P.eqGuardType P.depth T = false ∧
  ∀ (w : World) (I : Nat → Prop) (xs ys : Array Value) (cs ds : List AV), cs.map shp = sh → Rep w I (.agg xs) (.agg cs) → Rep w I (.agg ys) (.agg ds) → (eqCells cs ds).1 →
    (Op.equal T (.agg xs) (.agg ys)).run P w = .ok (eqCells cs ds).2 w
def shpT (P : Program) (t : TypeId) : Nat :=
  match P.underlying t with
  | some (.int _) => 1
  | some .bool => 2
  | some .string => 3
  | _ => 0
def flatFs (P : Program) : Nat → List Field → List Nat → Bool
  | _, [], [] => true
  | i, f :: fs, s :: ss => f.name != "_" && f.offset == i && shpT P f.type != 0 && shpT P f.type == s && flatFs P (i + 1) fs ss
  | _, _, _ => false
def flatB (P : Program) (T : TypeId) (sh : List Nat) : Bool :=
  !P.eqGuardType P.depth T && !P.stoodInHeld T && match P.underlying T with
  | some (.struct fs) => flatFs P 0 fs.toList sh
  | _ => false
theorem shpT_plain {P : Program} {t : TypeId} (h : shpT P t ≠ 0) : P.plainKey t = true := by
  unfold shpT at h
  unfold Program.plainKey
  split at h <;> simp_all
theorem eqFs {P : Program} {w : World} {I : Nat → Prop} {xs ys : Array Value} (n : Nat) : ∀ (fs : List Field) (sh : List Nat) (i : Nat) (cs ds : List AV), flatFs P i fs sh = true → cs.map shp = sh → (eqCells cs ds).1 →
    (∀ j, j < cs.length → i + j < xs.size ∧ Rep w I (xs.getD (i + j) undef) (cs.getD j .any)) → (∀ j, j < ds.length → i + j < ys.size ∧ Rep w I (ys.getD (i + j) undef) (ds.getD j .any)) →
    (Op.eqFields (n + 1) xs ys fs).run P w = .ok (eqCells cs ds).2 w
  | [], sh, i, cs, ds, hf, hs, he, hx, hy => by
    cases sh with
    | cons s ss => simp [flatFs] at hf
    | nil =>
      cases cs with
      | cons c cs => simp at hs
      | nil => cases ds with
        | cons d ds => simp [eqCells] at he
        | nil => simp [Op.eqFields, eqCells]
  | f :: fs, sh, i, cs, ds, hf, hs, he, hx, hy => by
    cases sh with
    | nil => simp [flatFs] at hf
    | cons s ss =>
      simp only [flatFs, Bool.and_eq_true, bne_iff_ne, beq_iff_eq] at hf
      obtain ⟨⟨⟨⟨h1, h2⟩, h3⟩, h4⟩, h5⟩ := hf
      cases cs with
      | nil => simp at hs
      | cons c cs =>
        simp only [List.map_cons, List.cons.injEq] at hs
        obtain ⟨hs1, hs2⟩ := hs
        cases ds with
        | nil => cases c <;> simp [eqCells] at he
        | cons d ds =>
          have ih := eqFs (w := w) (I := I) (xs := xs) (ys := ys) n fs ss (i + 1) cs ds h5 hs2
          have hx0 := hx 0 (by simp)
          have hy0 := hy 0 (by simp)
          simp only [Nat.add_zero, List.getD_cons_zero] at hx0 hy0
          have hx' : ∀ j, j < cs.length → i + 1 + j < xs.size ∧ Rep w I (xs.getD (i + 1 + j) undef) (cs.getD j .any) := fun j hj => by
            have := hx (j + 1) (by simp; omega)
            rw [List.getD_cons_succ] at this
            rw [show i + 1 + j = i + (j + 1) by omega]; exact this
          have hy' : ∀ j, j < ds.length → i + 1 + j < ys.size ∧ Rep w I (ys.getD (i + 1 + j) undef) (ds.getD j .any) := fun j hj => by
            have := hy (j + 1) (by simp; omega)
            rw [List.getD_cons_succ] at this
            rw [show i + 1 + j = i + (j + 1) by omega]; exact this
          have hp := shpT_plain h3
          have go : ∀ (u v : Value) (r : Bool), xs.getD i undef = u → ys.getD i undef = v → (Op.equalIn (n + 1) f.type u v).run P w = .ok r w → (eqCells cs ds).1 →
              (Op.eqFields (n + 1) xs ys (f :: fs)).run P w = .ok (r && (eqCells cs ds).2) w := by
            intro u v r hu hv hr hc
            have p1 : (part f.type xs f.offset).run P w = .ok u w := run_part_plain w hp (by
              rw [h2, Array.getElem?_eq_getElem hx0.1, ← hu]; simp [Array.getD, hx0.1])
            have p2 : (part f.type ys f.offset).run P w = .ok v w := run_part_plain w hp (by
              rw [h2, Array.getElem?_eq_getElem hy0.1, ← hv]; simp [Array.getD, hy0.1])
            simp only [Op.eqFields, h1, ne_eq, not_false_eq_true, if_true, Sem.run_bind, p1, p2, hr, Result.andThen_ok]
            cases r
            · simp
            · simpa using ih hc hx' hy'
          unfold eqCells at he ⊢
          split at he
          · cases ‹_ :: _ = []›
          · rename_i k a r k' b s' e1 e2
            simp only [List.cons.injEq] at e1 e2
            obtain ⟨rfl, rfl⟩ := e1
            obtain ⟨rfl, rfl⟩ := e2
            obtain ⟨rfl, hc⟩ := he
            obtain ⟨kt, hk⟩ : ∃ kt, P.underlying f.type = some (.int kt) := by
              simp only [shp] at hs1; rw [← hs1] at h4; unfold shpT at h4; split at h4 <;> first | exact ⟨_, ‹_›⟩ | cases h4
            exact go _ _ _ hx0.2.lit_inv hy0.2.lit_inv (run_equalIn_int w n f.type k kt a b hk) hc
          · rename_i a r b s' e1 e2
            simp only [List.cons.injEq] at e1 e2
            obtain ⟨rfl, rfl⟩ := e1
            obtain ⟨rfl, rfl⟩ := e2
            have hk : P.underlying f.type = some .bool := by
              simp only [shp] at hs1; rw [← hs1] at h4; unfold shpT at h4; split at h4 <;> first | assumption | cases h4
            exact go _ _ _ hx0.2.lit_inv hy0.2.lit_inv (run_equalIn_bool w n f.type a b hk) he
          · rename_i a r b s' e1 e2
            simp only [List.cons.injEq] at e1 e2
            obtain ⟨rfl, rfl⟩ := e1
            obtain ⟨rfl, rfl⟩ := e2
            have hk : P.underlying f.type = some .string := by
              simp only [shp] at hs1; rw [← hs1] at h4; unfold shpT at h4; split at h4 <;> first | assumption | cases h4
            have := go _ _ _ hx0.2.lit_inv hy0.2.lit_inv (run_equalIn_string w n f.type a b hk) he
            rw [← beq_toListBytes] at this
            exact this
          · exact he.elim
theorem flatEq_of {P : Program} {T : TypeId} {sh : List Nat} (h : flatB P T sh = true) : flatEq P T sh := by
  unfold flatB at h
  simp only [Bool.and_eq_true, Bool.not_eq_true'] at h
  obtain ⟨⟨h1, h2⟩, h3⟩ := h
  refine ⟨h1, fun w I xs ys cs ds hs hx hy he => ?_⟩
  split at h3
  · rename_i fs hu
    have hf : P.fieldsOf T = fs := by unfold Program.fieldsOf; rw [hu]
    obtain ⟨hxs, hxr⟩ : xs.size = cs.length ∧ ∀ i (hi : i < cs.length), Rep w I (xs.getD i undef) cs[i] := by cases hx; exact ⟨by assumption, by assumption⟩
    obtain ⟨hys, hyr⟩ : ys.size = ds.length ∧ ∀ i (hi : i < ds.length), Rep w I (ys.getD i undef) ds[i] := by cases hy; exact ⟨by assumption, by assumption⟩
    show (Op.equalIn (9999 + 1) T _ _).run P w = _
    rw [run_equalIn_struct w 9999 T xs ys (by rw [hf]; exact hu) h2, hf]
    refine eqFs (I := I) 9998 fs.toList sh 0 cs ds h3 hs he (fun j hj => ?_) (fun j hj => ?_)
    · have := hxr j hj
      rw [Nat.zero_add]
      exact ⟨by omega, by simpa [List.getD, hj] using this⟩
    · have := hyr j hj
      rw [Nat.zero_add]
      exact ⟨by omega, by simpa [List.getD, hj] using this⟩
  · cases h3
def bina (P : Program) (T : TypeId) (op : BinOp) (cs ds : List AV) : Prop × AV :=
  match op with
  | .eql => (flatEq P T (cs.map shp) ∧ (eqCells cs ds).1, bv (eqCells cs ds).2)
  | .neq => (flatEq P T (cs.map shp) ∧ (eqCells cs ds).1, bv (!(eqCells cs ds).2))
  | _ => (False, .any)
def binv (P : Program) (T : TypeId) (op : BinOp) : AV → AV → Prop × AV
  | .lit (.int k a), .lit (.int k' b) => bini op k a k' b
  | .lit (.string a), .lit (.string b) => bins op a b
  | .lit (.bool a), .lit (.bool b) => binb P T op a b
  | .lit (.pointer none), .lit (.pointer b) => binp P T op b.isNone
  | .lit (.pointer (some _)), .lit (.pointer none) => binp P T op false
  | .lit (.pointer (some a)), .lit (.pointer (some b)) => binpp P T op a b
  | .ip _, .lit (.pointer none) => binp P T op false
  | .ipz _ _, .lit (.pointer none) => binp P T op false
  | .lit (.slice a _ _), .lit (.slice none _ _) => binq P T op a.isNone
  | .slz _ zs, .lit (.slice none _ _) => (0 < zs.length ∧ (binq P T op false).1, (binq P T op false).2)
  | .sl _ cs, .lit (.slice none _ _) => (0 < cs.length ∧ (binq P T op false).1, (binq P T op false).2)
  | .agg cs, .agg ds => bina P T op cs ds
  | _, _ => (False, .any)
def unv (op : UnOp) : AV → Prop × AV
  | .lit (.bool b) => match op with
    | .not => (True, bv (!b))
    | _ => (False, .any)
  | .lit (.int k n) => match op with
    | .neg => (True, iv k (k.wrap (0 - n)))
    | .xor => (True, iv k (ibit .xor k (if k.signed then -1 else k.max) n))
    | _ => (False, .any)
  | _ => (False, .any)
section
variable {P : Program} {w : World} {I : Nat → Prop} {T : TypeId}
theorem run_bini {op : BinOp} {k k' : IntKind} {a b : Int} (h : (bini op k a k' b).1) :
    ∃ v, (bini op k a k' b).2 = .lit v ∧ (binOp op T (.int k a) (.int k' b)).run P w = .ok v w := by
  cases op <;> simp only [bini] at h ⊢ <;> refine ⟨_, rfl, ?_⟩
  case quo => obtain ⟨rfl, hb⟩ := h; simp [binOp, Op.intDiv, hb]
  case rem => obtain ⟨rfl, hb⟩ := h; simp [binOp, Op.intDiv, hb]
  case shl => simp [binOp, Op.shift, Int.not_lt.2 h]
  case shr => simp [binOp, Op.shift, Int.not_lt.2 h]
  all_goals (subst h; simp [binOp, Op.intArith, Op.intBits, Op.intCmp, ibit])
theorem run_eqGuard_plain {op : BinOp} {x y : Operand} {a b : Value} (h : ∀ xs ys, ¬ (a = .agg xs ∧ b = .agg ys)) (h' : ¬ (a = .nilIface ∧ b = .nilIface)) :
    (eqGuard op T x y a b).run P w = .ok () w := by
  unfold eqGuard
  cases op <;> simp <;> (cases a <;> cases b <;> simp_all)
theorem equal_succ (x y : Value) : Op.equal T x y = Op.equalIn (9999 + 1) T x y := rfl
theorem run_equal_bool (h : P.underlying T = some .bool) (a b : Bool) : (Op.equal T (.bool a) (.bool b)).run P w = .ok (a == b) w := by
  rw [equal_succ]
  generalize 9999 = d
  simp [Op.equalIn, run_underlying h]
theorem run_equal_nl {e : TypeId} (h : P.underlying T = some (.pointer e)) (b : Option Addr) : (Op.equal T (.pointer none) (.pointer b)).run P w = .ok b.isNone w := by
  rw [equal_succ]
  generalize 9999 = d
  simp [Op.equalIn, run_underlying h]
theorem run_equal_nr {e : TypeId} (h : P.underlying T = some (.pointer e)) (a : Addr) : (Op.equal T (.pointer (some a)) (.pointer none)).run P w = .ok false w := by
  rw [equal_succ]
  generalize 9999 = d
  simp [Op.equalIn, run_underlying h]
theorem run_equal_sn {e : TypeId} (h : P.underlying T = some (.slice e)) (a : Option Addr) (n c n' c' : Nat) : (Op.equal T (.slice a n c) (.slice none n' c')).run P w = .ok a.isNone w := by
  rw [equal_succ]
  generalize 9999 = d
  cases a <;> simp [Op.equalIn, run_underlying h]
theorem run_binq {op : BinOp} {a : Option Addr} {n c n' c' : Nat} (h : (binq P T op a.isNone).1) :
    ∃ v, (binq P T op a.isNone).2 = .lit v ∧ (binOp op T (.slice a n c) (.slice none n' c')).run P w = .ok v w := by
  cases op <;> simp only [binq, isSlT] at h ⊢ <;> first | (exact h.elim) | skip
  all_goals (obtain ⟨e, h⟩ := h; refine ⟨_, rfl, ?_⟩; simp [binOp, run_equal_sn h])
theorem run_bins {op : BinOp} {a b : ByteArray} (h : (bins op a b).1) :
    ∃ v, (bins op a b).2 = .lit v ∧ (binOp op T (.string a) (.string b)).run P w = .ok v w := by
  cases op <;> simp only [bins] at h ⊢ <;> first | (exact h.elim) | skip
  case add =>
    refine ⟨_, rfl, ?_⟩
    have : ¬ (((a.size + b.size : Nat) : Int) > IntKind.i64.max) := by
      simp only [IntKind.max, IntKind.signed, IntKind.bits]
      simp
      omega
    simp only [binOp, Op.stringOp, if_neg this, Sem.run_pure]
  all_goals (refine ⟨_, rfl, ?_⟩; simp [binOp, Op.stringOp])
theorem run_binb {op : BinOp} {a b : Bool} (h : (binb P T op a b).1) :
    ∃ v, (binb P T op a b).2 = .lit v ∧ (binOp op T (.bool a) (.bool b)).run P w = .ok v w := by
  cases op <;> simp only [binb, isBoolT] at h ⊢ <;> first | (exact h.elim) | skip
  all_goals (refine ⟨_, rfl, ?_⟩; simp [binOp, run_equal_bool h, bne])
theorem run_binp_nl {op : BinOp} {b : Option Addr} (h : (binp P T op b.isNone).1) :
    ∃ v, (binp P T op b.isNone).2 = .lit v ∧ (binOp op T (.pointer none) (.pointer b)).run P w = .ok v w := by
  cases op <;> simp only [binp, isPtrT] at h ⊢ <;> first | (exact h.elim) | skip
  all_goals (obtain ⟨e, h⟩ := h; refine ⟨_, rfl, ?_⟩; simp [binOp, run_equal_nl h])
theorem run_binp_nr {op : BinOp} {a : Addr} (h : (binp P T op false).1) :
    ∃ v, (binp P T op false).2 = .lit v ∧ (binOp op T (.pointer (some a)) (.pointer none)).run P w = .ok v w := by
  cases op <;> simp only [binp, isPtrT] at h ⊢ <;> first | (exact h.elim) | skip
  all_goals (obtain ⟨e, h⟩ := h; refine ⟨_, rfl, ?_⟩; simp [binOp, run_equal_nr h])
theorem run_binpp {op : BinOp} {a b : Addr} (h : (binpp P T op a b).1) :
    ∃ v, (binpp P T op a b).2 = .lit v ∧ (binOp op T (.pointer (some a)) (.pointer (some b))).run P w = .ok v w := by
  cases op <;> simp only [binpp] at h ⊢ <;> first | (exact h.elim) | skip
  all_goals
    obtain ⟨rfl, h⟩ := h
    obtain ⟨te, j, hp, hte⟩ := ptB_of h
    have h9 : ∀ d : Nat, (Op.equalIn (d + 1) T (.pointer (some a)) (.pointer (some a))).run P w = .ok true w := fun d => by
      simp [Op.equalIn, run_underlying hp, sizeOf, typeInfo, hte, run_sameAddr_same]
    refine ⟨_, rfl, ?_⟩
    simp only [binOp]
    simp [Op.equal, Op.maxDepth, h9 9999]
theorem run_bina {op : BinOp} {xs ys : Array Value} {cs ds : List AV} {x y : Operand} (hx : Rep w I (.agg xs) (.agg cs)) (hy : Rep w I (.agg ys) (.agg ds))
    (h : (bina P T op cs ds).1) : ∃ v, (bina P T op cs ds).2 = .lit v ∧
      (do eqGuard op T x y (.agg xs) (.agg ys); binOp op T (.agg xs) (.agg ys) : Sem Value).run P w = .ok v w := by
  cases op <;> simp only [bina] at h ⊢ <;> first | (exact h.elim) | skip
  all_goals
    obtain ⟨⟨hg, hf⟩, he⟩ := h
    have hr := hf w I xs ys cs ds rfl hx hy he
    refine ⟨_, rfl, ?_⟩
    simp [eqGuard, program, Sem.run, hg, binOp, hr]
theorem run_binv {op : BinOp} {x y : Operand} {u v : Value} {a b : AV} (hu : Rep w I u a) (hv : Rep w I v b) (h : (binv P T op a b).1) :
    ∃ r, (do eqGuard op T x y u v; binOp op T u v : Sem Value).run P w = .ok r w ∧ Rep w I r (binv P T op a b).2 := by
  unfold binv at h ⊢
  split at h
  · rename_i k m k' m'
    have := hu.lit_inv; have := hv.lit_inv; subst_vars
    obtain ⟨r, h1, h2⟩ := run_bini (P := P) (w := w) (T := T) h
    exact ⟨r, by rw [Sem.run_bind, run_eqGuard_plain (by simp) (by simp)]; exact h2, by rw [h1]; exact .lit _⟩
  · have := hu.lit_inv; have := hv.lit_inv; subst_vars
    obtain ⟨r, h1, h2⟩ := run_bins (P := P) (w := w) (T := T) h
    exact ⟨r, by rw [Sem.run_bind, run_eqGuard_plain (by simp) (by simp)]; exact h2, by rw [h1]; exact .lit _⟩
  · have := hu.lit_inv; have := hv.lit_inv; subst_vars
    obtain ⟨r, h1, h2⟩ := run_binb (P := P) (w := w) (T := T) h
    exact ⟨r, by rw [Sem.run_bind, run_eqGuard_plain (by simp) (by simp)]; exact h2, by rw [h1]; exact .lit _⟩
  · have := hu.lit_inv; have := hv.lit_inv; subst_vars
    obtain ⟨r, h1, h2⟩ := run_binp_nl (P := P) (w := w) (T := T) h
    exact ⟨r, by rw [Sem.run_bind, run_eqGuard_plain (by simp) (by simp)]; exact h2, by rw [h1]; exact .lit _⟩
  · have := hu.lit_inv; have := hv.lit_inv; subst_vars
    obtain ⟨r, h1, h2⟩ := run_binp_nr (P := P) (w := w) (T := T) h
    exact ⟨r, by rw [Sem.run_bind, run_eqGuard_plain (by simp) (by simp)]; exact h2, by rw [h1]; exact .lit _⟩
  · have := hu.lit_inv; have := hv.lit_inv; subst_vars
    obtain ⟨r, h1, h2⟩ := run_binpp (P := P) (w := w) (T := T) h
    exact ⟨r, by rw [Sem.run_bind, run_eqGuard_plain (by simp) (by simp)]; exact h2, by rw [h1]; exact .lit _⟩
  · have := hv.lit_inv; subst_vars
    cases hu
    obtain ⟨r, h1, h2⟩ := run_binp_nr (P := P) (w := w) (T := T) h
    exact ⟨r, by rw [Sem.run_bind, run_eqGuard_plain (by simp) (by simp)]; exact h2, by rw [h1]; exact .lit _⟩
  · have := hv.lit_inv; subst_vars
    cases hu
    obtain ⟨r, h1, h2⟩ := run_binp_nr (P := P) (w := w) (T := T) h
    exact ⟨r, by rw [Sem.run_bind, run_eqGuard_plain (by simp) (by simp)]; exact h2, by rw [h1]; exact .lit _⟩
  · have := hu.lit_inv; have := hv.lit_inv; subst_vars
    obtain ⟨r, h1, h2⟩ := run_binq (P := P) (w := w) (T := T) h
    exact ⟨r, by rw [Sem.run_bind, run_eqGuard_plain (by simp) (by simp)]; exact h2, by rw [h1]; exact .lit _⟩
  · have := hv.lit_inv; subst_vars
    obtain ⟨hl, h⟩ := h
    cases hu with
    | slz a k zs cap hn hm hs =>
      rcases hs with hs | ⟨b, off, rfl, _⟩
      · omega
      · obtain ⟨r, h1, h2⟩ := run_binq (P := P) (w := w) (T := T) (a := some ⟨b, off, none⟩) h
        exact ⟨r, by rw [Sem.run_bind, run_eqGuard_plain (by simp) (by simp)]; exact h2, by simp only at h1 ⊢; rw [show (binq P T op false).2 = .lit r from h1]; exact .lit _⟩
  · have := hv.lit_inv; subst_vars
    obtain ⟨hl, h⟩ := h
    cases hu with
    | sl a n cap cs g hn hm hs hr =>
      rcases hs with hs | ⟨b, off, rfl, _⟩
      · omega
      · obtain ⟨r, h1, h2⟩ := run_binq (P := P) (w := w) (T := T) (a := some ⟨b, off, none⟩) h
        exact ⟨r, by rw [Sem.run_bind, run_eqGuard_plain (by simp) (by simp)]; exact h2, by simp only at h1 ⊢; rw [show (binq P T op false).2 = .lit r from h1]; exact .lit _⟩
  · rename_i cs ds
    obtain ⟨xs, rfl⟩ : ∃ xs, u = .agg xs := by cases hu; exact ⟨_, rfl⟩
    obtain ⟨ys, rfl⟩ : ∃ ys, v = .agg ys := by cases hv; exact ⟨_, rfl⟩
    obtain ⟨r, h1, h2⟩ := run_bina (P := P) (T := T) (x := x) (y := y) hu hv h
    exact ⟨r, h2, by rw [h1]; exact .lit _⟩
  · exact h.elim
theorem run_unv {op : UnOp} {u : Value} {a : AV} (hu : Rep w I u a) (h : (unv op a).1) :
    ∃ r, (Op.unary op u).run P w = .ok r w ∧ Rep w I r (unv op a).2 := by
  unfold unv at h ⊢
  split at h
  · have := hu.lit_inv; subst this
    cases op <;> simp only at h ⊢ <;> first | exact h.elim | skip
    exact ⟨_, by simp [Op.unary], .lit _⟩
  · have := hu.lit_inv; subst this
    cases op <;> simp only at h ⊢ <;> first | exact h.elim | skip
    · exact ⟨_, by simp [Op.unary, Op.intArith], .lit _⟩
    · exact ⟨_, by simp [Op.unary, Op.intBits, ibit], .lit _⟩
  · exact h.elim
theorem rep_pick {c a b : AV} {u v z : Value} (hc : Rep w I u c) (ha : Rep w I v a) (hb : Rep w I z b) (h : (picka c a b).1) :
    ∃ t, u = .bool t ∧ Rep w I (if t then v else z) (picka c a b).2 := by
  unfold picka at h ⊢
  split at h
  · rename_i t
    refine ⟨t, hc.lit_inv, ?_⟩
    unfold pickv at h ⊢
    split at h
    · have := hb.lit_inv; subst this
      cases t
      · exact .lit _
      · have := (ha.gd_true (h rfl)).lit_inv; subst this; exact .lit _
    · have := ha.lit_inv; subst this
      cases t
      · have := (hb.gd_true (h rfl)).lit_inv; subst this; exact .lit _
      · exact .lit _
    · have := hb.lit_inv; have := ha.lit_inv; subst_vars
      cases t <;> exact .lit _
    · unfold pickw at h ⊢
      split at h
      · exact ha
      · exact hb
      · exact h.elim
  · exact h.elim
end
end Go.Proofs.YtfknbndmabogjaaDoor
namespace Go.Proofs.YtfknbndmabogjaaDoor
open Go
set_option linter.unusedSimpArgs false
def hget : Hp → Nat → Option MB
  | [], _ => none
  | (b', m) :: r, b => if b = b' then some m else hget r b
theorem hget_mem {H : Hp} {b : Nat} {m : MB} (h : hget H b = some m) : (b, m) ∈ H := by
  induction H with
  | nil => cases h
  | cons p r ih =>
    obtain ⟨b', m'⟩ := p
    simp only [hget] at h
    split at h
    · rename_i hb; subst hb; cases h; exact List.mem_cons_self ..
    · exact List.mem_cons_of_mem _ (ih h)
def load1m : Option MB → Nat → Prop × AV
  | some (.cells cs _ _), off => (off < cs.length, cs.getD off .any)
  | some (.zs k zs _ _), off => (off < zs.length, iv k (zs.getD off 0))
  | some (.ro k zs _ _), off => (off < zs.length, iv k (zs.getD off 0))
  | _, _ => (False, .any)
def load1 (H : Hp) : AV → Prop × AV
  | .ip cs => (0 < cs.length, cs.getD 0 .any)
  | .ipz k zs => (0 < zs.length, iv k (zs.getD 0 0))
  | .lit (.pointer (some ⟨b, off, none⟩)) => load1m (hget H b) off
  | _ => (False, .any)
def loadnm (n : Nat) : Option MB → Nat → Prop × AV
  | some (.cells cs _ _), off => (off + n ≤ cs.length, .agg ((cs.drop off).take n))
  | some (.zs k zs _ _), off => (off + n ≤ zs.length, .agg (((zs.drop off).take n).map (iv k)))
  | some (.ro k zs _ _), off => (off + n ≤ zs.length, .agg (((zs.drop off).take n).map (iv k)))
  | _, _ => (False, .any)
def loadn (H : Hp) (n : Nat) : AV → Prop × AV
  | .ip cs => (n ≤ cs.length, .agg (cs.take n))
  | .ipz k zs => (n ≤ zs.length, .agg ((zs.take n).map (iv k)))
  | .lit (.pointer (some ⟨b, off, none⟩)) => loadnm n (hget H b) off
  | _ => (False, .any)
def loadv (P : Program) (H : Hp) (T : TypeId) (x : AV) : Prop × AV :=
  match tyc P T with
  | some none => load1 H x
  | some (some n) => loadn H n x
  | none => (False, .any)
section
variable {P : Program} {w : World} {T : TypeId} {cx : Cx} {H : Hp}
theorem cell_of_block {b off : Nat} {cur : Array Value} {ty : TypeId} {fz : Nat × Nat} (h : w.heap[b]? = some (.cells cur ty fz)) : w.cell? ⟨b, off, none⟩ = cur[off]? := by
  simp [World.cell?, h]
theorem rep_load1 (hw : OkW cx H w) {v : Value} {x : AV} (hv : Rep w (imm cx w H) v x) (h : (load1 H x).1) :
    ∃ ad u, v = .pointer (some ad) ∧ w.cell? ad = some u ∧ Rep w (imm cx w H) u (load1 H x).2 := by
  unfold load1 at h ⊢
  split at h
  · cases hv with
    | ip ad cs g hs r =>
      rcases hs with hs | ⟨b, off, ha, hb, hc⟩
      · simp only [hs] at h; omega
      · cases ha
        refine ⟨_, _, rfl, hc 0 h, ?_⟩
        have := r 0 h
        simpa [List.getD, List.getElem?_eq_getElem h] using this
  · cases hv with
    | ipz ad k zs hs =>
      rcases hs with hs | ⟨b, off, ha, hb, hc⟩
      · simp only [hs] at h; omega
      · cases ha
        exact ⟨_, _, rfl, hc 0 h, .lit _⟩
  · rename_i b off
    have := hv.lit_inv
    subst this
    cases hg : hget H b with
    | none => rw [hg] at h; exact h.elim
    | some m =>
      rw [hg] at h
      cases m with
      | cells cs sz ty =>
        obtain ⟨cur, h1, h2, h3, h4⟩ := hw.mem _ (hget_mem hg)
        have hlt : off < cur.size := by have : off < cs.length := h; omega
        refine ⟨_, cur[off], rfl, by rw [cell_of_block h1]; simp [hlt], ?_⟩
        have h' : off < cs.length := h
        have e : cs.getD off .any = cs[off] := by simp [List.getD, h']
        have e2 : cur.getD off undef = cur[off] := by simp [hlt]
        show Rep w _ cur[off] (cs.getD off .any)
        rw [e, ← e2]
        exact h4 off h'
      | zs k zs sz ty =>
        obtain ⟨cur, h1, h2, h3, h4⟩ := hw.mem _ (hget_mem hg)
        exact ⟨_, _, rfl, by rw [cell_of_block h1]; exact h4 off h, .lit _⟩
      | ro k zs sz ty =>
        obtain ⟨cur, h1, h2, h3, h4⟩ := hw.mem _ (hget_mem hg)
        exact ⟨_, _, rfl, by rw [cell_of_block h1]; exact h4 off h, .lit _⟩
      | obj o => exact h.elim
  · exact h.elim
theorem rep_agg_range {I : Nat → Prop} {f : Nat → Value} {n : Nat} {cs : List AV} (hn : cs.length = n) (h : ∀ j (hj : j < cs.length), Rep w I (f j) cs[j]) :
    Rep w I (.agg ((List.range n).map f).toArray) (.agg cs) := by
  refine .agg _ _ (by simp [hn]) fun i hi => ?_
  have hi' : i < n := hn ▸ hi
  have : ((List.range n).map f).toArray.getD i undef = f i := by simp [hi']
  rw [this]
  exact h i hi
theorem Addr.add_none {b off j : Nat} : (⟨b, off, none⟩ : Addr).add j = ⟨b, off + j, none⟩ := by
  unfold Addr.add
  split <;> simp_all
theorem rep_loadn {n : Nat} (hw : OkW cx H w) {v : Value} {x : AV} (hv : Rep w (imm cx w H) v x) (h : (loadn H n x).1) :
    ∃ ad f, v = .pointer (some ad) ∧ (∀ j, j < n → w.cell? (ad.add j) = some (f j)) ∧ Rep w (imm cx w H) (.agg ((List.range n).map f).toArray) (loadn H n x).2 := by
  unfold loadn at h ⊢
  split at h
  · rename_i cs
    have h : n ≤ cs.length := h
    cases hv with
    | ip ad cs g hs r =>
      rcases hs with hs | ⟨b, off, ha, hb, hc⟩
      · have : n = 0 := by omega
        subst this
        exact ⟨ad, fun _ => undef, rfl, fun j hj => by omega, rep_agg_range (by simp) (by simp)⟩
      · cases ha
        refine ⟨_, g, rfl, fun j hj => by rw [Addr.add_none]; exact hc j (by omega), rep_agg_range (by simp; omega) fun j hj => ?_⟩
        simp only [List.length_take] at hj
        simp only [List.getElem_take]
        exact r j (by omega)
  · rename_i k zs
    have h : n ≤ zs.length := h
    cases hv with
    | ipz ad k zs hs =>
      rcases hs with hs | ⟨b, off, ha, hb, hc⟩
      · have : n = 0 := by omega
        subst this
        exact ⟨ad, fun _ => undef, rfl, fun j hj => by omega, rep_agg_range (by simp) (by simp)⟩
      · cases ha
        refine ⟨_, _, rfl, fun j hj => by rw [Addr.add_none]; exact hc j (by omega), rep_agg_range (by simp; omega) fun j hj => ?_⟩
        simp only [List.length_map, List.length_take] at hj
        have hj' : j < zs.length := by omega
        simp [List.getD, hj']
        exact .lit _
  · rename_i b off
    have := hv.lit_inv
    subst this
    cases hg : hget H b with
    | none => rw [hg] at h; exact h.elim
    | some m =>
      rw [hg] at h
      cases m with
      | cells cs sz ty =>
        have h : off + n ≤ cs.length := h
        obtain ⟨cur, h1, h2, h3, h4⟩ := hw.mem _ (hget_mem hg)
        refine ⟨_, fun j => cur.getD (off + j) undef, rfl, fun j hj => ?_, rep_agg_range (by simp; omega) fun j hj => ?_⟩
        · rw [Addr.add_none, cell_of_block h1]
          have : off + j < cur.size := by omega
          simp [this]
        · simp only [List.length_take, List.length_drop] at hj
          simp only [List.getElem_take, List.getElem_drop]
          exact h4 (off + j) (by omega)
      | zs k zs sz ty =>
        have h : off + n ≤ zs.length := h
        obtain ⟨cur, h1, h2, h3, h4⟩ := hw.mem _ (hget_mem hg)
        refine ⟨_, fun j => .int k (zs.getD (off + j) 0), rfl, fun j hj => ?_, rep_agg_range (by simp; omega) fun j hj => ?_⟩
        · rw [Addr.add_none, cell_of_block h1]
          exact h4 _ (by omega)
        · simp only [List.length_map, List.length_take, List.length_drop] at hj
          have : off + j < zs.length := by omega
          simp [List.getD, this]
          exact .lit _
      | ro k zs sz ty =>
        have h : off + n ≤ zs.length := h
        obtain ⟨cur, h1, h2, h3, h4⟩ := hw.mem _ (hget_mem hg)
        refine ⟨_, fun j => .int k (zs.getD (off + j) 0), rfl, fun j hj => ?_, rep_agg_range (by simp; omega) fun j hj => ?_⟩
        · rw [Addr.add_none, cell_of_block h1]
          exact h4 _ (by omega)
        · simp only [List.length_map, List.length_take, List.length_drop] at hj
          have : off + j < zs.length := by omega
          simp [List.getD, this]
          exact .lit _
      | obj o => exact h.elim
  · exact h.elim
theorem run_loadVar_of (hw : OkW cx H w) {v : Value} {x : AV} (hv : Rep w (imm cx w H) v x) (h : (loadv P H T x).1) :
    ∃ ad u, v = .pointer (some ad) ∧ (loadVar T ad).run P w = .ok u w ∧ Rep w (imm cx w H) u (loadv P H T x).2 := by
  unfold loadv at h ⊢
  split at h
  · rename_i ht
    obtain ⟨ad, u, rfl, hc, hr⟩ := rep_load1 hw hv h
    refine ⟨ad, u, rfl, ?_, hr⟩
    unfold loadVar
    simp only [Sem.run_bind, run_isAgg_one ht, Result.andThen_ok, Bool.false_eq_true, if_false]
    simp [load, Sem.run, hc]
  · rename_i n ht
    obtain ⟨ad, f, rfl, hc, hr⟩ := rep_loadn hw hv h
    refine ⟨ad, _, rfl, ?_, hr⟩
    unfold loadVar
    simp only [Sem.run_bind, (run_isAgg_many ht).1, (run_isAgg_many ht).2, Result.andThen_ok, if_true, run_loadCells w ad n f hc, Sem.run_pure]
  · exact h.elim
theorem run_load_of (hw : OkW cx H w) {v : Value} {x : AV} (hv : Rep w (imm cx w H) v x) (h : (loadv P H T x).1) :
    ∃ u, (Instr.loadAt T v).run P w = .ok u w ∧ Rep w (imm cx w H) u (loadv P H T x).2 := by
  obtain ⟨ad, u, rfl, h1, h2⟩ := run_loadVar_of hw hv h
  exact ⟨u, by simpa [Instr.loadAt, Instr.sureAddr] using h1, h2⟩
end
/-! ## Addresses -/
def addp (o : Nat) : AV → Prop × AV
  | .lit (.pointer (some ⟨b, off, none⟩)) => (True, pt b (off + o))
  | .ip cs => (True, .ip (cs.drop o))
  | .ipz k zs => (True, .ipz k (zs.drop o))
  | _ => (False, .any)
def faddv (P : Program) (T : TypeId) (f : Nat) (x : AV) : Prop × AV :=
  match foff P T f with
  | some o => addp o x
  | none => (False, .any)
def idxp (P : Program) (T : TypeId) (x : AV) (i : Int) : Prop × AV :=
  match elt P T with
  | some (some len, sz) => (0 ≤ i ∧ i < len ∧ (addp (i.toNat * sz) x).1, (addp (i.toNat * sz) x).2)
  | some (none, sz) => match x with
    | .slz k zs => (sz = 1 ∧ 0 ≤ i ∧ i < zs.length, .ipz k (zs.drop i.toNat))
    | .sl n cs => (0 ≤ i ∧ i < n ∧ (i.toNat + 1) * sz ≤ cs.length ∧ 0 < sz, .ip (cs.drop (i.toNat * sz)))
    | .lit (.slice (some ⟨b, off, none⟩) n _) => (0 ≤ i ∧ i < n, pt b (off + i.toNat * sz))
    | _ => (False, .any)
  | none => (False, .any)
def idxav (P : Program) (T : TypeId) (x i : AV) : Prop × AV :=
  match i with
  | .lit (.int _ i) => idxp P T x i
  | _ => (False, .any)
section
variable {P : Program} {w : World} {T : TypeId} {I : Nat → Prop}
theorem Spot.drop {ad : Addr} {n o : Nat} {g : Nat → Value} (h : Spot w I (some ad) n g) (ho : o < n) :
    ad.spot = none ∧ Spot w I (some (ad.add o)) (n - o) (fun i => g (o + i)) := by
  rcases h with h | ⟨b, off, ha, hb, hc⟩
  · omega
  · cases ha
    refine ⟨rfl, .inr ⟨b, off + o, by rw [Addr.add_none], hb, fun i hi => ?_⟩⟩
    have := hc (o + i) (by omega)
    rwa [← Nat.add_assoc] at this
theorem rep_addp {o : Nat} {v : Value} {x : AV} (hv : Rep w I v x) (h : (addp o x).1) : ∃ ad, v = .pointer (some ad) ∧ Rep w I (.pointer (some (ad.add o))) (addp o x).2 := by
  unfold addp at h ⊢
  split at h
  · have := hv.lit_inv; subst this
    exact ⟨_, rfl, by rw [Addr.add_none]; exact .lit _⟩
  · rename_i cs
    cases hv with
    | ip ad cs g hs r =>
      refine ⟨ad, rfl, ?_⟩
      by_cases ho : o < cs.length
      · obtain ⟨_, h2⟩ := hs.drop ho
        refine .ip _ _ (fun i => g (o + i)) (by simpa using h2) fun i hi => ?_
        simp only [List.length_drop] at hi
        simp only [List.getElem_drop]
        exact r _ (by omega)
      · exact .ip _ _ (fun _ => undef) (.inl (by simp; omega)) fun i hi => by simp at hi; omega
  · rename_i k zs
    cases hv with
    | ipz ad k zs hs =>
      refine ⟨ad, rfl, ?_⟩
      by_cases ho : o < zs.length
      · obtain ⟨_, h2⟩ := hs.drop ho
        exact .ipz _ _ _ (by simpa [List.getD] using h2)
      · exact .ipz _ _ _ (.inl (by simp; omega))
  · exact h.elim
theorem run_fadd {f : Nat} {v : Value} {x : AV} (hv : Rep w I v x) (h : (faddv P T f x).1) : ∃ u, (Instr.fieldAt T v f).run P w = .ok u w ∧ Rep w I u (faddv P T f x).2 := by
  unfold faddv at h ⊢
  split at h
  · rename_i o ho
    obtain ⟨ad, rfl, hr⟩ := rep_addp hv h
    refine ⟨_, ?_, hr⟩
    unfold foff at ho
    split at ho
    · rename_i fs hd
      split at ho
      · rename_i fl hfl
        split at ho
        · rename_i i hi
          split at ho
          · cases ho
          · rename_i hz
            cases ho
            simp [Instr.fieldAt, run_underlying hd, hfl, Instr.sureAddr, fieldPlace, run_sizeOf_info hi, hz]
        · cases ho
      · cases ho
    · cases ho
  · exact h.elim
theorem run_idx {v u : Value} {x i : AV} (hv : Rep w I v x) (hi : Rep w I u i) (h : (idxav P T x i).1) : ∃ r, (Instr.indexAt T v u).run P w = .ok r w ∧ Rep w I r (idxav P T x i).2 := by
  unfold idxav at h ⊢
  split at h
  · rename_i k i
    have := hi.lit_inv; subst this
    unfold idxp at h ⊢
    split at h
    · rename_i len sz he
      obtain ⟨h0, h1, h2⟩ := h
      obtain ⟨ad, rfl, hr⟩ := rep_addp hv h2
      unfold elt at he
      split at he
      · rename_i len' e hd
        cases hi' : P.info? e with
        | none => rw [hi'] at he; cases he
        | some inf =>
          rw [hi'] at he
          cases he
          exact ⟨_, by simp [Instr.indexAt, asIntOf, run_underlying hd, Instr.sureAddr, h0, h1, run_sizeOf_info hi'], hr⟩
      · rename_i e hd
        cases hi' : P.info? e with
        | none => rw [hi'] at he; cases he
        | some inf => rw [hi'] at he; cases he
      · cases he
    · rename_i sz he
      unfold elt at he
      split at he
      · rename_i len' e hd
        cases hi' : P.info? e with
        | none => rw [hi'] at he; cases he
        | some inf => rw [hi'] at he; cases he
      · rename_i e hd
        cases hi' : P.info? e with
        | none => rw [hi'] at he; cases he
        | some inf =>
          rw [hi'] at he
          cases he
          split at h
          · rename_i k' zs
            obtain ⟨hs, h0, h1⟩ := h
            cases hv with
            | slz a k zs cap hn hm hsp =>
              rcases hsp with hsp | ⟨b, off, rfl, hb, hc⟩
              · omega
              · refine ⟨.pointer (some ⟨b, off + i.toNat, none⟩), by simp [Instr.indexAt, asIntOf, run_underlying hd, h0, h1, run_sizeOf_info hi', hs, Addr.add_none], ?_⟩
                have hlt : i.toNat < zs.length := by omega
                refine .ipz _ _ _ (.inr ⟨b, off + i.toNat, rfl, hb, fun j hj => ?_⟩)
                have := hc (i.toNat + j) (by simp at hj; omega)
                simpa [Nat.add_assoc, List.getD] using this
          · rename_i n cs
            obtain ⟨h0, h1, h2, h3⟩ := h
            cases hv with
            | sl a n cap cs g hn hm hsp r =>
              have hlt : i.toNat * inf.size < cs.length := by rw [Nat.add_mul] at h2; omega
              rcases hsp with hsp | ⟨b, off, rfl, hb, hc⟩
              · omega
              · refine ⟨.pointer (some ⟨b, off + i.toNat * inf.size, none⟩), by simp [Instr.indexAt, asIntOf, run_underlying hd, h0, h1, run_sizeOf_info hi', Addr.add_none], ?_⟩
                refine .ip _ _ (fun j => g (i.toNat * inf.size + j)) (.inr ⟨b, off + i.toNat * inf.size, rfl, hb, fun j hj => ?_⟩) fun j hj => ?_
                · have := hc (i.toNat * inf.size + j) (by simp at hj; omega)
                  rwa [← Nat.add_assoc] at this
                · simp only [List.length_drop] at hj
                  simp only [List.getElem_drop]
                  exact r _ (by omega)
          · obtain ⟨h0, h1⟩ := h
            have := hv.lit_inv; subst this
            exact ⟨_, by simp [Instr.indexAt, asIntOf, run_underlying hd, h0, h1, run_sizeOf_info hi', Addr.add_none], .lit _⟩
          · exact h.elim
      · cases he
    · exact h.elim
  · exact h.elim
end
end Go.Proofs.YtfknbndmabogjaaDoor
