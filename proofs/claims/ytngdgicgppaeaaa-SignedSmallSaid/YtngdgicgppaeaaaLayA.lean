/-
  The core of a layer over the guide's Code.wp: values and memory as data, one judgement for code, its rules for control, loops, regions.
-/
import Derived.WalkKit
import Derived.ProofKit
namespace Go.Proofs.Ytngdgicgppaeaaa
open Go

/-! ## Values as data -/

inductive AV where
  | any
  | lit (v : Value)
  | sl (n : Nat) (cs : List AV)
  | slz (k : IntKind) (zs : List Int)
  | ip (cs : List AV)
  | ipz (k : IntKind) (zs : List Int)
  | agg (cs : List AV)
  | tup (cs : List AV)
  | ifc (t : TypeId) (x : AV)
  | gd (b : Bool) (x : AV)

abbrev iv (k : IntKind) (n : Int) : AV := .lit (.int k n)
abbrev bv (b : Bool) : AV := .lit (.bool b)
abbrev sv (s : List UInt8) : AV := .lit (.string ⟨s.toArray⟩)
abbrev pt (b off : Nat) : AV := .lit (.pointer (some ⟨b, off, none⟩))
abbrev ms (b off n cap : Nat) : AV := .lit (.slice (some ⟨b, off, none⟩) n cap)

/-- n cells from an address on, in blocks that nobody writes. -/
def Spot (w : World) (I : Nat → Prop) (a : Option Addr) (n : Nat) (g : Nat → Value) : Prop :=
  n = 0 ∨ ∃ b off, a = some ⟨b, off, none⟩ ∧ I b ∧ ∀ i, i < n → w.cell? ⟨b, off + i, none⟩ = some (g i)

inductive Rep (w : World) (I : Nat → Prop) : Value → AV → Prop
  | any (v : Value) : Rep w I v .any
  | lit (v : Value) : Rep w I v (.lit v)
  | sl (a : Option Addr) (n cap : Nat) (cs : List AV) (g : Nat → Value) (hn : n ≤ cap) (hm : cap ≤ maxLen)
      (h : Spot w I a cs.length g) (r : ∀ i (hi : i < cs.length), Rep w I (g i) cs[i]) : Rep w I (.slice a n cap) (.sl n cs)
  | slz (a : Option Addr) (k : IntKind) (zs : List Int) (cap : Nat) (hn : zs.length ≤ cap) (hm : cap ≤ maxLen)
      (h : Spot w I a zs.length (fun i => .int k (zs.getD i 0))) : Rep w I (.slice a zs.length cap) (.slz k zs)
  | ip (ad : Addr) (cs : List AV) (g : Nat → Value) (h : Spot w I (some ad) cs.length g)
      (r : ∀ i (hi : i < cs.length), Rep w I (g i) cs[i]) : Rep w I (.pointer (some ad)) (.ip cs)
  | ipz (ad : Addr) (k : IntKind) (zs : List Int) (h : Spot w I (some ad) zs.length (fun i => .int k (zs.getD i 0))) :
      Rep w I (.pointer (some ad)) (.ipz k zs)
  | agg (vs : Array Value) (cs : List AV) (hs : vs.size = cs.length) (r : ∀ i (hi : i < cs.length), Rep w I (vs.getD i undef) cs[i]) :
      Rep w I (.agg vs) (.agg cs)
  | tup (vs : Array Value) (cs : List AV) (hs : vs.size = cs.length) (r : ∀ i (hi : i < cs.length), Rep w I (vs.getD i undef) cs[i]) :
      Rep w I (.tuple vs) (.tup cs)
  | ifc (t : TypeId) (v : Value) (x : AV) (r : Rep w I v x) : Rep w I (.iface t v) (.ifc t x)
  | gdt (v : Value) (x : AV) (r : Rep w I v x) : Rep w I v (.gd true x)
  | gdf (x : AV) : Rep w I undef (.gd false x)

theorem Spot.mono {w w' : World} {I I' : Nat → Prop} (hI : ∀ b, I b → I' b ∧ w'.heap[b]? = w.heap[b]?) {a : Option Addr} {n : Nat} {g : Nat → Value}
    (h : Spot w I a n g) : Spot w' I' a n g := by
  rcases h with h | ⟨b, off, ha, hb, hc⟩
  · exact .inl h
  · refine .inr ⟨b, off, ha, (hI b hb).1, fun i hi => ?_⟩
    rw [World.cell?_of_block (w := w) (hI b hb).2]
    exact hc i hi

theorem Rep.mono {w w' : World} {I I' : Nat → Prop} (hI : ∀ b, I b → I' b ∧ w'.heap[b]? = w.heap[b]?) {v : Value} {x : AV}
    (h : Rep w I v x) : Rep w' I' v x := by
  induction h with
  | any v => exact .any v
  | lit v => exact .lit v
  | sl a n cap cs g hn hm h _ ih => exact .sl a n cap cs g hn hm (h.mono hI) ih
  | slz a k zs cap hn hm h => exact .slz a k zs cap hn hm (h.mono hI)
  | ip ad cs g h _ ih => exact .ip ad cs g (h.mono hI) ih
  | ipz ad k zs h => exact .ipz ad k zs (h.mono hI)
  | agg vs cs hs _ ih => exact .agg vs cs hs ih
  | tup vs cs hs _ ih => exact .tup vs cs hs ih
  | ifc t v x _ ih => exact .ifc t v x ih
  | gdt v x _ ih => exact .gdt v x ih
  | gdf x => exact .gdf x

theorem Rep.lit_inv {w : World} {I : Nat → Prop} {v u : Value} (h : Rep w I v (.lit u)) : v = u := by cases h; rfl
theorem Rep.of_eq {w : World} {I : Nat → Prop} {v u : Value} (h : v = u) : Rep w I v (.lit u) := by subst h; exact .lit _
theorem Rep.gd_true {w : World} {I : Nat → Prop} {v : Value} {x : AV} {b : Bool} (hb : b = true) (h : Rep w I v (.gd b x)) : Rep w I v x := by
  subst hb; cases h; assumption

theorem Rep.gd_false {w : World} {I : Nat → Prop} {v : Value} {x : AV} (h : Rep w I v (.gd false x)) : v = undef := by cases h; rfl

/-! ## Memory as data -/

inductive MB where
  | cells (cs : List AV) (sz : Nat) (ty : TypeId)
  | zs (k : IntKind) (zs : List Int) (sz : Nat) (ty : TypeId)
  | obj (o : Obj)

abbrev Hp := List (Nat × MB)

def MOk (w : World) (I : Nat → Prop) (b : Nat) : MB → Prop
  | .cells cs sz ty => ∃ cur, w.heap[b]? = some (.cells cur ty (0, 0)) ∧ cur.size = sz ∧ cs.length ≤ sz ∧ ∀ i (hi : i < cs.length), Rep w I (cur.getD i undef) cs[i]
  | .zs k zs sz ty => ∃ cur, w.heap[b]? = some (.cells cur ty (0, 0)) ∧ cur.size = sz ∧ zs.length ≤ sz ∧ ∀ i, i < zs.length → cur[i]? = some (.int k (zs.getD i 0))
  | .obj o => w.heap[b]? = some o

theorem MOk.lt {w : World} {I : Nat → Prop} {b : Nat} {m : MB} (h : MOk w I b m) : b < w.heap.size := by
  cases m <;> simp only [MOk] at h
  case cells cs sz ty => obtain ⟨cur, h, _⟩ := h; exact (Array.getElem?_eq_some_iff.1 h).1
  case zs k zs sz ty => obtain ⟨cur, h, _⟩ := h; exact (Array.getElem?_eq_some_iff.1 h).1
  case obj o => exact (Array.getElem?_eq_some_iff.1 h).1

theorem MOk.mono {w w' : World} {I I' : Nat → Prop} (hI : ∀ b, I b → I' b ∧ w'.heap[b]? = w.heap[b]?) {b : Nat} {m : MB}
    (hb : w'.heap[b]? = w.heap[b]?) (h : MOk w I b m) : MOk w' I' b m := by
  cases m <;> simp only [MOk] at h ⊢ <;> rw [hb]
  case cells cs sz ty => obtain ⟨cur, h1, h2, h3, h4⟩ := h; exact ⟨cur, h1, h2, h3, fun i hi => (h4 i hi).mono hI⟩
  case zs k zs sz ty => exact h
  case obj o => exact h

structure Cx where
  w0 : World
  I : Nat → Prop
  K : List Nat
  hI : ∀ b, I b → b < w0.heap.size ∧ b ∉ K

def imm (cx : Cx) (w : World) (H : Hp) (b : Nat) : Prop :=
  cx.I b ∨ ((b ∈ cx.K ∨ cx.w0.heap.size ≤ b) ∧ b < w.heap.size ∧ ∀ x ∈ H, x.1 ≠ b)

structure Ext (w0 w : World) (K : List Nat) : Prop where
  os : w.os = w0.os
  tape : w.tape = w0.tape
  output : w.output = w0.output
  size : w0.heap.size ≤ w.heap.size
  blk : ∀ b, b < w0.heap.size → b ∉ K → w.heap[b]? = w0.heap[b]?

structure OkW (cx : Cx) (H : Hp) (w : World) : Prop where
  nodup : (H.map (·.1)).Nodup
  keys : ∀ x ∈ H, x.1 ∈ cx.K ∨ cx.w0.heap.size ≤ x.1
  mem : ∀ x ∈ H, MOk w (imm cx w H) x.1 x.2
  ext : Ext cx.w0 w cx.K

theorem imm_lt {cx : Cx} {w : World} {H : Hp} (hx : cx.w0.heap.size ≤ w.heap.size) {b : Nat} (h : imm cx w H b) : b < w.heap.size := by
  rcases h with h | h
  · have := (cx.hI b h).1; omega
  · exact h.2.1

theorem imm_key {cx : Cx} {w : World} {H : Hp} (hk : ∀ x ∈ H, x.1 ∈ cx.K ∨ cx.w0.heap.size ≤ x.1) {b : Nat} (h : imm cx w H b) : ∀ x ∈ H, x.1 ≠ b := by
  rcases h with h | h
  · intro x hx he
    have h1 := cx.hI b h
    rcases hk x hx with h2 | h2
    · exact h1.2 (he ▸ h2)
    · omega
  · exact h.2.2

def look : List (Nat × AV) → Nat → AV
  | [], _ => .any
  | (j, v) :: r, i => if i = j then v else look r i

structure St where
  env : List (Nat × AV)
  H : Hp

structure Ok (cx : Cx) (n : Nat) (s : St) (a : Act) (w : World) : Prop where
  defers : a.defers = []
  size : a.tmps.size = n
  reps : ∀ i, Rep w (imm cx w s.H) (a.tmps.getD i undef) (look s.env i)
  world : OkW cx s.H w

def St.put (s : St) (d : Option Tmp) (v : AV) : St :=
  match d with
  | some d => { s with env := (d, v) :: s.env }
  | none => s

def okd (n : Nat) : Option Tmp → Prop
  | some d => d < n
  | none => True

/-- A step that leaves all that is known of memory as it was, and puts a value into a slot. -/
theorem Ok.put {cx : Cx} {n : Nat} {s : St} {a : Act} {w : World} (h : Ok cx n s a w) {d : Option Tmp} (hd : okd n d) {v : Value} {x : AV}
    (hv : Rep w (imm cx w s.H) v x) : Ok cx n (s.put d x) (a.put d v) w := by
  cases d with
  | none => exact h
  | some d =>
    refine ⟨h.defers, by simp [Act.put, h.size], fun i => ?_, h.world⟩
    have hd' : d < a.tmps.size := by rw [h.size]; exact hd
    simp only [Act.put, St.put, look]
    by_cases hi : i = d
    · subst hi
      simp [hd', hv]
    · rw [if_neg hi]
      have := h.reps i
      simpa [Array.getElem?_setIfInBounds_ne (Ne.symm hi)] using this

/-- Memory has changed; what is known of the slots has not. -/
theorem Ok.world_to {cx : Cx} {n : Nat} {s : St} {a : Act} {w w' : World} {H' : Hp} (h : Ok cx n s a w) (hw : OkW cx H' w')
    (hI : ∀ b, imm cx w s.H b → imm cx w' H' b ∧ w'.heap[b]? = w.heap[b]?) : Ok cx n { s with H := H' } a w' :=
  ⟨h.defers, h.size, fun i => (h.reps i).mono hI, hw⟩

/-! ## The judgement for code -/

def WP (P : Program) (cx : Cx) (n : Nat) (c : Code) (Q : Exit → St → Prop) (s : St) : Prop :=
  ∀ a w, Ok cx n s a w → c.wp P (fun e a' w' => ∃ s', Q e s' ∧ Ok cx n s' a' w') a w

def SeqQ (K : St → Prop) (Q : Exit → St → Prop) : Exit → St → Prop
  | .normal, s => K s
  | e, s => Q e s

def BlkQ (id : Nat) (Q : Exit → St → Prop) : Exit → St → Prop
  | .exit id', s => if id' = id then Q .normal s else Q (.exit id') s
  | e, s => Q e s

section
variable {P : Program} {cx : Cx} {n : Nat} {Q : Exit → St → Prop} {s : St}

theorem WP.mono {c : Code} {Q' : Exit → St → Prop} (h : WP P cx n c Q s) (hq : ∀ e s, Q e s → Q' e s) : WP P cx n c Q' s :=
  fun a w ok => Go.wp_mono (h a w ok) fun e _ _ ⟨s', q, ok'⟩ => ⟨s', hq e s' q, ok'⟩

theorem WP.seq {c1 c2 : Code} (h : ∀ K : St → Prop, (∀ s, WP P cx n c2 Q s → K s) → WP P cx n c1 (SeqQ K Q) s) : WP P cx n (.seq c1 c2) Q s := by
  intro a w ok
  refine Go.wp_seq (Go.wp_mono (h _ (fun _ h => h) a w ok) ?_)
  rintro e a' w' ⟨s', q, ok'⟩
  cases e with
  | normal => exact q a' w' ok'
  | exit id => exact ⟨s', q, ok'⟩
  | goto l => exact ⟨s', q, ok'⟩
  | ret => exact ⟨s', q, ok'⟩
  | panic ch => exact ⟨s', q, ok'⟩
  | outgrown => exact ⟨s', q, ok'⟩

theorem WP.block {id : Nat} {c : Code} (h : WP P cx n c (BlkQ id Q) s) : WP P cx n (.block id c) Q s := by
  intro a w ok
  refine Go.wp_block (Go.wp_mono (h a w ok) ?_)
  rintro e a' w' ⟨s', q, ok'⟩
  cases e with
  | exit id' =>
    simp only [BlkQ] at q
    simp only [Exit.inBlock]
    split
    · rename_i h; rw [if_pos h] at q; exact ⟨s', q, ok'⟩
    · rename_i h; rw [if_neg h] at q; exact ⟨s', q, ok'⟩
  | normal => exact ⟨s', q, ok'⟩
  | goto l => exact ⟨s', q, ok'⟩
  | ret => exact ⟨s', q, ok'⟩
  | panic ch => exact ⟨s', q, ok'⟩
  | outgrown => exact ⟨s', q, ok'⟩

theorem WP.skip (h : Q .normal s) : WP P cx n .skip Q s := fun _ _ ok => Go.wp_skip ⟨s, h, ok⟩
theorem WP.ret (h : Q .ret s) : WP P cx n .ret Q s := fun _ _ ok => Go.wp_ret ⟨s, h, ok⟩
theorem WP.exit {id : Nat} (h : Q (.exit id) s) : WP P cx n (.exit id) Q s := fun _ _ ok => Go.wp_exit ⟨s, h, ok⟩

def litv : Value → AV
  | .agg cs => .agg (cs.toList.map .lit)
  | v => .lit v

def opd (env : List (Nat × AV)) : Operand → AV
  | .tmp t => look env t
  | .const v => litv v
  | .global g => .lit (.pointer (some ⟨g, 0, none⟩))
  | .func f => .lit (.func (.func f) #[] #[])

theorem Rep.litv {w : World} {I : Nat → Prop} (v : Value) : Rep w I v (litv v) := by
  cases v <;> simp only [Proofs.Ytngdgicgppaeaaa.litv]
  case agg cs =>
    refine .agg _ _ (by simp) fun i hi => ?_
    have hi' : i < cs.size := by simpa using hi
    simp [hi']
    exact .lit _
  all_goals exact .lit _

theorem Ok.opd {a : Act} {w : World} (h : Ok cx n s a w) (x : Operand) : Rep w (imm cx w s.H) (a.eval x) (opd s.env x) := by
  cases x with
  | tmp t => exact h.reps t
  | const v => exact Rep.litv v
  | global g => exact .lit _
  | func f => exact .lit _

theorem WP.cond {c : Operand} {x y : Code} {t : Bool} (hc : Proofs.Ytngdgicgppaeaaa.opd s.env c = bv t) (ht : t = true → WP P cx n x Q s) (hf : t = false → WP P cx n y Q s) :
    WP P cx n (.cond c x y) Q s := by
  intro a w ok
  have hv := ok.opd c
  rw [hc] at hv
  refine Go.wp_cond_split (t := t) hv.lit_inv (fun h => ht h a w ok) (fun h => hf h a w ok)

/-- Blocks that are no longer ours: nobody writes them from here on. -/
theorem OkW.drop {H R : Hp} {w : World} (h : OkW cx (H ++ R) w) : OkW cx H w ∧ ∀ b, imm cx w (H ++ R) b → imm cx w H b := by
  have hI : ∀ b, imm cx w (H ++ R) b → imm cx w H b := by
    rintro b (hb | ⟨h1, h2, h3⟩)
    · exact .inl hb
    · exact .inr ⟨h1, h2, fun x hx => h3 x (List.mem_append_left _ hx)⟩
  refine ⟨⟨?_, fun x hx => h.keys x (List.mem_append_left _ hx), fun x hx => (h.mem x (List.mem_append_left _ hx)).mono (fun b hb => ⟨hI b hb, rfl⟩) rfl, h.ext⟩, hI⟩
  have := h.nodup
  rw [List.map_append, List.nodup_append] at this
  exact this.1
/-- Less is known. -/
def Sub (s s' : St) : Prop := (∃ R, s.H.Perm (s'.H ++ R)) ∧ ∀ i, look s'.env i = .any ∨ look s'.env i = look s.env i

theorem imm_perm {w : World} {H H' : Hp} (hp : H.Perm H') {b : Nat} : imm cx w H b ↔ imm cx w H' b := by
  unfold imm
  constructor
  · rintro (h | ⟨h1, h2, h3⟩)
    · exact .inl h
    · exact .inr ⟨h1, h2, fun x hx => h3 x (hp.mem_iff.2 hx)⟩
  · rintro (h | ⟨h1, h2, h3⟩)
    · exact .inl h
    · exact .inr ⟨h1, h2, fun x hx => h3 x (hp.mem_iff.1 hx)⟩

theorem OkW.perm {w : World} {H H' : Hp} (hp : H.Perm H') (h : OkW cx H w) : OkW cx H' w := {
  nodup := (hp.map _).nodup_iff.1 h.nodup
  keys := fun x hx => h.keys x (hp.mem_iff.2 hx)
  mem := fun x hx => (h.mem x (hp.mem_iff.2 hx)).mono (fun _ hb => ⟨(imm_perm hp).1 hb, rfl⟩) rfl
  ext := h.ext }

theorem Ok.sub {s' : St} {a : Act} {w : World} (h : Ok cx n s a w) (hs : Sub s s') : Ok cx n s' a w := by
  obtain ⟨⟨R, hp⟩, he⟩ := hs
  have hd := (h.world.perm hp).drop
  refine ⟨h.defers, h.size, fun i => ?_, hd.1⟩
  rcases he i with hi | hi
  · rw [hi]; exact .any _
  · rw [hi]; exact (h.reps i).mono fun b hb => ⟨hd.2 b ((imm_perm hp).1 hb), rfl⟩

theorem WP.sub {c : Code} {s' : St} (hs : Sub s s') (h : WP P cx n c Q s') : WP P cx n c Q s := fun a w ok => h a w (ok.sub hs)

theorem Sub.refl (s : St) : Sub s s := ⟨⟨[], by simp⟩, fun _ => .inr rfl⟩

/-- The slots that are named hold what is said; of the others nothing is said. -/
theorem Sub.of_env {env env' : List (Nat × AV)} {H H' : Hp} (R : Hp) (hH : H.Perm (H' ++ R)) (h : ∀ p ∈ env', look env p.1 = p.2) : Sub ⟨env, H⟩ ⟨env', H'⟩ := by
  refine ⟨⟨R, hH⟩, fun i => ?_⟩
  show look env' i = .any ∨ look env' i = look env i
  induction env' with
  | nil => exact .inl rfl
  | cons p r ih =>
    simp only [look]
    split
    · rename_i hi
      have := h p (List.mem_cons_self ..)
      subst hi
      exact .inr this.symm
    · exact ih fun q hq => h q (List.mem_cons_of_mem _ hq)

def LoopQ {Γ : Type} (S : Γ → St) (φ : Γ → Prop) (μ : Γ → Nat) (g : Γ) (Q : Exit → St → Prop) : Exit → St → Prop
  | .normal, s => ∃ g', φ g' ∧ μ g' < μ g ∧ Sub s (S g')
  | e, s => Q e s

theorem WP.loop {c : Code} {Γ : Type} (S : Γ → St) (φ : Γ → Prop) (μ : Γ → Nat) (g0 : Γ) (h0 : φ g0) (hs : Sub s (S g0))
    (round : ∀ g, φ g → WP P cx n c (LoopQ S φ μ g Q) (S g)) : WP P cx n (.loop c) Q s := by
  intro a w ok b k cs
  have key : ∀ m g a w, μ g = m → φ g → Ok cx n (S g) a w →
      ∃ e a' w', (∃ s', Q e s' ∧ Ok cx n s' a' w') ∧ Arrives P (lone (b.at a (.code c :: .inLoop c :: k)) cs w) b k cs e a' w' := by
    intro m
    induction m using Nat.strongRecOn with
    | _ m ih =>
      intro g a w hm hg hok
      obtain ⟨e, a₁, w₁, ⟨s', hq, ok'⟩, harr⟩ := round g hg a w hok b (.inLoop c :: k) cs
      cases e with
      | normal =>
        obtain ⟨g', hg', hlt, hsub⟩ := hq
        obtain ⟨e₂, a₂, w₂, hq₂, harr₂⟩ := ih (μ g') (hm ▸ hlt) g' a₁ w₁ rfl hg' (ok'.sub hsub)
        exact ⟨e₂, a₂, w₂, hq₂, .of_steps (Steps.trans harr (.one step_inLoop)) harr₂⟩
      | exit id => exact ⟨_, a₁, w₁, ⟨s', hq, ok'⟩, .pass (x := .inLoop c) rfl (fun _ _ => .inl (by simp)) harr⟩
      | goto l => exact ⟨_, a₁, w₁, ⟨s', hq, ok'⟩, .pass (x := .inLoop c) rfl (fun _ _ => .inl (by simp)) harr⟩
      | ret => exact ⟨_, a₁, w₁, ⟨s', hq, ok'⟩, .pass (x := .inLoop c) rfl (fun _ _ => .inl (by simp)) harr⟩
      | panic ch => exact ⟨_, a₁, w₁, ⟨s', hq, ok'⟩, .pass (x := .inLoop c) rfl (fun _ _ => .inl (by simp)) harr⟩
      | outgrown => exact ⟨_, a₁, w₁, ⟨s', hq, ok'⟩, .pass (x := .inLoop c) rfl (fun _ _ => .inl (by simp)) harr⟩
  obtain ⟨e, a', w', hq, harr⟩ := key _ g0 a w rfl h0 (ok.sub hs)
  exact ⟨e, a', w', hq, .of_steps (.one step_loop) harr⟩

/-- A place where ways meet again: what is known there is said anew. -/
theorem WP.cut {c1 c2 : Code} {Γ : Type} (S : Γ → St) (φ : Γ → Prop)
    (h1 : WP P cx n c1 (SeqQ (fun s => ∃ g, φ g ∧ Sub s (S g)) Q) s) (h2 : ∀ g, φ g → WP P cx n c2 Q (S g)) : WP P cx n (.seq c1 c2) Q s :=
  WP.seq fun _ hK => h1.mono fun e _ q => by
    cases e with
    | normal => obtain ⟨g, hg, hsub⟩ := q; exact hK _ (WP.sub hsub (h2 g hg))
    | _ => exact q

/-! ## Lists of operations -/

def RP (P : Program) (cx : Cx) (n : Nat) (ops : Array Oper) (l : List Oper) (K : St → Prop) (s : St) : Prop :=
  ∀ R : Exit → Act → World → Prop, (∀ s a w, K s → Ok cx n s a w → R .normal a w) → ∀ a w, Ok cx n s a w → wpList P ops R l a w

theorem WP.region {id : Nat} {l : List Oper} (h : RP P cx n l.toArray l (Q .normal) s) : WP P cx n (.region id l.toArray false) Q s :=
  fun a w ok => wp_region_lit (h _ (fun _ _ _ hk ok' => ⟨_, hk, ok'⟩) a w ok)

variable {ops : Array Oper} {rest : List Oper} {K : St → Prop} {o : Oper}

theorem RP.nil (h : K s) : RP P cx n ops [] K s := fun _ hR a w ok => hR s a w h ok

theorem RP.sub {l : List Oper} {s' : St} (hs : Sub s s') (h : RP P cx n ops l K s') : RP P cx n ops l K s := fun R hR a w ok => h R hR a w (ok.sub hs)

/-- One operation, whatever it does. -/
def OpS (P : Program) (cx : Cx) (n : Nat) (o : Oper) (K : St → Prop) (s : St) : Prop :=
  ∀ (X : Act → World → Prop) (R : Exit → Act → World → Prop), (∀ s' a w, K s' → Ok cx n s' a w → X a w) → ∀ a w, Ok cx n s a w → o.wp P a w X R

theorem RP.step (hg : o.guard = none) (h : OpS P cx n o (RP P cx n ops rest K) s) : RP P cx n ops (o :: rest) K s :=
  fun R hR a w ok => wpList_plain hg fun X hX => h X R (fun _ a' w' hk ok' => hX a' w' (hk R hR a' w' ok')) a w ok

/-- One operation that leaves memory as it is: its value. -/
def PE (P : Program) (cx : Cx) (n : Nat) (o : Oper) (s : St) (x : AV) : Prop :=
  ∀ a w, Ok cx n s a w → ∃ v, (execOp a.eval o).run P w = .ok (.value v) w ∧ Rep w (imm cx w s.H) v x

theorem OpS.of_PE {x : AV} (hd : okd n o.dst) (h : PE P cx n o s x) (hk : K (s.put o.dst x)) : OpS P cx n o K s := by
  intro X R hX a w ok
  obtain ⟨v, hr, hv⟩ := h a w ok
  unfold Oper.wp
  rw [hr]
  exact hX _ _ _ hk (ok.put hd hv)

theorem RP.pure {x : AV} (hg : o.guard = none) (hd : okd n o.dst) (h : PE P cx n o s x) (hk : RP P cx n ops rest K (s.put o.dst x)) :
    RP P cx n ops (o :: rest) K s := RP.step hg (OpS.of_PE hd h hk)

/-- What a guard's slot says. -/
def gdv (want : Bool) : AV → Option Bool
  | .lit (.bool t) => some (t == want)
  | .gd c (.lit (.bool t)) => some (c && (t == want))
  | _ => none

def gdOf (env : List (Nat × AV)) (ops : Array Oper) (j : Nat) (want : Bool) : Option Bool :=
  match (ops[j]?).bind (·.dst) with
  | some d => gdv want (look env d)
  | none => none

theorem wanted_of_gd {a : Act} {w : World} {j : Nat} {want c : Bool} (ok : Ok cx n s a w) (hgd : o.guard = some (j, want))
    (h : gdOf s.env ops j want = some c) : Region.wanted o (yielded ops a.tmps) = c := by
  unfold gdOf at h
  cases hd : (ops[j]?).bind (·.dst) with
  | none => rw [hd] at h; cases h
  | some d =>
    rw [hd] at h
    simp only [Region.wanted, hgd, yielded, hd, Option.bind_some]
    have hr := ok.reps d
    have hget : a.tmps.getD d undef = (a.tmps[d]?).getD undef := by simp
    rw [hget] at hr
    generalize hv : a.tmps[d]? = ov at *
    simp only at h
    generalize hx : look s.env d = x at *
    cases x <;> simp only [gdv] at h <;> try cases h
    case lit v =>
      have := hr.lit_inv
      subst this
      cases ov with
      | none => simp [undef] at h
      | some u => cases u <;> simp at h ⊢; rename_i t; subst h; cases t <;> cases want <;> rfl
    case gd c0 x0 =>
      cases x0 <;> try (simp at h; done)
      rename_i v
      cases v <;> simp at h
      rename_i t
      subst h
      cases c0
      · have : ov.getD undef = undef := hr.gd_false
        cases ov with
        | none => rfl
        | some u => simp at this; subst this; rfl
      · have := (Rep.gd_true rfl hr).lit_inv
        cases ov with
        | none => simp [undef] at this
        | some u => simp at this; subst this; cases t <;> cases want <;> rfl

theorem RP.pureG {x : AV} {j : Nat} {want c : Bool} (hg : o.guard = some (j, want)) (hc : gdOf s.env ops j want = some c) (hd : okd n o.dst)
    (h : c = true → PE P cx n o s x) (hk : RP P cx n ops rest K (s.put o.dst (.gd c x))) : RP P cx n ops (o :: rest) K s := by
  intro R hR a w ok
  refine wpList_step fun X hX => ?_
  rw [wanted_of_gd ok hg hc]
  cases c with
  | true =>
    rw [if_pos rfl]
    obtain ⟨v, hr, hv⟩ := h rfl a w ok
    unfold Oper.wp
    rw [hr]
    exact hX _ _ (hk R hR _ _ (ok.put hd (.gdt _ _ hv)))
  | false =>
    rw [if_neg (by simp)]
    exact hX _ _ (hk R hR _ _ (ok.put hd (.gdf _)))

/-- A guarded operation that may do more: both ways are walked. -/
theorem RP.stepG {j : Nat} {want c : Bool} (hg : o.guard = some (j, want)) (hc : gdOf s.env ops j want = some c) (hd : okd n o.dst)
    (h : c = true → OpS P cx n o (RP P cx n ops rest K) s) (hk : c = false → RP P cx n ops rest K (s.put o.dst (.lit undef))) : RP P cx n ops (o :: rest) K s := by
  intro R hR a w ok
  refine wpList_step fun X hX => ?_
  rw [wanted_of_gd ok hg hc]
  cases c with
  | true =>
    rw [if_pos rfl]
    exact h rfl X R (fun _ a' w' hk' ok' => hX a' w' (hk' R hR a' w' ok')) a w ok
  | false =>
    rw [if_neg (by simp)]
    exact hX _ _ (hk rfl R hR _ _ (ok.put hd (.lit _)))
end
end Go.Proofs.Ytngdgicgppaeaaa
