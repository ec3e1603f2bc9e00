/-
  The walks and the laws that the statement leans on, part 1.
-/
import Derived.WalkKit
import Derived.ProofKit
import Derived.ChangeKeysEq
namespace Go.Proofs.Ytbnkmhlnoaebcaa
open Go
/-! ## Values as data -/
inductive AV where
  | any
  | lit (v : Value)
  | sl (n : Nat) (cs : List AV)
  | slz (k : IntKind) (zs : List Int)
  | ip (cs : List AV)
  | ipz (k : IntKind) (zs : List Int)
  | agg (cs : List AV)
  | tup (cs : List AV)
  | ifc (t : TypeId) (x : AV)
  | gd (b : Bool) (x : AV)
abbrev iv (k : IntKind) (n : Int) : AV := .lit (.int k n)
abbrev bv (b : Bool) : AV := .lit (.bool b)
abbrev pt (b off : Nat) : AV := .lit (.pointer (some ⟨b, off, none⟩))
abbrev ms (b off n cap : Nat) : AV := .lit (.slice (some ⟨b, off, none⟩) n cap)
/-- n cells from an address on, in blocks that nobody writes. -/
def Spot (w : World) (I : Nat → Prop) (a : Option Addr) (n : Nat) (g : Nat → Value) : Prop :=
  n = 0 ∨ ∃ b off, a = some ⟨b, off, none⟩ ∧ I b ∧ ∀ i, i < n → w.cell? ⟨b, off + i, none⟩ = some (g i)
inductive Rep (w : World) (I : Nat → Prop) : Value → AV → Prop
  | any (v : Value) : Rep w I v .any
  | lit (v : Value) : Rep w I v (.lit v)
  | sl (a : Option Addr) (n cap : Nat) (cs : List AV) (g : Nat → Value) (hn : n ≤ cap) (hm : cap ≤ maxLen)
      (h : Spot w I a cs.length g) (r : ∀ i (hi : i < cs.length), Rep w I (g i) cs[i]) : Rep w I (.slice a n cap) (.sl n cs)
  | slz (a : Option Addr) (k : IntKind) (zs : List Int) (cap : Nat) (hn : zs.length ≤ cap) (hm : cap ≤ maxLen)
      (h : Spot w I a zs.length (fun i => .int k (zs.getD i 0))) : Rep w I (.slice a zs.length cap) (.slz k zs)
  | ip (ad : Addr) (cs : List AV) (g : Nat → Value) (h : Spot w I (some ad) cs.length g)
      (r : ∀ i (hi : i < cs.length), Rep w I (g i) cs[i]) : Rep w I (.pointer (some ad)) (.ip cs)
  | ipz (ad : Addr) (k : IntKind) (zs : List Int) (h : Spot w I (some ad) zs.length (fun i => .int k (zs.getD i 0))) :
      Rep w I (.pointer (some ad)) (.ipz k zs)
  | agg (vs : Array Value) (cs : List AV) (hs : vs.size = cs.length) (r : ∀ i (hi : i < cs.length), Rep w I (vs.getD i undef) cs[i]) :
      Rep w I (.agg vs) (.agg cs)
  | tup (vs : Array Value) (cs : List AV) (hs : vs.size = cs.length) (r : ∀ i (hi : i < cs.length), Rep w I (vs.getD i undef) cs[i]) :
      Rep w I (.tuple vs) (.tup cs)
  | ifc (t : TypeId) (v : Value) (x : AV) (r : Rep w I v x) : Rep w I (.iface t v) (.ifc t x)
  | gdt (v : Value) (x : AV) (r : Rep w I v x) : Rep w I v (.gd true x)
  | gdf (x : AV) : Rep w I undef (.gd false x)
theorem Spot.mono {w w' : World} {I I' : Nat → Prop} (hI : ∀ b, I b → I' b ∧ w'.heap[b]? = w.heap[b]?) {a : Option Addr} {n : Nat} {g : Nat → Value}
    (h : Spot w I a n g) : Spot w' I' a n g := by
  rcases h with h | ⟨b, off, ha, hb, hc⟩
  · exact .inl h
  · refine .inr ⟨b, off, ha, (hI b hb).1, fun i hi => ?_⟩
    rw [World.cell?_of_block (w := w) (hI b hb).2]
    exact hc i hi
theorem Rep.mono {w w' : World} {I I' : Nat → Prop} (hI : ∀ b, I b → I' b ∧ w'.heap[b]? = w.heap[b]?) {v : Value} {x : AV}
    (h : Rep w I v x) : Rep w' I' v x := by
  induction h with
  | any v => exact .any v
  | lit v => exact .lit v
  | sl a n cap cs g hn hm h _ ih => exact .sl a n cap cs g hn hm (h.mono hI) ih
  | slz a k zs cap hn hm h => exact .slz a k zs cap hn hm (h.mono hI)
  | ip ad cs g h _ ih => exact .ip ad cs g (h.mono hI) ih
  | ipz ad k zs h => exact .ipz ad k zs (h.mono hI)
  | agg vs cs hs _ ih => exact .agg vs cs hs ih
  | tup vs cs hs _ ih => exact .tup vs cs hs ih
  | ifc t v x _ ih => exact .ifc t v x ih
  | gdt v x _ ih => exact .gdt v x ih
  | gdf x => exact .gdf x
theorem Rep.lit_inv {w : World} {I : Nat → Prop} {v u : Value} (h : Rep w I v (.lit u)) : v = u := by cases h; rfl
theorem Rep.of_eq {w : World} {I : Nat → Prop} {v u : Value} (h : v = u) : Rep w I v (.lit u) := by subst h; exact .lit _
theorem Rep.gd_true {w : World} {I : Nat → Prop} {v : Value} {x : AV} {b : Bool} (hb : b = true) (h : Rep w I v (.gd b x)) : Rep w I v x := by
  subst hb; cases h; assumption
theorem Rep.gd_false {w : World} {I : Nat → Prop} {v : Value} {x : AV} (h : Rep w I v (.gd false x)) : v = undef := by cases h; rfl
/-! ## Memory as data -/
inductive MB where
  | cells (cs : List AV) (sz : Nat) (ty : TypeId)
  | zs (k : IntKind) (zs : List Int) (sz : Nat) (ty : TypeId)
  | obj (o : Obj)
abbrev Hp := List (Nat × MB)
def MOk (w : World) (I : Nat → Prop) (b : Nat) : MB → Prop
  | .cells cs sz ty => ∃ cur, w.heap[b]? = some (.cells cur ty (0, 0)) ∧ cur.size = sz ∧ cs.length ≤ sz ∧ ∀ i (hi : i < cs.length), Rep w I (cur.getD i undef) cs[i]
  | .zs k zs sz ty => ∃ cur, w.heap[b]? = some (.cells cur ty (0, 0)) ∧ cur.size = sz ∧ zs.length ≤ sz ∧ ∀ i, i < zs.length → cur[i]? = some (.int k (zs.getD i 0))
  | .obj o => w.heap[b]? = some o
theorem MOk.lt {w : World} {I : Nat → Prop} {b : Nat} {m : MB} (h : MOk w I b m) : b < w.heap.size := by
  cases m <;> simp only [MOk] at h
  case cells cs sz ty => obtain ⟨cur, h, _⟩ := h; exact (Array.getElem?_eq_some_iff.1 h).1
  case zs k zs sz ty => obtain ⟨cur, h, _⟩ := h; exact (Array.getElem?_eq_some_iff.1 h).1
  case obj o => exact (Array.getElem?_eq_some_iff.1 h).1
theorem MOk.mono {w w' : World} {I I' : Nat → Prop} (hI : ∀ b, I b → I' b ∧ w'.heap[b]? = w.heap[b]?) {b : Nat} {m : MB}
    (hb : w'.heap[b]? = w.heap[b]?) (h : MOk w I b m) : MOk w' I' b m := by
  cases m <;> simp only [MOk] at h ⊢ <;> rw [hb]
  case cells cs sz ty => obtain ⟨cur, h1, h2, h3, h4⟩ := h; exact ⟨cur, h1, h2, h3, fun i hi => (h4 i hi).mono hI⟩
  case zs k zs sz ty => exact h
  case obj o => exact h
structure Cx where
  w0 : World
  I : Nat → Prop
  K : List Nat
  hI : ∀ b, I b → b < w0.heap.size ∧ b ∉ K
def imm (cx : Cx) (w : World) (H : Hp) (b : Nat) : Prop :=
  cx.I b ∨ ((b ∈ cx.K ∨ cx.w0.heap.size ≤ b) ∧ b < w.heap.size ∧ ∀ x ∈ H, x.1 ≠ b)
structure Ext (w0 w : World) (K : List Nat) : Prop where
  os : w.os = w0.os
  tape : w.tape = w0.tape
  output : w.output = w0.output
  size : w0.heap.size ≤ w.heap.size
  blk : ∀ b, b < w0.heap.size → b ∉ K → w.heap[b]? = w0.heap[b]?
structure OkW (cx : Cx) (H : Hp) (w : World) : Prop where
  nodup : (H.map (·.1)).Nodup
  keys : ∀ x ∈ H, x.1 ∈ cx.K ∨ cx.w0.heap.size ≤ x.1
  mem : ∀ x ∈ H, MOk w (imm cx w H) x.1 x.2
  ext : Ext cx.w0 w cx.K
theorem imm_lt {cx : Cx} {w : World} {H : Hp} (hx : cx.w0.heap.size ≤ w.heap.size) {b : Nat} (h : imm cx w H b) : b < w.heap.size := by
  rcases h with h | h
  · have := (cx.hI b h).1; omega
  · exact h.2.1
theorem imm_key {cx : Cx} {w : World} {H : Hp} (hk : ∀ x ∈ H, x.1 ∈ cx.K ∨ cx.w0.heap.size ≤ x.1) {b : Nat} (h : imm cx w H b) : ∀ x ∈ H, x.1 ≠ b := by
  rcases h with h | h
  · intro x hx he
    have h1 := cx.hI b h
    rcases hk x hx with h2 | h2
    · exact h1.2 (he ▸ h2)
    · omega
  · exact h.2.2
def look : List (Nat × AV) → Nat → AV
  | [], _ => .any
  | (j, v) :: r, i => if i = j then v else look r i
structure St where
  env : List (Nat × AV)
  H : Hp
structure Ok (cx : Cx) (n : Nat) (s : St) (a : Act) (w : World) : Prop where
  defers : a.defers = []
  size : a.tmps.size = n
  reps : ∀ i, Rep w (imm cx w s.H) (a.tmps.getD i undef) (look s.env i)
  world : OkW cx s.H w
def St.put (s : St) (d : Option Tmp) (v : AV) : St :=
  match d with
  | some d => { s with env := (d, v) :: s.env }
  | none => s
def okd (n : Nat) : Option Tmp → Prop
  | some d => d < n
  | none => True
/-- A step that leaves all that is known of memory as it was, and puts a value into a slot. -/
theorem Ok.put {cx : Cx} {n : Nat} {s : St} {a : Act} {w : World} (h : Ok cx n s a w) {d : Option Tmp} (hd : okd n d) {v : Value} {x : AV}
    (hv : Rep w (imm cx w s.H) v x) : Ok cx n (s.put d x) (a.put d v) w := by
  cases d with
  | none => exact h
  | some d =>
    refine ⟨h.defers, by simp [Act.put, h.size], fun i => ?_, h.world⟩
    have hd' : d < a.tmps.size := by rw [h.size]; exact hd
    simp only [Act.put, St.put, look]
    by_cases hi : i = d
    · subst hi
      simp [hd', hv]
    · rw [if_neg hi]
      have := h.reps i
      simpa [Array.getElem?_setIfInBounds_ne (Ne.symm hi)] using this
/-- Memory has changed; what is known of the slots has not. -/
theorem Ok.world_to {cx : Cx} {n : Nat} {s : St} {a : Act} {w w' : World} {H' : Hp} (h : Ok cx n s a w) (hw : OkW cx H' w')
    (hI : ∀ b, imm cx w s.H b → imm cx w' H' b ∧ w'.heap[b]? = w.heap[b]?) : Ok cx n { s with H := H' } a w' :=
  ⟨h.defers, h.size, fun i => (h.reps i).mono hI, hw⟩
/-! ## The judgement for code -/
def WP (P : Program) (cx : Cx) (n : Nat) (c : Code) (Q : Exit → St → Prop) (s : St) : Prop :=
  ∀ a w, Ok cx n s a w → c.wp P (fun e a' w' => ∃ s', Q e s' ∧ Ok cx n s' a' w') a w
def SeqQ (K : St → Prop) (Q : Exit → St → Prop) : Exit → St → Prop
  | .normal, s => K s
  | e, s => Q e s
def BlkQ (id : Nat) (Q : Exit → St → Prop) : Exit → St → Prop
  | .exit id', s => if id' = id then Q .normal s else Q (.exit id') s
  | e, s => Q e s
section
variable {P : Program} {cx : Cx} {n : Nat} {Q : Exit → St → Prop} {s : St}
theorem WP.mono {c : Code} {Q' : Exit → St → Prop} (h : WP P cx n c Q s) (hq : ∀ e s, Q e s → Q' e s) : WP P cx n c Q' s :=
  fun a w ok => Go.wp_mono (h a w ok) fun e _ _ ⟨s', q, ok'⟩ => ⟨s', hq e s' q, ok'⟩
theorem WP.seq {c1 c2 : Code} (h : ∀ K : St → Prop, (∀ s, WP P cx n c2 Q s → K s) → WP P cx n c1 (SeqQ K Q) s) : WP P cx n (.seq c1 c2) Q s := by
  intro a w ok
  refine Go.wp_seq (Go.wp_mono (h _ (fun _ h => h) a w ok) ?_)
  rintro e a' w' ⟨s', q, ok'⟩
  cases e with
  | normal => exact q a' w' ok'
  | exit id => exact ⟨s', q, ok'⟩
  | goto l => exact ⟨s', q, ok'⟩
  | ret => exact ⟨s', q, ok'⟩
  | panic ch => exact ⟨s', q, ok'⟩
  | outgrown => exact ⟨s', q, ok'⟩
theorem WP.block {id : Nat} {c : Code} (h : WP P cx n c (BlkQ id Q) s) : WP P cx n (.block id c) Q s := by
  intro a w ok
  refine Go.wp_block (Go.wp_mono (h a w ok) ?_)
  rintro e a' w' ⟨s', q, ok'⟩
  cases e with
  | exit id' =>
    simp only [BlkQ] at q
    simp only [Exit.inBlock]
    split
    · rename_i h; rw [if_pos h] at q; exact ⟨s', q, ok'⟩
    · rename_i h; rw [if_neg h] at q; exact ⟨s', q, ok'⟩
  | normal => exact ⟨s', q, ok'⟩
  | goto l => exact ⟨s', q, ok'⟩
  | ret => exact ⟨s', q, ok'⟩
  | panic ch => exact ⟨s', q, ok'⟩
  | outgrown => exact ⟨s', q, ok'⟩
theorem WP.skip (h : Q .normal s) : WP P cx n .skip Q s := fun _ _ ok => Go.wp_skip ⟨s, h, ok⟩
theorem WP.ret (h : Q .ret s) : WP P cx n .ret Q s := fun _ _ ok => Go.wp_ret ⟨s, h, ok⟩
theorem WP.exit {id : Nat} (h : Q (.exit id) s) : WP P cx n (.exit id) Q s := fun _ _ ok => Go.wp_exit ⟨s, h, ok⟩
def litv : Value → AV
  | .agg cs => .agg (cs.toList.map .lit)
  | v => .lit v
def opd (env : List (Nat × AV)) : Operand → AV
  | .tmp t => look env t
  | .const v => litv v
  | .global g => .lit (.pointer (some ⟨g, 0, none⟩))
  | .func f => .lit (.func (.func f) #[] #[])
theorem Rep.litv {w : World} {I : Nat → Prop} (v : Value) : Rep w I v (litv v) := by
  cases v <;> simp only [Proofs.Ytbnkmhlnoaebcaa.litv]
  case agg cs =>
    refine .agg _ _ (by simp) fun i hi => ?_
    have hi' : i < cs.size := by simpa using hi
    simp [hi']
    exact .lit _
  all_goals exact .lit _
theorem Ok.opd {a : Act} {w : World} (h : Ok cx n s a w) (x : Operand) : Rep w (imm cx w s.H) (a.eval x) (opd s.env x) := by
  cases x with
  | tmp t => exact h.reps t
  | const v => exact Rep.litv v
  | global g => exact .lit _
  | func f => exact .lit _
theorem WP.cond {c : Operand} {x y : Code} {t : Bool} (hc : Proofs.Ytbnkmhlnoaebcaa.opd s.env c = bv t) (ht : t = true → WP P cx n x Q s) (hf : t = false → WP P cx n y Q s) :
    WP P cx n (.cond c x y) Q s := by
  intro a w ok
  have hv := ok.opd c
  rw [hc] at hv
  refine Go.wp_cond_split (t := t) hv.lit_inv (fun h => ht h a w ok) (fun h => hf h a w ok)
/-- Blocks that are no longer ours: nobody writes them from here on. -/
theorem OkW.drop {H R : Hp} {w : World} (h : OkW cx (H ++ R) w) : OkW cx H w ∧ ∀ b, imm cx w (H ++ R) b → imm cx w H b := by
  have hI : ∀ b, imm cx w (H ++ R) b → imm cx w H b := by
    rintro b (hb | ⟨h1, h2, h3⟩)
    · exact .inl hb
    · exact .inr ⟨h1, h2, fun x hx => h3 x (List.mem_append_left _ hx)⟩
  refine ⟨⟨?_, fun x hx => h.keys x (List.mem_append_left _ hx), fun x hx => (h.mem x (List.mem_append_left _ hx)).mono (fun b hb => ⟨hI b hb, rfl⟩) rfl, h.ext⟩, hI⟩
  have := h.nodup
  rw [List.map_append, List.nodup_append] at this
  exact this.1
/-- Less is known. -/
def Sub (s s' : St) : Prop := (∃ R, s.H.Perm (s'.H ++ R)) ∧ ∀ i, look s'.env i = .any ∨ look s'.env i = look s.env i
theorem imm_perm {w : World} {H H' : Hp} (hp : H.Perm H') {b : Nat} : imm cx w H b ↔ imm cx w H' b := by
  unfold imm
  constructor
  · rintro (h | ⟨h1, h2, h3⟩)
    · exact .inl h
    · exact .inr ⟨h1, h2, fun x hx => h3 x (hp.mem_iff.2 hx)⟩
  · rintro (h | ⟨h1, h2, h3⟩)
    · exact .inl h
    · exact .inr ⟨h1, h2, fun x hx => h3 x (hp.mem_iff.1 hx)⟩
theorem OkW.perm {w : World} {H H' : Hp} (hp : H.Perm H') (h : OkW cx H w) : OkW cx H' w := {
  nodup := (hp.map _).nodup_iff.1 h.nodup
  keys := fun x hx => h.keys x (hp.mem_iff.2 hx)
  mem := fun x hx => (h.mem x (hp.mem_iff.2 hx)).mono (fun _ hb => ⟨(imm_perm hp).1 hb, rfl⟩) rfl
  ext := h.ext }
theorem Ok.sub {s' : St} {a : Act} {w : World} (h : Ok cx n s a w) (hs : Sub s s') : Ok cx n s' a w := by
  obtain ⟨⟨R, hp⟩, he⟩ := hs
  have hd := (h.world.perm hp).drop
  refine ⟨h.defers, h.size, fun i => ?_, hd.1⟩
  rcases he i with hi | hi
  · rw [hi]; exact .any _
  · rw [hi]; exact (h.reps i).mono fun b hb => ⟨hd.2 b ((imm_perm hp).1 hb), rfl⟩
theorem WP.sub {c : Code} {s' : St} (hs : Sub s s') (h : WP P cx n c Q s') : WP P cx n c Q s := fun a w ok => h a w (ok.sub hs)
theorem Sub.refl (s : St) : Sub s s := ⟨⟨[], by simp⟩, fun _ => .inr rfl⟩
/-- The slots that are named hold what is said; of the others nothing is said. -/
theorem Sub.of_env {env env' : List (Nat × AV)} {H H' : Hp} (R : Hp) (hH : H.Perm (H' ++ R)) (h : ∀ p ∈ env', look env p.1 = p.2) : Sub ⟨env, H⟩ ⟨env', H'⟩ := by
  refine ⟨⟨R, hH⟩, fun i => ?_⟩
  show look env' i = .any ∨ look env' i = look env i
  induction env' with
  | nil => exact .inl rfl
  | cons p r ih =>
    simp only [look]
    split
    · rename_i hi
      have := h p (List.mem_cons_self ..)
      subst hi
      exact .inr this.symm
    · exact ih fun q hq => h q (List.mem_cons_of_mem _ hq)
def LoopQ {Γ : Type} (S : Γ → St) (φ : Γ → Prop) (μ : Γ → Nat) (g : Γ) (Q : Exit → St → Prop) : Exit → St → Prop
  | .normal, s => ∃ g', φ g' ∧ μ g' < μ g ∧ Sub s (S g')
  | e, s => Q e s
theorem WP.loop {c : Code} {Γ : Type} (S : Γ → St) (φ : Γ → Prop) (μ : Γ → Nat) (g0 : Γ) (h0 : φ g0) (hs : Sub s (S g0))
    (round : ∀ g, φ g → WP P cx n c (LoopQ S φ μ g Q) (S g)) : WP P cx n (.loop c) Q s := by
  intro a w ok b k cs
  have key : ∀ m g a w, μ g = m → φ g → Ok cx n (S g) a w →
      ∃ e a' w', (∃ s', Q e s' ∧ Ok cx n s' a' w') ∧ Arrives P (lone (b.at a (.code c :: .inLoop c :: k)) cs w) b k cs e a' w' := by
    intro m
    induction m using Nat.strongRecOn with
    | _ m ih =>
      intro g a w hm hg hok
      obtain ⟨e, a₁, w₁, ⟨s', hq, ok'⟩, harr⟩ := round g hg a w hok b (.inLoop c :: k) cs
      cases e with
      | normal =>
        obtain ⟨g', hg', hlt, hsub⟩ := hq
        obtain ⟨e₂, a₂, w₂, hq₂, harr₂⟩ := ih (μ g') (hm ▸ hlt) g' a₁ w₁ rfl hg' (ok'.sub hsub)
        exact ⟨e₂, a₂, w₂, hq₂, .of_steps (Steps.trans harr (.one step_inLoop)) harr₂⟩
      | exit id => exact ⟨_, a₁, w₁, ⟨s', hq, ok'⟩, .pass (x := .inLoop c) rfl (fun _ _ => .inl (by simp)) harr⟩
      | goto l => exact ⟨_, a₁, w₁, ⟨s', hq, ok'⟩, .pass (x := .inLoop c) rfl (fun _ _ => .inl (by simp)) harr⟩
      | ret => exact ⟨_, a₁, w₁, ⟨s', hq, ok'⟩, .pass (x := .inLoop c) rfl (fun _ _ => .inl (by simp)) harr⟩
      | panic ch => exact ⟨_, a₁, w₁, ⟨s', hq, ok'⟩, .pass (x := .inLoop c) rfl (fun _ _ => .inl (by simp)) harr⟩
      | outgrown => exact ⟨_, a₁, w₁, ⟨s', hq, ok'⟩, .pass (x := .inLoop c) rfl (fun _ _ => .inl (by simp)) harr⟩
  obtain ⟨e, a', w', hq, harr⟩ := key _ g0 a w rfl h0 (ok.sub hs)
  exact ⟨e, a', w', hq, .of_steps (.one step_loop) harr⟩
/-! ## Lists of operations -/
def RP (P : Program) (cx : Cx) (n : Nat) (ops : Array Oper) (l : List Oper) (K : St → Prop) (s : St) : Prop :=
  ∀ R : Exit → Act → World → Prop, (∀ s a w, K s → Ok cx n s a w → R .normal a w) → ∀ a w, Ok cx n s a w → wpList P ops R l a w
theorem WP.region {id : Nat} {l : List Oper} (h : RP P cx n l.toArray l (Q .normal) s) : WP P cx n (.region id l.toArray false) Q s :=
  fun a w ok => wp_region_lit (h _ (fun _ _ _ hk ok' => ⟨_, hk, ok'⟩) a w ok)
variable {ops : Array Oper} {rest : List Oper} {K : St → Prop} {o : Oper}
theorem RP.nil (h : K s) : RP P cx n ops [] K s := fun _ hR a w ok => hR s a w h ok
theorem RP.sub {l : List Oper} {s' : St} (hs : Sub s s') (h : RP P cx n ops l K s') : RP P cx n ops l K s := fun R hR a w ok => h R hR a w (ok.sub hs)
/-- One operation, whatever it does. -/
def OpS (P : Program) (cx : Cx) (n : Nat) (o : Oper) (K : St → Prop) (s : St) : Prop :=
  ∀ (X : Act → World → Prop) (R : Exit → Act → World → Prop), (∀ s' a w, K s' → Ok cx n s' a w → X a w) → ∀ a w, Ok cx n s a w → o.wp P a w X R
theorem RP.step (hg : o.guard = none) (h : OpS P cx n o (RP P cx n ops rest K) s) : RP P cx n ops (o :: rest) K s :=
  fun R hR a w ok => wpList_plain hg fun X hX => h X R (fun _ a' w' hk ok' => hX a' w' (hk R hR a' w' ok')) a w ok
/-- One operation that leaves memory as it is: its value. -/
def PE (P : Program) (cx : Cx) (n : Nat) (o : Oper) (s : St) (x : AV) : Prop :=
  ∀ a w, Ok cx n s a w → ∃ v, (execOp a.eval o).run P w = .ok (.value v) w ∧ Rep w (imm cx w s.H) v x
theorem OpS.of_PE {x : AV} (hd : okd n o.dst) (h : PE P cx n o s x) (hk : K (s.put o.dst x)) : OpS P cx n o K s := by
  intro X R hX a w ok
  obtain ⟨v, hr, hv⟩ := h a w ok
  unfold Oper.wp
  rw [hr]
  exact hX _ _ _ hk (ok.put hd hv)
theorem RP.pure {x : AV} (hg : o.guard = none) (hd : okd n o.dst) (h : PE P cx n o s x) (hk : RP P cx n ops rest K (s.put o.dst x)) :
    RP P cx n ops (o :: rest) K s := RP.step hg (OpS.of_PE hd h hk)
/-- What a guard's slot says. -/
def gdv (want : Bool) : AV → Option Bool
  | .lit (.bool t) => some (t == want)
  | .gd c (.lit (.bool t)) => some (c && (t == want))
  | _ => none
def gdOf (env : List (Nat × AV)) (ops : Array Oper) (j : Nat) (want : Bool) : Option Bool :=
  match (ops[j]?).bind (·.dst) with
  | some d => gdv want (look env d)
  | none => none
theorem wanted_of_gd {a : Act} {w : World} {j : Nat} {want c : Bool} (ok : Ok cx n s a w) (hgd : o.guard = some (j, want))
    (h : gdOf s.env ops j want = some c) : Region.wanted o (yielded ops a.tmps) = c := by
  unfold gdOf at h
  cases hd : (ops[j]?).bind (·.dst) with
  | none => rw [hd] at h; cases h
  | some d =>
    rw [hd] at h
    simp only [Region.wanted, hgd, yielded, hd, Option.bind_some]
    have hr := ok.reps d
    have hget : a.tmps.getD d undef = (a.tmps[d]?).getD undef := by simp
    rw [hget] at hr
    generalize hv : a.tmps[d]? = ov at *
    simp only at h
    generalize hx : look s.env d = x at *
    cases x <;> simp only [gdv] at h <;> try cases h
    case lit v =>
      have := hr.lit_inv
      subst this
      cases ov with
      | none => simp [undef] at h
      | some u => cases u <;> simp at h ⊢; rename_i t; subst h; cases t <;> cases want <;> rfl
    case gd c0 x0 =>
      cases x0 <;> try (simp at h; done)
      rename_i v
      cases v <;> simp at h
      rename_i t
      subst h
      cases c0
      · have : ov.getD undef = undef := hr.gd_false
        cases ov with
        | none => rfl
        | some u => simp at this; subst this; rfl
      · have := (Rep.gd_true rfl hr).lit_inv
        cases ov with
        | none => simp [undef] at this
        | some u => simp at this; subst this; cases t <;> cases want <;> rfl
theorem RP.pureG {x : AV} {j : Nat} {want c : Bool} (hg : o.guard = some (j, want)) (hc : gdOf s.env ops j want = some c) (hd : okd n o.dst)
    (h : c = true → PE P cx n o s x) (hk : RP P cx n ops rest K (s.put o.dst (.gd c x))) : RP P cx n ops (o :: rest) K s := by
  intro R hR a w ok
  refine wpList_step fun X hX => ?_
  rw [wanted_of_gd ok hg hc]
  cases c with
  | true =>
    rw [if_pos rfl]
    obtain ⟨v, hr, hv⟩ := h rfl a w ok
    unfold Oper.wp
    rw [hr]
    exact hX _ _ (hk R hR _ _ (ok.put hd (.gdt _ _ hv)))
  | false =>
    rw [if_neg (by simp)]
    exact hX _ _ (hk R hR _ _ (ok.put hd (.gdf _)))
/-- A guarded operation that may do more: both ways are walked. -/
theorem RP.stepG {j : Nat} {want c : Bool} (hg : o.guard = some (j, want)) (hc : gdOf s.env ops j want = some c) (hd : okd n o.dst)
    (h : c = true → OpS P cx n o (RP P cx n ops rest K) s) (hk : c = false → RP P cx n ops rest K (s.put o.dst (.lit undef))) : RP P cx n ops (o :: rest) K s := by
  intro R hR a w ok
  refine wpList_step fun X hX => ?_
  rw [wanted_of_gd ok hg hc]
  cases c with
  | true =>
    rw [if_pos rfl]
    exact h rfl X R (fun _ a' w' hk' ok' => hX a' w' (hk' R hR a' w' ok')) a w ok
  | false =>
    rw [if_neg (by simp)]
    exact hX _ _ (hk rfl R hR _ _ (ok.put hd (.lit _)))
end
end Go.Proofs.Ytbnkmhlnoaebcaa
namespace Go.Proofs.Ytbnkmhlnoaebcaa
open Go
set_option linter.unusedSimpArgs false
/-! ## Tables of the types -/
/-- One cell, or so many in a row. -/
def tyc (P : Program) (T : TypeId) : Option (Option Nat) :=
  match P.underlying T with
  | none => none
  | some d => match P.info? T with
    | none => none
    | some i => match d with
      | .struct _ => some (some i.size)
      | .array _ _ => some (some i.size)
      | _ => if i.size = 1 then some none else none
/-- Elements: how many (an array), and cells of each. -/
def elt (P : Program) (T : TypeId) : Option (Option Nat × Nat) :=
  match P.underlying T with
  | some (.array len e) => (P.info? e).map fun i => (some len, i.size)
  | some (.slice e) => (P.info? e).map fun i => (none, i.size)
  | _ => none
def foff (P : Program) (T : TypeId) (f : Nat) : Option Nat :=
  match P.underlying T with
  | some (.struct fs) => match fs[f]? with
    | some fl => match P.info? fl.type with
      | some i => if i.size = 0 then none else some fl.offset
      | none => none
    | none => none
  | _ => none
section
variable {P : Program} {w : World} {T : TypeId}
theorem tyc_one (h : tyc P T = some none) : ∃ d i, P.underlying T = some d ∧ P.info? T = some i ∧ i.size = 1 ∧ (∀ fs, d ≠ .struct fs) ∧ ∀ n e, d ≠ .array n e := by
  unfold tyc at h
  split at h
  · cases h
  · rename_i d hd
    split at h
    · cases h
    · rename_i i hi
      split at h
      · cases h
      · cases h
      · rename_i h1 h2
        split at h
        · rename_i hs; exact ⟨d, i, hd, hi, hs, h1, h2⟩
        · cases h
theorem run_isAgg_one (h : tyc P T = some none) : (isAgg T).run P w = .ok false w := by
  obtain ⟨d, i, hd, hi, hs, h1, h2⟩ := tyc_one h
  unfold isAgg
  simp only [Sem.run_bind, run_underlying hd, Result.andThen_ok]
  cases d <;> simp_all
theorem run_isAgg_many {n : Nat} (h : tyc P T = some (some n)) : (isAgg T).run P w = .ok true w ∧ (sizeOf T).run P w = .ok n w := by
  unfold tyc at h
  unfold isAgg sizeOf typeInfo
  split at h
  · cases h
  · rename_i d hd
    split at h
    · cases h
    · rename_i i hi
      simp only [Sem.run_bind, run_underlying hd, Result.andThen_ok]
      split at h
      · cases h; simp [program, Sem.run, hi]
      · cases h; simp [program, Sem.run, hi]
      · split at h <;> cases h
theorem run_sizeOf_info {i : TypeInfo} (h : P.info? T = some i) : (sizeOf T).run P w = .ok i.size w := by
  unfold sizeOf typeInfo
  simp [program, Sem.run, h]
end
/-! ## Values -/
def strip : AV → Prop × AV
  | .gd b x => (b = true, x)
  | x => (True, x)
def og (env : List (Nat × AV)) (x : Operand) : Prop × AV := strip (opd env x)
def one (p : Prop × AV) (f : AV → Prop × AV) : Prop × AV := (p.1 ∧ (f p.2).1, (f p.2).2)
def both (p q : Prop × AV) (f : AV → AV → Prop × AV) : Prop × AV := (p.1 ∧ q.1 ∧ (f p.2 q.2).1, (f p.2 q.2).2)
def pickw : Bool → AV → AV → Prop × AV
  | true, .lit x, _ => (True, .lit x)
  | false, _, .lit y => (True, .lit y)
  | _, _, _ => (False, .any)
def pickv (t : Bool) : AV → AV → Prop × AV
  | .gd g (.lit (.bool u)), .lit (.bool v) => (t = true → g = true, bv (bif t then u else v))
  | .lit (.bool u), .gd g (.lit (.bool v)) => (t = false → g = true, bv (bif t then u else v))
  | .lit (.bool u), .lit (.bool v) => (True, bv (bif t then u else v))
  | a, b => pickw t a b
def picka (c a b : AV) : Prop × AV :=
  match c with
  | .lit (.bool t) => pickv t a b
  | _ => (False, .any)
def ibit (op : BinOp) (k : IntKind) (x y : Int) : Int :=
  let a := BitVec.ofInt k.bits x
  let b := BitVec.ofInt k.bits y
  match op with
  | .and => k.wrap (a &&& b).toNat
  | .or => k.wrap (a ||| b).toNat
  | .xor => k.wrap (a ^^^ b).toNat
  | _ => k.wrap (a &&& ~~~b).toNat
def bini (op : BinOp) (k : IntKind) (a : Int) (k' : IntKind) (b : Int) : Prop × AV :=
  match op with
  | .add => (k = k', iv k (k.wrap (a + b)))
  | .sub => (k = k', iv k (k.wrap (a - b)))
  | .mul => (k = k', iv k (k.wrap (a * b)))
  | .quo => (k = k' ∧ b ≠ 0, iv k (k.wrap (a.tdiv b)))
  | .rem => (k = k' ∧ b ≠ 0, iv k (a.tmod b))
  | .and => (k = k', iv k (ibit .and k a b))
  | .or => (k = k', iv k (ibit .or k a b))
  | .xor => (k = k', iv k (ibit .xor k a b))
  | .andNot => (k = k', iv k (ibit .andNot k a b))
  | .shl => (0 ≤ b, iv k (k.wrap (a * 2 ^ (min b.toNat k.bits))))
  | .shr => (0 ≤ b, iv k (a.fdiv (2 ^ (min b.toNat k.bits))))
  | .eql => (k = k', bv (a == b))
  | .neq => (k = k', bv (a != b))
  | .lss => (k = k', bv (decide (a < b)))
  | .leq => (k = k', bv (decide (a ≤ b)))
  | .gtr => (k = k', bv (decide (a > b)))
  | .geq => (k = k', bv (decide (a ≥ b)))
def bins (op : BinOp) (a b : ByteArray) : Prop × AV :=
  match op with
  | .add => (a.size + b.size ≤ 9223372036854775807, .lit (.string (a ++ b)))
  | .eql => (True, bv (a.toList == b.toList))
  | .neq => (True, bv (!(a.toList == b.toList)))
  | .lss => (True, bv (Op.bytesLess a.toList b.toList))
  | .leq => (True, bv (Op.bytesLess a.toList b.toList || a.toList == b.toList))
  | .gtr => (True, bv (!(Op.bytesLess a.toList b.toList || a.toList == b.toList)))
  | .geq => (True, bv (!Op.bytesLess a.toList b.toList))
  | _ => (False, .any)
def isBoolT (P : Program) (T : TypeId) : Prop := P.underlying T = some .bool
def isPtrT (P : Program) (T : TypeId) : Prop := ∃ e, P.underlying T = some (.pointer e)
def binb (P : Program) (T : TypeId) (op : BinOp) (a b : Bool) : Prop × AV :=
  match op with
  | .eql => (isBoolT P T, bv (a == b))
  | .neq => (isBoolT P T, bv (a != b))
  | _ => (False, .any)
def binp (P : Program) (T : TypeId) (op : BinOp) (r : Bool) : Prop × AV :=
  match op with
  | .eql => (isPtrT P T, bv r)
  | .neq => (isPtrT P T, bv (!r))
  | _ => (False, .any)
/-- Structs and arrays whose cells are compared one by one: the cells of the plain kinds. -/
def eqCells : List AV → List AV → Prop × Bool
  | [], [] => (True, true)
  | .lit (.int k a) :: r, .lit (.int k' b) :: s => (k = k' ∧ (eqCells r s).1, a == b && (eqCells r s).2)
  | .lit (.bool a) :: r, .lit (.bool b) :: s => ((eqCells r s).1, a == b && (eqCells r s).2)
  | .lit (.string a) :: r, .lit (.string b) :: s => ((eqCells r s).1, a == b && (eqCells r s).2)
  | _, _ => (False, false)
/-- What a cell of a plain kind is: 1 an integer, 2 a truth value, 3 a string. -/
def shp : AV → Nat
  | .lit (.int _ _) => 1
  | .lit (.bool _) => 2
  | .lit (.string _) => 3
  | _ => 0
/-- A type whose values, of the given cells, are compared cell by cell (proved of a seat's own types). -/
def flatEq (P : Program) (T : TypeId) (sh : List Nat) : Prop :=
  P.eqGuardType P.depth T = false ∧
  ∀ (w : World) (I : Nat → Prop) (xs ys : Array Value) (cs ds : List AV), cs.map shp = sh → Rep w I (.agg xs) (.agg cs) → Rep w I (.agg ys) (.agg ds) → (eqCells cs ds).1 →
    (Op.equal T (.agg xs) (.agg ys)).run P w = .ok (eqCells cs ds).2 w
def shpT (P : Program) (t : TypeId) : Nat :=
  match P.underlying t with
  | some (.int _) => 1
  | some .bool => 2
  | some .string => 3
  | _ => 0
def flatFs (P : Program) : Nat → List Field → List Nat → Bool
  | _, [], [] => true
  | i, f :: fs, s :: ss => f.name != "_" && f.offset == i && shpT P f.type != 0 && shpT P f.type == s && flatFs P (i + 1) fs ss
  | _, _, _ => false
def flatB (P : Program) (T : TypeId) (sh : List Nat) : Bool :=
  !P.eqGuardType P.depth T && !P.stoodInHeld T && match P.underlying T with
  | some (.struct fs) => flatFs P 0 fs.toList sh
  | _ => false
theorem shpT_plain {P : Program} {t : TypeId} (h : shpT P t ≠ 0) : P.plainKey t = true := by
  unfold shpT at h
  unfold Program.plainKey
  split at h <;> simp_all
theorem eqFs {P : Program} {w : World} {I : Nat → Prop} {xs ys : Array Value} (n : Nat) : ∀ (fs : List Field) (sh : List Nat) (i : Nat) (cs ds : List AV), flatFs P i fs sh = true → cs.map shp = sh → (eqCells cs ds).1 →
    (∀ j, j < cs.length → i + j < xs.size ∧ Rep w I (xs.getD (i + j) undef) (cs.getD j .any)) → (∀ j, j < ds.length → i + j < ys.size ∧ Rep w I (ys.getD (i + j) undef) (ds.getD j .any)) →
    (Op.eqFields (n + 1) xs ys fs).run P w = .ok (eqCells cs ds).2 w
  | [], sh, i, cs, ds, hf, hs, he, hx, hy => by
    cases sh with
    | cons s ss => simp [flatFs] at hf
    | nil =>
      cases cs with
      | cons c cs => simp at hs
      | nil => cases ds with
        | cons d ds => simp [eqCells] at he
        | nil => simp [Op.eqFields, eqCells]
  | f :: fs, sh, i, cs, ds, hf, hs, he, hx, hy => by
    cases sh with
    | nil => simp [flatFs] at hf
    | cons s ss =>
      simp only [flatFs, Bool.and_eq_true, bne_iff_ne, beq_iff_eq] at hf
      obtain ⟨⟨⟨⟨h1, h2⟩, h3⟩, h4⟩, h5⟩ := hf
      cases cs with
      | nil => simp at hs
      | cons c cs =>
        simp only [List.map_cons, List.cons.injEq] at hs
        obtain ⟨hs1, hs2⟩ := hs
        cases ds with
        | nil => cases c <;> simp [eqCells] at he
        | cons d ds =>
          have ih := eqFs (w := w) (I := I) (xs := xs) (ys := ys) n fs ss (i + 1) cs ds h5 hs2
          have hx0 := hx 0 (by simp)
          have hy0 := hy 0 (by simp)
          simp only [Nat.add_zero, List.getD_cons_zero] at hx0 hy0
          have hx' : ∀ j, j < cs.length → i + 1 + j < xs.size ∧ Rep w I (xs.getD (i + 1 + j) undef) (cs.getD j .any) := fun j hj => by
            have := hx (j + 1) (by simp; omega)
            rw [List.getD_cons_succ] at this
            rw [show i + 1 + j = i + (j + 1) by omega]; exact this
          have hy' : ∀ j, j < ds.length → i + 1 + j < ys.size ∧ Rep w I (ys.getD (i + 1 + j) undef) (ds.getD j .any) := fun j hj => by
            have := hy (j + 1) (by simp; omega)
            rw [List.getD_cons_succ] at this
            rw [show i + 1 + j = i + (j + 1) by omega]; exact this
          have hp := shpT_plain h3
          have go : ∀ (u v : Value) (r : Bool), xs.getD i undef = u → ys.getD i undef = v → (Op.equalIn (n + 1) f.type u v).run P w = .ok r w → (eqCells cs ds).1 →
              (Op.eqFields (n + 1) xs ys (f :: fs)).run P w = .ok (r && (eqCells cs ds).2) w := by
            intro u v r hu hv hr hc
            have p1 : (part f.type xs f.offset).run P w = .ok u w := run_part_plain w hp (by
              rw [h2, Array.getElem?_eq_getElem hx0.1, ← hu]; simp [Array.getD, hx0.1])
            have p2 : (part f.type ys f.offset).run P w = .ok v w := run_part_plain w hp (by
              rw [h2, Array.getElem?_eq_getElem hy0.1, ← hv]; simp [Array.getD, hy0.1])
            simp only [Op.eqFields, h1, ne_eq, not_false_eq_true, if_true, Sem.run_bind, p1, p2, hr, Result.andThen_ok]
            cases r
            · simp
            · simpa using ih hc hx' hy'
          unfold eqCells at he ⊢
          split at he
          · cases ‹_ :: _ = []›
          · rename_i k a r k' b s' e1 e2
            simp only [List.cons.injEq] at e1 e2
            obtain ⟨rfl, rfl⟩ := e1
            obtain ⟨rfl, rfl⟩ := e2
            obtain ⟨rfl, hc⟩ := he
            obtain ⟨kt, hk⟩ : ∃ kt, P.underlying f.type = some (.int kt) := by
              simp only [shp] at hs1; rw [← hs1] at h4; unfold shpT at h4; split at h4 <;> first | exact ⟨_, ‹_›⟩ | cases h4
            exact go _ _ _ hx0.2.lit_inv hy0.2.lit_inv (run_equalIn_int w n f.type k kt a b hk) hc
          · rename_i a r b s' e1 e2
            simp only [List.cons.injEq] at e1 e2
            obtain ⟨rfl, rfl⟩ := e1
            obtain ⟨rfl, rfl⟩ := e2
            have hk : P.underlying f.type = some .bool := by
              simp only [shp] at hs1; rw [← hs1] at h4; unfold shpT at h4; split at h4 <;> first | assumption | cases h4
            exact go _ _ _ hx0.2.lit_inv hy0.2.lit_inv (run_equalIn_bool w n f.type a b hk) he
          · rename_i a r b s' e1 e2
            simp only [List.cons.injEq] at e1 e2
            obtain ⟨rfl, rfl⟩ := e1
            obtain ⟨rfl, rfl⟩ := e2
            have hk : P.underlying f.type = some .string := by
              simp only [shp] at hs1; rw [← hs1] at h4; unfold shpT at h4; split at h4 <;> first | assumption | cases h4
            have := go _ _ _ hx0.2.lit_inv hy0.2.lit_inv (run_equalIn_string w n f.type a b hk) he
            rw [← beq_toListBytes] at this
            exact this
          · exact he.elim
theorem flatEq_of {P : Program} {T : TypeId} {sh : List Nat} (h : flatB P T sh = true) : flatEq P T sh := by
  unfold flatB at h
  simp only [Bool.and_eq_true, Bool.not_eq_true'] at h
  obtain ⟨⟨h1, h2⟩, h3⟩ := h
  refine ⟨h1, fun w I xs ys cs ds hs hx hy he => ?_⟩
  split at h3
  · rename_i fs hu
    have hf : P.fieldsOf T = fs := by unfold Program.fieldsOf; rw [hu]
    obtain ⟨hxs, hxr⟩ : xs.size = cs.length ∧ ∀ i (hi : i < cs.length), Rep w I (xs.getD i undef) cs[i] := by cases hx; exact ⟨by assumption, by assumption⟩
    obtain ⟨hys, hyr⟩ : ys.size = ds.length ∧ ∀ i (hi : i < ds.length), Rep w I (ys.getD i undef) ds[i] := by cases hy; exact ⟨by assumption, by assumption⟩
    show (Op.equalIn (9999 + 1) T _ _).run P w = _
    rw [run_equalIn_struct w 9999 T xs ys (by rw [hf]; exact hu) h2, hf]
    refine eqFs (I := I) 9998 fs.toList sh 0 cs ds h3 hs he (fun j hj => ?_) (fun j hj => ?_)
    · have := hxr j hj
      rw [Nat.zero_add]
      exact ⟨by omega, by simpa [List.getD, hj] using this⟩
    · have := hyr j hj
      rw [Nat.zero_add]
      exact ⟨by omega, by simpa [List.getD, hj] using this⟩
  · cases h3
def bina (P : Program) (T : TypeId) (op : BinOp) (cs ds : List AV) : Prop × AV :=
  match op with
  | .eql => (flatEq P T (cs.map shp) ∧ (eqCells cs ds).1, bv (eqCells cs ds).2)
  | .neq => (flatEq P T (cs.map shp) ∧ (eqCells cs ds).1, bv (!(eqCells cs ds).2))
  | _ => (False, .any)
def binv (P : Program) (T : TypeId) (op : BinOp) : AV → AV → Prop × AV
  | .lit (.int k a), .lit (.int k' b) => bini op k a k' b
  | .lit (.string a), .lit (.string b) => bins op a b
  | .lit (.bool a), .lit (.bool b) => binb P T op a b
  | .lit (.pointer none), .lit (.pointer b) => binp P T op b.isNone
  | .lit (.pointer (some _)), .lit (.pointer none) => binp P T op false
  | .ip _, .lit (.pointer none) => binp P T op false
  | .ipz _ _, .lit (.pointer none) => binp P T op false
  | .agg cs, .agg ds => bina P T op cs ds
  | _, _ => (False, .any)
def unv (op : UnOp) : AV → Prop × AV
  | .lit (.bool b) => match op with
    | .not => (True, bv (!b))
    | _ => (False, .any)
  | .lit (.int k n) => match op with
    | .neg => (True, iv k (k.wrap (0 - n)))
    | .xor => (True, iv k (ibit .xor k (if k.signed then -1 else k.max) n))
    | _ => (False, .any)
  | _ => (False, .any)
section
variable {P : Program} {w : World} {I : Nat → Prop} {T : TypeId}
theorem run_bini {op : BinOp} {k k' : IntKind} {a b : Int} (h : (bini op k a k' b).1) :
    ∃ v, (bini op k a k' b).2 = .lit v ∧ (binOp op T (.int k a) (.int k' b)).run P w = .ok v w := by
  cases op <;> simp only [bini] at h ⊢ <;> refine ⟨_, rfl, ?_⟩
  case quo => obtain ⟨rfl, hb⟩ := h; simp [binOp, Op.intDiv, hb]
  case rem => obtain ⟨rfl, hb⟩ := h; simp [binOp, Op.intDiv, hb]
  case shl => simp [binOp, Op.shift, Int.not_lt.2 h]
  case shr => simp [binOp, Op.shift, Int.not_lt.2 h]
  all_goals (subst h; simp [binOp, Op.intArith, Op.intBits, Op.intCmp, ibit])
theorem run_eqGuard_plain {op : BinOp} {x y : Operand} {a b : Value} (h : ∀ xs ys, ¬ (a = .agg xs ∧ b = .agg ys)) (h' : ¬ (a = .nilIface ∧ b = .nilIface)) :
    (eqGuard op T x y a b).run P w = .ok () w := by
  unfold eqGuard
  cases op <;> simp <;> (cases a <;> cases b <;> simp_all)
theorem equal_succ (x y : Value) : Op.equal T x y = Op.equalIn (9999 + 1) T x y := rfl
theorem run_equal_bool (h : P.underlying T = some .bool) (a b : Bool) : (Op.equal T (.bool a) (.bool b)).run P w = .ok (a == b) w := by
  rw [equal_succ]
  generalize 9999 = d
  simp [Op.equalIn, run_underlying h]
theorem run_equal_nl {e : TypeId} (h : P.underlying T = some (.pointer e)) (b : Option Addr) : (Op.equal T (.pointer none) (.pointer b)).run P w = .ok b.isNone w := by
  rw [equal_succ]
  generalize 9999 = d
  simp [Op.equalIn, run_underlying h]
theorem run_equal_nr {e : TypeId} (h : P.underlying T = some (.pointer e)) (a : Addr) : (Op.equal T (.pointer (some a)) (.pointer none)).run P w = .ok false w := by
  rw [equal_succ]
  generalize 9999 = d
  simp [Op.equalIn, run_underlying h]
theorem run_bins {op : BinOp} {a b : ByteArray} (h : (bins op a b).1) :
    ∃ v, (bins op a b).2 = .lit v ∧ (binOp op T (.string a) (.string b)).run P w = .ok v w := by
  cases op <;> simp only [bins] at h ⊢ <;> first | (exact h.elim) | skip
  case add =>
    refine ⟨_, rfl, ?_⟩
    have : ¬ (((a.size + b.size : Nat) : Int) > IntKind.i64.max) := by
      simp only [IntKind.max, IntKind.signed, IntKind.bits]
      simp
      omega
    simp only [binOp, Op.stringOp, if_neg this, Sem.run_pure]
  all_goals (refine ⟨_, rfl, ?_⟩; simp [binOp, Op.stringOp])
theorem run_binb {op : BinOp} {a b : Bool} (h : (binb P T op a b).1) :
    ∃ v, (binb P T op a b).2 = .lit v ∧ (binOp op T (.bool a) (.bool b)).run P w = .ok v w := by
  cases op <;> simp only [binb, isBoolT] at h ⊢ <;> first | (exact h.elim) | skip
  all_goals (refine ⟨_, rfl, ?_⟩; simp [binOp, run_equal_bool h, bne])
theorem run_binp_nl {op : BinOp} {b : Option Addr} (h : (binp P T op b.isNone).1) :
    ∃ v, (binp P T op b.isNone).2 = .lit v ∧ (binOp op T (.pointer none) (.pointer b)).run P w = .ok v w := by
  cases op <;> simp only [binp, isPtrT] at h ⊢ <;> first | (exact h.elim) | skip
  all_goals (obtain ⟨e, h⟩ := h; refine ⟨_, rfl, ?_⟩; simp [binOp, run_equal_nl h])
theorem run_binp_nr {op : BinOp} {a : Addr} (h : (binp P T op false).1) :
    ∃ v, (binp P T op false).2 = .lit v ∧ (binOp op T (.pointer (some a)) (.pointer none)).run P w = .ok v w := by
  cases op <;> simp only [binp, isPtrT] at h ⊢ <;> first | (exact h.elim) | skip
  all_goals (obtain ⟨e, h⟩ := h; refine ⟨_, rfl, ?_⟩; simp [binOp, run_equal_nr h])
theorem run_bina {op : BinOp} {xs ys : Array Value} {cs ds : List AV} {x y : Operand} (hx : Rep w I (.agg xs) (.agg cs)) (hy : Rep w I (.agg ys) (.agg ds))
    (h : (bina P T op cs ds).1) : ∃ v, (bina P T op cs ds).2 = .lit v ∧
      (do eqGuard op T x y (.agg xs) (.agg ys); binOp op T (.agg xs) (.agg ys) : Sem Value).run P w = .ok v w := by
  cases op <;> simp only [bina] at h ⊢ <;> first | (exact h.elim) | skip
  all_goals
    obtain ⟨⟨hg, hf⟩, he⟩ := h
    have hr := hf w I xs ys cs ds rfl hx hy he
    refine ⟨_, rfl, ?_⟩
    simp [eqGuard, program, Sem.run, hg, binOp, hr]
/-- The heart of '+', '<', '==' and their like. -/
theorem run_binv {op : BinOp} {x y : Operand} {u v : Value} {a b : AV} (hu : Rep w I u a) (hv : Rep w I v b) (h : (binv P T op a b).1) :
    ∃ r, (do eqGuard op T x y u v; binOp op T u v : Sem Value).run P w = .ok r w ∧ Rep w I r (binv P T op a b).2 := by
  unfold binv at h ⊢
  split at h
  · rename_i k m k' m'
    have := hu.lit_inv; have := hv.lit_inv; subst_vars
    obtain ⟨r, h1, h2⟩ := run_bini (P := P) (w := w) (T := T) h
    exact ⟨r, by rw [Sem.run_bind, run_eqGuard_plain (by simp) (by simp)]; exact h2, by rw [h1]; exact .lit _⟩
  · have := hu.lit_inv; have := hv.lit_inv; subst_vars
    obtain ⟨r, h1, h2⟩ := run_bins (P := P) (w := w) (T := T) h
    exact ⟨r, by rw [Sem.run_bind, run_eqGuard_plain (by simp) (by simp)]; exact h2, by rw [h1]; exact .lit _⟩
  · have := hu.lit_inv; have := hv.lit_inv; subst_vars
    obtain ⟨r, h1, h2⟩ := run_binb (P := P) (w := w) (T := T) h
    exact ⟨r, by rw [Sem.run_bind, run_eqGuard_plain (by simp) (by simp)]; exact h2, by rw [h1]; exact .lit _⟩
  · have := hu.lit_inv; have := hv.lit_inv; subst_vars
    obtain ⟨r, h1, h2⟩ := run_binp_nl (P := P) (w := w) (T := T) h
    exact ⟨r, by rw [Sem.run_bind, run_eqGuard_plain (by simp) (by simp)]; exact h2, by rw [h1]; exact .lit _⟩
  · have := hu.lit_inv; have := hv.lit_inv; subst_vars
    obtain ⟨r, h1, h2⟩ := run_binp_nr (P := P) (w := w) (T := T) h
    exact ⟨r, by rw [Sem.run_bind, run_eqGuard_plain (by simp) (by simp)]; exact h2, by rw [h1]; exact .lit _⟩
  · have := hv.lit_inv; subst_vars
    cases hu
    obtain ⟨r, h1, h2⟩ := run_binp_nr (P := P) (w := w) (T := T) h
    exact ⟨r, by rw [Sem.run_bind, run_eqGuard_plain (by simp) (by simp)]; exact h2, by rw [h1]; exact .lit _⟩
  · have := hv.lit_inv; subst_vars
    cases hu
    obtain ⟨r, h1, h2⟩ := run_binp_nr (P := P) (w := w) (T := T) h
    exact ⟨r, by rw [Sem.run_bind, run_eqGuard_plain (by simp) (by simp)]; exact h2, by rw [h1]; exact .lit _⟩
  · rename_i cs ds
    obtain ⟨xs, rfl⟩ : ∃ xs, u = .agg xs := by cases hu; exact ⟨_, rfl⟩
    obtain ⟨ys, rfl⟩ : ∃ ys, v = .agg ys := by cases hv; exact ⟨_, rfl⟩
    obtain ⟨r, h1, h2⟩ := run_bina (P := P) (T := T) (x := x) (y := y) hu hv h
    exact ⟨r, h2, by rw [h1]; exact .lit _⟩
  · exact h.elim
theorem run_unv {op : UnOp} {u : Value} {a : AV} (hu : Rep w I u a) (h : (unv op a).1) :
    ∃ r, (Op.unary op u).run P w = .ok r w ∧ Rep w I r (unv op a).2 := by
  unfold unv at h ⊢
  split at h
  · have := hu.lit_inv; subst this
    cases op <;> simp only at h ⊢ <;> first | exact h.elim | skip
    exact ⟨_, by simp [Op.unary], .lit _⟩
  · have := hu.lit_inv; subst this
    cases op <;> simp only at h ⊢ <;> first | exact h.elim | skip
    · exact ⟨_, by simp [Op.unary, Op.intArith], .lit _⟩
    · exact ⟨_, by simp [Op.unary, Op.intBits, ibit], .lit _⟩
  · exact h.elim
theorem rep_pick {c a b : AV} {u v z : Value} (hc : Rep w I u c) (ha : Rep w I v a) (hb : Rep w I z b) (h : (picka c a b).1) :
    ∃ t, u = .bool t ∧ Rep w I (if t then v else z) (picka c a b).2 := by
  unfold picka at h ⊢
  split at h
  · rename_i t
    refine ⟨t, hc.lit_inv, ?_⟩
    unfold pickv at h ⊢
    split at h
    · have := hb.lit_inv; subst this
      cases t
      · exact .lit _
      · have := (ha.gd_true (h rfl)).lit_inv; subst this; exact .lit _
    · have := ha.lit_inv; subst this
      cases t
      · have := (hb.gd_true (h rfl)).lit_inv; subst this; exact .lit _
      · exact .lit _
    · have := hb.lit_inv; have := ha.lit_inv; subst_vars
      cases t <;> exact .lit _
    · unfold pickw at h ⊢
      split at h
      · exact ha
      · exact hb
      · exact h.elim
  · exact h.elim
end
end Go.Proofs.Ytbnkmhlnoaebcaa
namespace Go.Proofs.Ytbnkmhlnoaebcaa
open Go
set_option linter.unusedSimpArgs false
def hget : Hp → Nat → Option MB
  | [], _ => none
  | (b', m) :: r, b => if b = b' then some m else hget r b
theorem hget_mem {H : Hp} {b : Nat} {m : MB} (h : hget H b = some m) : (b, m) ∈ H := by
  induction H with
  | nil => cases h
  | cons p r ih =>
    obtain ⟨b', m'⟩ := p
    simp only [hget] at h
    split at h
    · rename_i hb; subst hb; cases h; exact List.mem_cons_self ..
    · exact List.mem_cons_of_mem _ (ih h)
def load1m : Option MB → Nat → Prop × AV
  | some (.cells cs _ _), off => (off < cs.length, cs.getD off .any)
  | some (.zs k zs _ _), off => (off < zs.length, iv k (zs.getD off 0))
  | _, _ => (False, .any)
def load1 (H : Hp) : AV → Prop × AV
  | .ip cs => (0 < cs.length, cs.getD 0 .any)
  | .ipz k zs => (0 < zs.length, iv k (zs.getD 0 0))
  | .lit (.pointer (some ⟨b, off, none⟩)) => load1m (hget H b) off
  | _ => (False, .any)
def loadnm (n : Nat) : Option MB → Nat → Prop × AV
  | some (.cells cs _ _), off => (off + n ≤ cs.length, .agg ((cs.drop off).take n))
  | some (.zs k zs _ _), off => (off + n ≤ zs.length, .agg (((zs.drop off).take n).map (iv k)))
  | _, _ => (False, .any)
def loadn (H : Hp) (n : Nat) : AV → Prop × AV
  | .ip cs => (n ≤ cs.length, .agg (cs.take n))
  | .ipz k zs => (n ≤ zs.length, .agg ((zs.take n).map (iv k)))
  | .lit (.pointer (some ⟨b, off, none⟩)) => loadnm n (hget H b) off
  | _ => (False, .any)
def loadv (P : Program) (H : Hp) (T : TypeId) (x : AV) : Prop × AV :=
  match tyc P T with
  | some none => load1 H x
  | some (some n) => loadn H n x
  | none => (False, .any)
section
variable {P : Program} {w : World} {T : TypeId} {cx : Cx} {H : Hp}
theorem cell_of_block {b off : Nat} {cur : Array Value} {ty : TypeId} {fz : Nat × Nat} (h : w.heap[b]? = some (.cells cur ty fz)) : w.cell? ⟨b, off, none⟩ = cur[off]? := by
  simp [World.cell?, h]
theorem rep_load1 (hw : OkW cx H w) {v : Value} {x : AV} (hv : Rep w (imm cx w H) v x) (h : (load1 H x).1) :
    ∃ ad u, v = .pointer (some ad) ∧ w.cell? ad = some u ∧ Rep w (imm cx w H) u (load1 H x).2 := by
  unfold load1 at h ⊢
  split at h
  · cases hv with
    | ip ad cs g hs r =>
      rcases hs with hs | ⟨b, off, ha, hb, hc⟩
      · simp only [hs] at h; omega
      · cases ha
        refine ⟨_, _, rfl, hc 0 h, ?_⟩
        have := r 0 h
        simpa [List.getD, List.getElem?_eq_getElem h] using this
  · cases hv with
    | ipz ad k zs hs =>
      rcases hs with hs | ⟨b, off, ha, hb, hc⟩
      · simp only [hs] at h; omega
      · cases ha
        exact ⟨_, _, rfl, hc 0 h, .lit _⟩
  · rename_i b off
    have := hv.lit_inv
    subst this
    cases hg : hget H b with
    | none => rw [hg] at h; exact h.elim
    | some m =>
      rw [hg] at h
      cases m with
      | cells cs sz ty =>
        obtain ⟨cur, h1, h2, h3, h4⟩ := hw.mem _ (hget_mem hg)
        have hlt : off < cur.size := by have : off < cs.length := h; omega
        refine ⟨_, cur[off], rfl, by rw [cell_of_block h1]; simp [hlt], ?_⟩
        have h' : off < cs.length := h
        have e : cs.getD off .any = cs[off] := by simp [List.getD, h']
        have e2 : cur.getD off undef = cur[off] := by simp [hlt]
        show Rep w _ cur[off] (cs.getD off .any)
        rw [e, ← e2]
        exact h4 off h'
      | zs k zs sz ty =>
        obtain ⟨cur, h1, h2, h3, h4⟩ := hw.mem _ (hget_mem hg)
        exact ⟨_, _, rfl, by rw [cell_of_block h1]; exact h4 off h, .lit _⟩
      | obj o => exact h.elim
  · exact h.elim
theorem rep_agg_range {I : Nat → Prop} {f : Nat → Value} {n : Nat} {cs : List AV} (hn : cs.length = n) (h : ∀ j (hj : j < cs.length), Rep w I (f j) cs[j]) :
    Rep w I (.agg ((List.range n).map f).toArray) (.agg cs) := by
  refine .agg _ _ (by simp [hn]) fun i hi => ?_
  have hi' : i < n := hn ▸ hi
  have : ((List.range n).map f).toArray.getD i undef = f i := by simp [hi']
  rw [this]
  exact h i hi
theorem Addr.add_none {b off j : Nat} : (⟨b, off, none⟩ : Addr).add j = ⟨b, off + j, none⟩ := by
  unfold Addr.add
  split <;> simp_all
theorem rep_loadn {n : Nat} (hw : OkW cx H w) {v : Value} {x : AV} (hv : Rep w (imm cx w H) v x) (h : (loadn H n x).1) :
    ∃ ad f, v = .pointer (some ad) ∧ (∀ j, j < n → w.cell? (ad.add j) = some (f j)) ∧ Rep w (imm cx w H) (.agg ((List.range n).map f).toArray) (loadn H n x).2 := by
  unfold loadn at h ⊢
  split at h
  · rename_i cs
    have h : n ≤ cs.length := h
    cases hv with
    | ip ad cs g hs r =>
      rcases hs with hs | ⟨b, off, ha, hb, hc⟩
      · have : n = 0 := by omega
        subst this
        exact ⟨ad, fun _ => undef, rfl, fun j hj => by omega, rep_agg_range (by simp) (by simp)⟩
      · cases ha
        refine ⟨_, g, rfl, fun j hj => by rw [Addr.add_none]; exact hc j (by omega), rep_agg_range (by simp; omega) fun j hj => ?_⟩
        simp only [List.length_take] at hj
        simp only [List.getElem_take]
        exact r j (by omega)
  · rename_i k zs
    have h : n ≤ zs.length := h
    cases hv with
    | ipz ad k zs hs =>
      rcases hs with hs | ⟨b, off, ha, hb, hc⟩
      · have : n = 0 := by omega
        subst this
        exact ⟨ad, fun _ => undef, rfl, fun j hj => by omega, rep_agg_range (by simp) (by simp)⟩
      · cases ha
        refine ⟨_, _, rfl, fun j hj => by rw [Addr.add_none]; exact hc j (by omega), rep_agg_range (by simp; omega) fun j hj => ?_⟩
        simp only [List.length_map, List.length_take] at hj
        have hj' : j < zs.length := by omega
        simp [List.getD, hj']
        exact .lit _
  · rename_i b off
    have := hv.lit_inv
    subst this
    cases hg : hget H b with
    | none => rw [hg] at h; exact h.elim
    | some m =>
      rw [hg] at h
      cases m with
      | cells cs sz ty =>
        have h : off + n ≤ cs.length := h
        obtain ⟨cur, h1, h2, h3, h4⟩ := hw.mem _ (hget_mem hg)
        refine ⟨_, fun j => cur.getD (off + j) undef, rfl, fun j hj => ?_, rep_agg_range (by simp; omega) fun j hj => ?_⟩
        · rw [Addr.add_none, cell_of_block h1]
          have : off + j < cur.size := by omega
          simp [this]
        · simp only [List.length_take, List.length_drop] at hj
          simp only [List.getElem_take, List.getElem_drop]
          exact h4 (off + j) (by omega)
      | zs k zs sz ty =>
        have h : off + n ≤ zs.length := h
        obtain ⟨cur, h1, h2, h3, h4⟩ := hw.mem _ (hget_mem hg)
        refine ⟨_, fun j => .int k (zs.getD (off + j) 0), rfl, fun j hj => ?_, rep_agg_range (by simp; omega) fun j hj => ?_⟩
        · rw [Addr.add_none, cell_of_block h1]
          exact h4 _ (by omega)
        · simp only [List.length_map, List.length_take, List.length_drop] at hj
          have : off + j < zs.length := by omega
          simp [List.getD, this]
          exact .lit _
      | obj o => exact h.elim
  · exact h.elim
theorem run_loadVar_of (hw : OkW cx H w) {v : Value} {x : AV} (hv : Rep w (imm cx w H) v x) (h : (loadv P H T x).1) :
    ∃ ad u, v = .pointer (some ad) ∧ (loadVar T ad).run P w = .ok u w ∧ Rep w (imm cx w H) u (loadv P H T x).2 := by
  unfold loadv at h ⊢
  split at h
  · rename_i ht
    obtain ⟨ad, u, rfl, hc, hr⟩ := rep_load1 hw hv h
    refine ⟨ad, u, rfl, ?_, hr⟩
    unfold loadVar
    simp only [Sem.run_bind, run_isAgg_one ht, Result.andThen_ok, Bool.false_eq_true, if_false]
    simp [load, Sem.run, hc]
  · rename_i n ht
    obtain ⟨ad, f, rfl, hc, hr⟩ := rep_loadn hw hv h
    refine ⟨ad, _, rfl, ?_, hr⟩
    unfold loadVar
    simp only [Sem.run_bind, (run_isAgg_many ht).1, (run_isAgg_many ht).2, Result.andThen_ok, if_true, run_loadCells w ad n f hc, Sem.run_pure]
  · exact h.elim
theorem run_load_of (hw : OkW cx H w) {v : Value} {x : AV} (hv : Rep w (imm cx w H) v x) (h : (loadv P H T x).1) :
    ∃ u, (Instr.loadAt T v).run P w = .ok u w ∧ Rep w (imm cx w H) u (loadv P H T x).2 := by
  obtain ⟨ad, u, rfl, h1, h2⟩ := run_loadVar_of hw hv h
  exact ⟨u, by simpa [Instr.loadAt, Instr.sureAddr] using h1, h2⟩
end
/-! ## Addresses -/
def addp (o : Nat) : AV → Prop × AV
  | .lit (.pointer (some ⟨b, off, none⟩)) => (True, pt b (off + o))
  | .ip cs => (True, .ip (cs.drop o))
  | .ipz k zs => (True, .ipz k (zs.drop o))
  | _ => (False, .any)
def faddv (P : Program) (T : TypeId) (f : Nat) (x : AV) : Prop × AV :=
  match foff P T f with
  | some o => addp o x
  | none => (False, .any)
/-- The place of an element. -/
def idxp (P : Program) (T : TypeId) (x : AV) (i : Int) : Prop × AV :=
  match elt P T with
  | some (some len, sz) => (0 ≤ i ∧ i < len ∧ (addp (i.toNat * sz) x).1, (addp (i.toNat * sz) x).2)
  | some (none, sz) => match x with
    | .slz k zs => (sz = 1 ∧ 0 ≤ i ∧ i < zs.length, .ipz k (zs.drop i.toNat))
    | .sl n cs => (0 ≤ i ∧ i < n ∧ (i.toNat + 1) * sz ≤ cs.length ∧ 0 < sz, .ip (cs.drop (i.toNat * sz)))
    | .lit (.slice (some ⟨b, off, none⟩) n _) => (0 ≤ i ∧ i < n, pt b (off + i.toNat * sz))
    | _ => (False, .any)
  | none => (False, .any)
def idxav (P : Program) (T : TypeId) (x i : AV) : Prop × AV :=
  match i with
  | .lit (.int _ i) => idxp P T x i
  | _ => (False, .any)
section
variable {P : Program} {w : World} {T : TypeId} {I : Nat → Prop}
theorem Spot.drop {ad : Addr} {n o : Nat} {g : Nat → Value} (h : Spot w I (some ad) n g) (ho : o < n) :
    ad.spot = none ∧ Spot w I (some (ad.add o)) (n - o) (fun i => g (o + i)) := by
  rcases h with h | ⟨b, off, ha, hb, hc⟩
  · omega
  · cases ha
    refine ⟨rfl, .inr ⟨b, off + o, by rw [Addr.add_none], hb, fun i hi => ?_⟩⟩
    have := hc (o + i) (by omega)
    rwa [← Nat.add_assoc] at this
theorem rep_addp {o : Nat} {v : Value} {x : AV} (hv : Rep w I v x) (h : (addp o x).1) : ∃ ad, v = .pointer (some ad) ∧ Rep w I (.pointer (some (ad.add o))) (addp o x).2 := by
  unfold addp at h ⊢
  split at h
  · have := hv.lit_inv; subst this
    exact ⟨_, rfl, by rw [Addr.add_none]; exact .lit _⟩
  · rename_i cs
    cases hv with
    | ip ad cs g hs r =>
      refine ⟨ad, rfl, ?_⟩
      by_cases ho : o < cs.length
      · obtain ⟨_, h2⟩ := hs.drop ho
        refine .ip _ _ (fun i => g (o + i)) (by simpa using h2) fun i hi => ?_
        simp only [List.length_drop] at hi
        simp only [List.getElem_drop]
        exact r _ (by omega)
      · exact .ip _ _ (fun _ => undef) (.inl (by simp; omega)) fun i hi => by simp at hi; omega
  · rename_i k zs
    cases hv with
    | ipz ad k zs hs =>
      refine ⟨ad, rfl, ?_⟩
      by_cases ho : o < zs.length
      · obtain ⟨_, h2⟩ := hs.drop ho
        exact .ipz _ _ _ (by simpa [List.getD] using h2)
      · exact .ipz _ _ _ (.inl (by simp; omega))
  · exact h.elim
theorem run_fadd {f : Nat} {v : Value} {x : AV} (hv : Rep w I v x) (h : (faddv P T f x).1) : ∃ u, (Instr.fieldAt T v f).run P w = .ok u w ∧ Rep w I u (faddv P T f x).2 := by
  unfold faddv at h ⊢
  split at h
  · rename_i o ho
    obtain ⟨ad, rfl, hr⟩ := rep_addp hv h
    refine ⟨_, ?_, hr⟩
    unfold foff at ho
    split at ho
    · rename_i fs hd
      split at ho
      · rename_i fl hfl
        split at ho
        · rename_i i hi
          split at ho
          · cases ho
          · rename_i hz
            cases ho
            simp [Instr.fieldAt, run_underlying hd, hfl, Instr.sureAddr, fieldPlace, run_sizeOf_info hi, hz]
        · cases ho
      · cases ho
    · cases ho
  · exact h.elim
theorem run_idx {v u : Value} {x i : AV} (hv : Rep w I v x) (hi : Rep w I u i) (h : (idxav P T x i).1) : ∃ r, (Instr.indexAt T v u).run P w = .ok r w ∧ Rep w I r (idxav P T x i).2 := by
  unfold idxav at h ⊢
  split at h
  · rename_i k i
    have := hi.lit_inv; subst this
    unfold idxp at h ⊢
    split at h
    · rename_i len sz he
      obtain ⟨h0, h1, h2⟩ := h
      obtain ⟨ad, rfl, hr⟩ := rep_addp hv h2
      unfold elt at he
      split at he
      · rename_i len' e hd
        cases hi' : P.info? e with
        | none => rw [hi'] at he; cases he
        | some inf =>
          rw [hi'] at he
          cases he
          exact ⟨_, by simp [Instr.indexAt, asIntOf, run_underlying hd, Instr.sureAddr, h0, h1, run_sizeOf_info hi'], hr⟩
      · rename_i e hd
        cases hi' : P.info? e with
        | none => rw [hi'] at he; cases he
        | some inf => rw [hi'] at he; cases he
      · cases he
    · rename_i sz he
      unfold elt at he
      split at he
      · rename_i len' e hd
        cases hi' : P.info? e with
        | none => rw [hi'] at he; cases he
        | some inf => rw [hi'] at he; cases he
      · rename_i e hd
        cases hi' : P.info? e with
        | none => rw [hi'] at he; cases he
        | some inf =>
          rw [hi'] at he
          cases he
          split at h
          · rename_i k' zs
            obtain ⟨hs, h0, h1⟩ := h
            cases hv with
            | slz a k zs cap hn hm hsp =>
              rcases hsp with hsp | ⟨b, off, rfl, hb, hc⟩
              · omega
              · refine ⟨.pointer (some ⟨b, off + i.toNat, none⟩), by simp [Instr.indexAt, asIntOf, run_underlying hd, h0, h1, run_sizeOf_info hi', hs, Addr.add_none], ?_⟩
                have hlt : i.toNat < zs.length := by omega
                refine .ipz _ _ _ (.inr ⟨b, off + i.toNat, rfl, hb, fun j hj => ?_⟩)
                have := hc (i.toNat + j) (by simp at hj; omega)
                simpa [Nat.add_assoc, List.getD] using this
          · rename_i n cs
            obtain ⟨h0, h1, h2, h3⟩ := h
            cases hv with
            | sl a n cap cs g hn hm hsp r =>
              have hlt : i.toNat * inf.size < cs.length := by rw [Nat.add_mul] at h2; omega
              rcases hsp with hsp | ⟨b, off, rfl, hb, hc⟩
              · omega
              · refine ⟨.pointer (some ⟨b, off + i.toNat * inf.size, none⟩), by simp [Instr.indexAt, asIntOf, run_underlying hd, h0, h1, run_sizeOf_info hi', Addr.add_none], ?_⟩
                refine .ip _ _ (fun j => g (i.toNat * inf.size + j)) (.inr ⟨b, off + i.toNat * inf.size, rfl, hb, fun j hj => ?_⟩) fun j hj => ?_
                · have := hc (i.toNat * inf.size + j) (by simp at hj; omega)
                  rwa [← Nat.add_assoc] at this
                · simp only [List.length_drop] at hj
                  simp only [List.getElem_drop]
                  exact r _ (by omega)
          · obtain ⟨h0, h1⟩ := h
            have := hv.lit_inv; subst this
            exact ⟨_, by simp [Instr.indexAt, asIntOf, run_underlying hd, h0, h1, run_sizeOf_info hi', Addr.add_none], .lit _⟩
          · exact h.elim
      · cases he
    · exact h.elim
  · exact h.elim
end
end Go.Proofs.Ytbnkmhlnoaebcaa
namespace Go.Proofs.Ytbnkmhlnoaebcaa
open Go
set_option linter.unusedSimpArgs false
set_option linter.unusedVariables false
def bstr (zs : List Int) : ByteArray := ⟨(zs.map fun n => UInt8.ofNat n.toNat).toArray⟩
def isSliceT (P : Program) (T : TypeId) : Prop := ∃ e, P.underlying T = some (.slice e)
def bnd (d : Int) : Option AV → Prop × Int
  | none => (True, d)
  | some (.lit (.int _ i)) => (True, i)
  | some _ => (False, 0)
def shift1 (cap l off sz : Nat) : Nat := if cap = l then off else off + l * sz
def slicev (P : Program) (T : TypeId) (x : AV) (lo hi : Option AV) : Prop × AV :=
  match x with
  | .lit (.string s) => (P.underlying T = some .string ∧ (bnd 0 lo).1 ∧ (bnd s.size hi).1 ∧ 0 ≤ (bnd 0 lo).2 ∧ (bnd 0 lo).2 ≤ (bnd s.size hi).2 ∧ (bnd s.size hi).2 ≤ s.size,
      .lit (.string (s.extract (bnd 0 lo).2.toNat (bnd s.size hi).2.toNat)))
  | .slz k zs => (elt P T = some (none, 1) ∧ (bnd 0 lo).1 ∧ (bnd zs.length hi).1 ∧ 0 ≤ (bnd 0 lo).2 ∧ (bnd 0 lo).2 ≤ (bnd zs.length hi).2 ∧ (bnd zs.length hi).2 ≤ zs.length,
      .slz k ((zs.take (bnd zs.length hi).2.toNat).drop (bnd 0 lo).2.toNat))
  | .sl n cs => match elt P T with
    | some (none, sz) => (0 < sz ∧ n * sz = cs.length ∧ (bnd 0 lo).1 ∧ (bnd n hi).1 ∧ 0 ≤ (bnd 0 lo).2 ∧ (bnd 0 lo).2 ≤ (bnd n hi).2 ∧ (bnd n hi).2 ≤ n,
        .sl ((bnd n hi).2.toNat - (bnd 0 lo).2.toNat) ((cs.take ((bnd n hi).2.toNat * sz)).drop ((bnd 0 lo).2.toNat * sz)))
    | _ => (False, .any)
  | .lit (.slice (some ⟨b, off, none⟩) n cap) => match elt P T with
    | some (none, sz) => ((bnd 0 lo).1 ∧ (bnd n hi).1 ∧ 0 ≤ (bnd 0 lo).2 ∧ (bnd 0 lo).2 ≤ (bnd n hi).2 ∧ (bnd n hi).2 ≤ cap,
        ms b (shift1 cap (bnd 0 lo).2.toNat off sz) ((bnd n hi).2.toNat - (bnd 0 lo).2.toNat) (cap - (bnd 0 lo).2.toNat))
    | _ => (False, .any)
  | .lit (.slice none n cap) => match elt P T with
    | some (none, _) => ((bnd 0 lo).1 ∧ (bnd n hi).1 ∧ 0 ≤ (bnd 0 lo).2 ∧ (bnd 0 lo).2 ≤ (bnd n hi).2 ∧ (bnd n hi).2 ≤ cap,
        .lit (.slice none ((bnd n hi).2.toNat - (bnd 0 lo).2.toNat) (cap - (bnd 0 lo).2.toNat)))
    | _ => (False, .any)
  | .lit (.pointer (some ⟨b, off, none⟩)) => match elt P T with
    | some (some len, sz) => ((bnd 0 lo).1 ∧ (bnd len hi).1 ∧ 0 ≤ (bnd 0 lo).2 ∧ (bnd 0 lo).2 ≤ (bnd len hi).2 ∧ (bnd len hi).2 ≤ len,
        ms b (shift1 len (bnd 0 lo).2.toNat off sz) ((bnd len hi).2.toNat - (bnd 0 lo).2.toNat) (len - (bnd 0 lo).2.toNat))
    | _ => (False, .any)
  | _ => (False, .any)
section
variable {P : Program} {w : World} {T : TypeId} {I : Nat → Prop}
/-- A bound that is there, as a value. -/
def BV (w : World) (I : Nat → Prop) (v : Option Value) (x : Option AV) : Prop :=
  match v, x with
  | none, none => True
  | some v, some x => Rep w I v x
  | _, _ => False
theorem BV.cases {v : Option Value} {x : Option AV} {d : Int} (h : BV w I v x) (hb : (bnd d x).1) :
    (v = none ∧ (bnd d x).2 = d) ∨ ∃ k i, v = some (.int k i) ∧ (bnd d x).2 = i := by
  unfold BV at h
  split at h
  · exact .inl ⟨rfl, rfl⟩
  · rename_i v x
    cases x <;> simp only [bnd] at hb
    rename_i u
    have := h.lit_inv
    subst this
    cases v <;> simp only [bnd] at hb ⊢
    exact .inr ⟨_, _, rfl, rfl⟩
  · exact h.elim
theorem run_sliceBounds (isSlice : Bool) {len cap : Nat} {lo hi : Option Value} {x y : Option AV} (hlo : BV w I lo x) (hhi : BV w I hi y)
    (h1 : (bnd 0 x).1) (h2 : (bnd len y).1) (h3 : 0 ≤ (bnd 0 x).2) (h4 : (bnd 0 x).2 ≤ (bnd len y).2) (h5 : (bnd len y).2 ≤ cap) :
    (Instr.sliceBounds isSlice len cap lo hi none).run P w = .ok ((bnd 0 x).2.toNat, (bnd len y).2.toNat, cap) w := by
  rcases hlo.cases h1 with ⟨rfl, e1⟩ | ⟨k1, i1, rfl, e1⟩ <;> rcases hhi.cases h2 with ⟨rfl, e2⟩ | ⟨k2, i2, rfl, e2⟩ <;> rw [e1] at h3 h4 ⊢ <;> rw [e2] at h4 h5 ⊢
  · simp [Instr.sliceBounds]
  · have : 0 ≤ i2 := h4
    simp [Instr.sliceBounds, Instr.sliceBound, asIntOf, this, h5]
  · have h6 : i1 ≤ (len : Int) := h4
    simp [Instr.sliceBounds, Instr.sliceBound, asIntOf, h3, h6]
  · have h6 : 0 ≤ i2 := Int.le_trans h3 h4
    simp [Instr.sliceBounds, Instr.sliceBound, asIntOf, h3, h5, h6]
    intro h
    omega
theorem elt_slice {sz : Nat} (h : elt P T = some (none, sz)) : ∃ e, P.underlying T = some (.slice e) ∧ (sizeOf e).run P w = .ok sz w := by
  unfold elt at h
  split at h
  · rename_i e hd
    cases hi' : P.info? e with
    | none => rw [hi'] at h; cases h
    | some inf => rw [hi'] at h; cases h
  · rename_i e hd
    cases hi' : P.info? e with
    | none => rw [hi'] at h; cases h
    | some inf => rw [hi'] at h; cases h; exact ⟨_, hd, run_sizeOf_info hi'⟩
  · cases h
theorem elt_array {len sz : Nat} (h : elt P T = some (some len, sz)) : ∃ e, P.underlying T = some (.array len e) ∧ (sizeOf e).run P w = .ok sz w := by
  unfold elt at h
  split at h
  · rename_i e hd
    cases hi' : P.info? e with
    | none => rw [hi'] at h; cases h
    | some inf => rw [hi'] at h; cases h; exact ⟨_, hd, run_sizeOf_info hi'⟩
  · rename_i e hd
    cases hi' : P.info? e with
    | none => rw [hi'] at h; cases h
    | some inf => rw [hi'] at h; cases h
  · cases h
theorem cut_addr {cap l off sz b : Nat} : (if cap = l then (⟨b, off, none⟩ : Addr) else (⟨b, off, none⟩ : Addr).add (l * sz)) = ⟨b, shift1 cap l off sz, none⟩ := by
  unfold shift1
  split
  · rfl
  · rw [Addr.add_none]
theorem run_slice {v : Value} {x : AV} {vlo vhi : Option Value} {lo hi : Option AV} (hv : Rep w I v x) (hlo : BV w I vlo lo) (hhi : BV w I vhi hi) (h : (slicev P T x lo hi).1) :
    ∃ r, (Instr.sliceAt T v vlo vhi none).run P w = .ok r w ∧ Rep w I r (slicev P T x lo hi).2 := by
  unfold slicev at h ⊢
  split at h
  · rename_i s
    obtain ⟨hd, h1, h2, h3, h4, h5⟩ := h
    have := hv.lit_inv; subst this
    refine ⟨_, ?_, .lit _⟩
    simp [Instr.sliceAt, run_underlying hd, Instr.slice, run_sliceBounds (P := P) false hlo hhi h1 h2 h3 h4 h5]
  · rename_i k zs
    obtain ⟨he, h1, h2, h3, h4, h5⟩ := h
    obtain ⟨e, hd, hs⟩ := elt_slice (w := w) he
    cases hv with
    | slz a k zs cap hn hm hsp =>
      have hb := run_sliceBounds (P := P) (cap := cap) true hlo hhi h1 h2 h3 h4 (by omega)
      generalize (bnd 0 lo).2 = l at *
      generalize (bnd zs.length hi).2 = u at *
      refine ⟨.slice (if cap = l.toNat then a else a.map (·.add (l.toNat * 1))) (u.toNat - l.toNat) (cap - l.toNat), by simp [Instr.sliceAt, run_underlying hd, Instr.slice, hb, hs], ?_⟩
      have hlen : ((zs.take u.toNat).drop l.toNat).length = u.toNat - l.toNat := by simp; omega
      rw [← hlen]
      refine .slz _ _ _ _ (by rw [hlen]; omega) (by omega) ?_
      rw [hlen]
      by_cases hlu : u.toNat - l.toNat = 0
      · exact .inl hlu
      · rcases hsp with hsp | ⟨b, off, rfl, hb, hc⟩
        · omega
        · refine .inr ⟨b, off + l.toNat, by rw [if_neg (by omega)]; simp [Addr.add_none], hb, fun i hi' => ?_⟩
          have := hc (l.toNat + i) (by omega)
          rw [Nat.add_assoc, this]
          congr 2
          simp [List.getD, List.getElem?_drop, List.getElem?_take, show l.toNat + i < u.toNat by omega]
  · rename_i n cs
    split at h
    · rename_i sz he
      obtain ⟨hz, hl, h1, h2, h3, h4, h5⟩ := h
      obtain ⟨e, hd, hs⟩ := elt_slice (w := w) he
      cases hv with
      | sl a n cap cs g hn hm hsp r =>
        have hb := run_sliceBounds (P := P) (cap := cap) true hlo hhi h1 h2 h3 h4 (by omega)
        generalize (bnd 0 lo).2 = l at *
        generalize (bnd n hi).2 = u at *
        refine ⟨.slice (if cap = l.toNat then a else a.map (·.add (l.toNat * sz))) (u.toNat - l.toNat) (cap - l.toNat), by simp [Instr.sliceAt, run_underlying hd, Instr.slice, hb, hs], ?_⟩
        have hun : u.toNat * sz ≤ cs.length := by rw [← hl]; exact Nat.mul_le_mul_right _ (by omega)
        have hlen : ((cs.take (u.toNat * sz)).drop (l.toNat * sz)).length = u.toNat * sz - l.toNat * sz := by simp; omega
        refine .sl _ _ _ _ (fun i => g (l.toNat * sz + i)) (by omega) (by omega) ?_ ?_
        · rw [hlen]
          by_cases hlu : u.toNat - l.toNat = 0
          · exact .inl (by rw [← Nat.sub_mul, hlu, Nat.zero_mul])
          · have hlt : l.toNat * sz < u.toNat * sz := Nat.mul_lt_mul_of_pos_right (by omega) hz
            rcases hsp with hsp | ⟨b, off, rfl, hb, hc⟩
            · omega
            · refine .inr ⟨b, off + l.toNat * sz, by rw [if_neg (by omega)]; simp [Addr.add_none], hb, fun i hi' => ?_⟩
              have := hc (l.toNat * sz + i) (by omega)
              rw [Nat.add_assoc, this]
        · intro i hi'
          rw [hlen] at hi'
          simp only [List.getElem_drop, List.getElem_take]
          exact r _ (by omega)
    · exact h.elim
  · rename_i b off n cap
    split at h
    · rename_i sz he
      obtain ⟨h1, h2, h3, h4, h5⟩ := h
      obtain ⟨e, hd, hs⟩ := elt_slice (w := w) he
      have := hv.lit_inv; subst this
      have hb := run_sliceBounds (P := P) true hlo hhi h1 h2 h3 h4 h5
      refine ⟨_, ?_, .lit _⟩
      simp [Instr.sliceAt, run_underlying hd, Instr.slice, hb, hs]
      have hc := cut_addr (cap := cap) (l := (bnd 0 lo).2.toNat) (off := off) (sz := sz) (b := b)
      split <;> rename_i hcap
      · rw [if_pos hcap] at hc; rw [← hc]
      · rw [if_neg hcap] at hc; rw [← hc]
    · exact h.elim
  · rename_i n cap
    split at h
    · rename_i sz he
      obtain ⟨h1, h2, h3, h4, h5⟩ := h
      obtain ⟨e, hd, hs⟩ := elt_slice (w := w) he
      have := hv.lit_inv; subst this
      have hb := run_sliceBounds (P := P) true hlo hhi h1 h2 h3 h4 h5
      exact ⟨_, by simp [Instr.sliceAt, run_underlying hd, Instr.slice, hb, hs], .lit _⟩
    · exact h.elim
  · rename_i b off
    split at h
    · rename_i len sz he
      obtain ⟨h1, h2, h3, h4, h5⟩ := h
      obtain ⟨e, hd, hs⟩ := elt_array (w := w) he
      have := hv.lit_inv; subst this
      have hb := run_sliceBounds (P := P) false hlo hhi h1 h2 h3 h4 h5
      refine ⟨_, ?_, .lit _⟩
      simp [Instr.sliceAt, run_underlying hd, Instr.sureAddr, hb, hs]
      have hc := cut_addr (cap := len) (l := (bnd 0 lo).2.toNat) (off := off) (sz := sz) (b := b)
      split <;> rename_i hcap
      · rw [if_pos hcap] at hc; rw [← hc]
      · rw [if_neg hcap] at hc; rw [← hc]
    · exact h.elim
  · exact h.elim
end
end Go.Proofs.Ytbnkmhlnoaebcaa
namespace Go.Proofs.Ytbnkmhlnoaebcaa
open Go
set_option linter.unusedSimpArgs false
set_option linter.unusedVariables false
def lenv (P : Program) (T : TypeId) (x : AV) : Prop × AV :=
  match x with
  | .lit (.string s) => (P.underlying T = some .string, iv .i64 s.size)
  | .slz _ zs => (isSliceT P T, iv .i64 zs.length)
  | .sl n _ => (isSliceT P T, iv .i64 n)
  | .lit (.slice _ n _) => (isSliceT P T, iv .i64 n)
  | _ => match P.underlying T with
    | some (.array n _) => (True, iv .i64 n)
    | _ => (False, .any)
def extractv (ix : Nat) : AV → Prop × AV
  | .tup vs => (ix < vs.length, vs.getD ix .any)
  | _ => (False, .any)
/-- Where a field lies in a struct's cells, and whether it is one cell (none) or so many. -/
def fpart (P : Program) (T : TypeId) (f : Nat) : Option (Nat × Option Nat) :=
  match P.underlying T with
  | some (.struct fs) => match fs[f]? with
    | some fl => (tyc P fl.type).map fun c => (fl.offset, c)
    | none => none
  | _ => none
def fieldv (P : Program) (T : TypeId) (f : Nat) (x : AV) : Prop × AV :=
  match x with
  | .agg cs => match fpart P T f with
    | some (off, none) => (off < cs.length, cs.getD off .any)
    | some (off, some n) => (off + n ≤ cs.length, .agg ((cs.drop off).take n))
    | none => (False, .any)
  | _ => (False, .any)
/-- An array of elements of one cell each. -/
def arr1 (P : Program) (T : TypeId) : Option Nat :=
  match P.underlying T with
  | some (.array len e) => match tyc P e, P.info? e with
    | some none, some i => if i.size = 1 then some len else none
    | _, _ => none
  | _ => none
def indexv (P : Program) (T : TypeId) (x i : AV) : Prop × AV :=
  match i with
  | .lit (.int _ i) => match x with
    | .lit (.string s) => (P.underlying T = some .string ∧ 0 ≤ i ∧ i < s.size, iv .u8 ((s.data.toList.getD i.toNat 0).toNat : Int))
    | .agg cs => match arr1 P T with
      | some len => (0 ≤ i ∧ i < len ∧ i.toNat < cs.length, cs.getD i.toNat .any)
      | none => (False, .any)
    | _ => (False, .any)
  | _ => (False, .any)
def convv (P : Program) (H : Hp) (src dst : TypeId) (x : AV) : Option (Prop × AV) :=
  match P.underlying dst with
  | some (.int k) => match x with
    | .lit (.int _ n) => some ((P.underlying src).isSome = true, iv k (k.wrap n))
    | _ => some (False, .any)
  | some .string => match x with
    | .lit (.int _ n) => some ((P.underlying src).isSome = true, .lit (.string (Utf8.encode n)))
    | .lit (.string s) => some ((P.underlying src).isSome = true, .lit (.string s))
    | .slz .u8 zs => some (∃ e, P.underlying src = some (.slice e) ∧ P.underlying e = some (.int .u8), .lit (.string (bstr zs)))
    | .lit (.slice (some ⟨b, off, none⟩) n _) => match hget H b with
      | some (.zs .u8 zs _ _) => some ((∃ e, P.underlying src = some (.slice e) ∧ P.underlying e = some (.int .u8)) ∧ off + n ≤ zs.length, .lit (.string (bstr ((zs.drop off).take n))))
      | _ => some (False, .any)
    | .lit (.slice none _ _) => some (∃ e, P.underlying src = some (.slice e) ∧ P.underlying e = some (.int .u8), .lit (.string ⟨#[]⟩))
    | _ => some (False, .any)
  | _ => none
def nilv : AV → Prop × AV
  | .lit (.pointer (some a)) => (True, .lit (.pointer (some a)))
  | .ip cs => (True, .ip cs)
  | .ipz k zs => (True, .ipz k zs)
  | .ifc t x => (True, .ifc t x)
  | _ => (False, .any)
def min2v : AV → AV → Prop × AV
  | .lit (.int k x), .lit (.int _ y) => (True, iv k (if y < x then y else x))
  | _, _ => (False, .any)
def max2v : AV → AV → Prop × AV
  | .lit (.int k x), .lit (.int _ y) => (True, iv k (if x < y then y else x))
  | _, _ => (False, .any)
def mkiv (P : Program) (T : TypeId) (x : AV) : Prop × AV := (P.concrete T = true, .ifc T x)
/-! Built values -/
def cellsA : AV → Option (List AV)
  | .agg cs => some cs
  | .any => none
  | .gd _ _ => none
  | .tup _ => none
  | .lit (.agg _) => none
  | x => some [x]
def fillA (pl : List (Nat × Nat)) : List AV → List (Nat × AV) → Option (List AV)
  | cells, [] => some cells
  | cells, (i, v) :: rest => match pl[i]?, cellsA v with
    | some (off, size), some vc => if vc.length = size ∧ off + size ≤ cells.length then fillA pl (cells.take off ++ vc ++ cells.drop (off + size)) rest else none
    | _, _ => none
def bldT (P : Program) (T : TypeId) : Option (List Value × List (Nat × Nat)) :=
  match P.info? T, P.underlying T with
  | some it, some (.array n e) => match it.zero, P.info? e with
    | some z, some ie => some (z.cells.toList, (List.range n).map fun i => (i * ie.size, ie.size))
    | _, _ => none
  | some it, some (.struct fields) => match it.zero, fields.toList.mapM (fun f => (P.info? f.type).map fun i => (f.offset, i.size)) with
    | some z, some places => some (z.cells.toList, places)
    | _, _ => none
  | _, _ => none
def buildv (P : Program) (T : TypeId) (parts : List (Nat × AV)) : Prop × AV :=
  match bldT P T with
  | some (z, pl) => match fillA pl (z.map .lit) parts with
    | some cs => (True, .agg cs)
    | none => (False, .any)
  | none => (False, .any)
section
variable {P : Program} {w : World} {T : TypeId} {I : Nat → Prop}
theorem run_len {v : Value} {x : AV} (hv : Rep w I v x) (T' : TypeId) (h : (lenv P T x).1) : ∃ r, (Builtin.len_ #[T] T' #[v]).run P w = .ok r w ∧ Rep w I r (lenv P T x).2 := by
  unfold lenv at h ⊢
  split at h
  · have := hv.lit_inv; subst this
    exact ⟨_, by simp [Builtin.len_, run_underlying h, goInt], .lit _⟩
  · obtain ⟨e, h⟩ := h
    cases hv
    exact ⟨_, by simp [Builtin.len_, run_underlying h, goInt], .lit _⟩
  · obtain ⟨e, h⟩ := h
    cases hv
    · exact ⟨_, by simp [Builtin.len_, run_underlying h, goInt], .lit _⟩
  · obtain ⟨e, h⟩ := h
    have := hv.lit_inv; subst this
    exact ⟨_, by simp [Builtin.len_, run_underlying h, goInt], .lit _⟩
  · split at h
    · rename_i hd
      exact ⟨_, by simp [Builtin.len_, run_underlying hd, goInt], .lit _⟩
    · exact h.elim
theorem run_extract {v : Value} {x : AV} {ix : Nat} (hv : Rep w I v x) (h : (extractv ix x).1) : ∃ r, (Instr.extract v ix).run P w = .ok r w ∧ Rep w I r (extractv ix x).2 := by
  unfold extractv at h ⊢
  split at h
  · rename_i cs
    have h : ix < cs.length := h
    cases hv with
    | tup vs cs hs r =>
      have hlt : ix < vs.size := by omega
      refine ⟨vs[ix], by simp [Instr.extract, hlt], ?_⟩
      have := r ix h
      simpa [hlt, List.getD, h] using this
  · exact h.elim
theorem run_field {v : Value} {x : AV} {f : Nat} (hv : Rep w I v x) (h : (fieldv P T f x).1) : ∃ r, (Instr.field T v f).run P w = .ok r w ∧ Rep w I r (fieldv P T f x).2 := by
  unfold fieldv at h ⊢
  split at h
  · rename_i cs
    cases hv with
    | agg vs cs hs r =>
      cases hp : fpart P T f with
      | none => rw [hp] at h; exact h.elim
      | some p =>
        obtain ⟨off, c⟩ := p
        rw [hp] at h
        have hp' := hp
        unfold fpart at hp'
        split at hp'
        · rename_i fs hd
          split at hp'
          · rename_i fl hfl
            cases hc : tyc P fl.type with
            | none => rw [hc] at hp'; cases hp'
            | some c' =>
              rw [hc] at hp'
              cases hp'
              cases c with
              | none =>
                have h : fl.offset < cs.length := h
                have hlt : fl.offset < vs.size := by omega
                refine ⟨vs[fl.offset], by simp [Instr.field, run_underlying hd, hfl, asAgg, part, run_isAgg_one hc, hlt], ?_⟩
                have := r _ h
                simpa [hlt, List.getD, h] using this
              | some n =>
                have h : fl.offset + n ≤ cs.length := h
                refine ⟨.agg (vs.extract fl.offset (fl.offset + n)), by simp [Instr.field, run_underlying hd, hfl, asAgg, part, (run_isAgg_many hc).1, (run_isAgg_many hc).2], ?_⟩
                refine .agg _ _ (by simp; omega) fun i hi => ?_
                simp only [List.length_take, List.length_drop] at hi
                have := r (fl.offset + i) (by omega)
                have hlt : fl.offset + i < vs.size := by omega
                have h2 : i < min (fl.offset + n) vs.size - fl.offset := by omega
                simp only [List.getElem_take, List.getElem_drop]
                simpa [hlt, h2] using this
          · cases hp'
        · cases hp'
  · exact h.elim
theorem run_index {v u : Value} {x i : AV} (hv : Rep w I v x) (hi : Rep w I u i) (h : (indexv P T x i).1) : ∃ r, (Instr.index T v u).run P w = .ok r w ∧ Rep w I r (indexv P T x i).2 := by
  unfold indexv at h ⊢
  split at h
  · rename_i k i
    have := hi.lit_inv; subst this
    split at h
    · rename_i s
      obtain ⟨hd, h0, h1⟩ := h
      have := hv.lit_inv; subst this
      have hlt : i.toNat < s.size := by omega
      refine ⟨.int .u8 (s[i.toNat].toNat : Int), by simp [Instr.index, asIntOf, run_underlying hd, h0, ByteArray.getElem?_lt' s _ hlt], ?_⟩
      refine Rep.of_eq ?_
      have hlt' : i.toNat < s.data.size := hlt
      simp only [List.getD, Array.getElem?_toList, Array.getElem?_eq_getElem hlt', Option.getD_some]
      rfl
    · rename_i cs
      cases hp : arr1 P T with
      | none => rw [hp] at h; exact h.elim
      | some len =>
        rw [hp] at h
        obtain ⟨h0, h1, h2⟩ := h
        unfold arr1 at hp
        split at hp
        · rename_i len' e hd
          split at hp
          · rename_i inf hc hi'
            split at hp
            · rename_i hz
              cases hp
              cases hv with
              | agg vs cs hs r =>
                have hlt : i.toNat < vs.size := by omega
                refine ⟨vs[i.toNat], by simp [Instr.index, asIntOf, run_underlying hd, h0, h1, run_sizeOf_info hi', hz, part, run_isAgg_one hc, hlt], ?_⟩
                have := r _ h2
                simpa [hlt, List.getD, h2] using this
            · cases hp
          · cases hp
        · cases hp
    · exact h.elim
  · exact h.elim
theorem run_conv {cx : Cx} {H : Hp} (hw : OkW cx H w) {v : Value} {x : AV} {src dst : TypeId} {r : Prop × AV} (hv : Rep w (imm cx w H) v x) (hr : convv P H src dst x = some r) (h : r.1) :
    ∃ u, (convert src dst v).run P w = .ok u w ∧ Rep w (imm cx w H) u r.2 := by
  unfold convv at hr
  split at hr
  · rename_i k hd
    split at hr <;> cases hr
    · have := hv.lit_inv; subst this
      obtain ⟨ds, hs⟩ := Option.isSome_iff_exists.1 h
      exact ⟨_, by simp [convert, run_underlying hd, run_underlying hs, Conv.intToInt], .lit _⟩
    · exact h.elim
  · rename_i hd
    split at hr
    · cases hr
      have := hv.lit_inv; subst this
      obtain ⟨ds, hs⟩ := Option.isSome_iff_exists.1 h
      exact ⟨_, by simp [convert, run_underlying hd, run_underlying hs, Conv.intToString], .lit _⟩
    · cases hr
      have := hv.lit_inv; subst this
      obtain ⟨ds, hs⟩ := Option.isSome_iff_exists.1 h
      exact ⟨_, by simp [convert, run_underlying hd, run_underlying hs], .lit _⟩
    · rename_i zs
      cases hr
      obtain ⟨e, hs, he⟩ := h
      cases hv with
      | slz a k _ cap hn hm hsp =>
        rcases hsp with hsp | ⟨b, off, rfl, hb, hc⟩
        · have : zs = [] := List.eq_nil_of_length_eq_zero hsp
          subst this
          cases a with
          | none => exact ⟨_, run_convert_bytes_nil w src e hs he _ _ dst hd, Rep.of_eq rfl⟩
          | some ad =>
            have := run_convert_bytes_string w src dst e (some ad) 0 cap hs he hd
            refine ⟨.string ⟨#[]⟩, ?_, Rep.of_eq rfl⟩
            rw [List.length_nil, this, run_bytesToString w ad 0 cap [] (by simp [loadCells, loadCellsFrom])]
            rfl
        · exact ⟨_, run_convert_bytes_arg w src e hs he b off zs.length cap zs rfl (fun i hi => hc i hi) dst hd, Rep.of_eq rfl⟩
    · rename_i b off n cap
      split at hr
      · rename_i zs sz ty hg
        cases hr
        obtain ⟨⟨e, hs, he⟩, hlen⟩ := h
        have := hv.lit_inv; subst this
        obtain ⟨cur, h1, h2, h3, h4⟩ := hw.mem _ (hget_mem hg)
        have hl : ((zs.drop off).take n).length = n := by simp; omega
        refine ⟨_, run_convert_bytes_arg w src e hs he b off n cap ((zs.drop off).take n) hl (fun i hi => ?_) dst hd, Rep.of_eq rfl⟩
        rw [cell_of_block h1, h4 (off + i) (by omega)]
        simp [List.getD, List.getElem?_take, List.getElem?_drop, hi]
      · cases hr; exact h.elim
    · cases hr
      obtain ⟨e, hs, he⟩ := h
      have := hv.lit_inv; subst this
      exact ⟨_, run_convert_bytes_nil w src e hs he _ _ dst hd, Rep.of_eq rfl⟩
    · cases hr; exact h.elim
  · cases hr
theorem run_nil {v : Value} {x : AV} (hv : Rep w I v x) (h : (nilv x).1) :
    ∃ r, (match v with
      | .pointer none | .nilIface | .nilFunc => runtimePanic .nilDeref
      | .func (.method name) first captured =>
        match (first[0]? : Option Value) with
        | some .nilIface => runtimePanic .nilDeref
        | some (.iface t w) => do
          if (← nilAhead ((← program).types.size + Made.depth) t w name) != some false then
            unsupported (.noEntry "op/nilCheck.the method's receiver behind this interface value is a nil pointer, or cannot be seen to be none, and the arguments act or may panic (ledger 612)")
          pure (.value (.func (.method name) first captured))
        | _ => pure (.value (.func (.method name) first captured))
      | x => pure (.value x) : Sem Next).run P w = .ok (.value r) w ∧ Rep w I r (nilv x).2 := by
  unfold nilv at h ⊢
  split at h
  · have := hv.lit_inv; subst this
    exact ⟨_, rfl, .lit _⟩
  · have hv' := hv
    cases hv
    exact ⟨_, rfl, hv'⟩
  · have hv' := hv
    cases hv
    exact ⟨_, rfl, hv'⟩
  · have hv' := hv
    cases hv
    exact ⟨_, rfl, hv'⟩
  · exact h.elim
theorem run_min2 {u v : Value} {x y : AV} (T' : TypeId) (ts : Array TypeId) (hu : Rep w I u x) (hv : Rep w I v y) (h : (min2v x y).1) :
    ∃ r, (Builtin.min_ ts T' #[u, v]).run P w = .ok r w ∧ Rep w I r (min2v x y).2 := by
  unfold min2v at h ⊢
  split at h
  · have := hu.lit_inv; have := hv.lit_inv; subst_vars
    exact ⟨_, by simp [Builtin.min_, Builtin.min2], .lit _⟩
  · exact h.elim
theorem run_max2 {u v : Value} {x y : AV} (T' : TypeId) (ts : Array TypeId) (hu : Rep w I u x) (hv : Rep w I v y) (h : (max2v x y).1) :
    ∃ r, (Builtin.max_ ts T' #[u, v]).run P w = .ok r w ∧ Rep w I r (max2v x y).2 := by
  unfold max2v at h ⊢
  split at h
  · have := hu.lit_inv; have := hv.lit_inv; subst_vars
    exact ⟨_, by simp [Builtin.max_, Builtin.max2], .lit _⟩
  · exact h.elim
/-! Built values -/
def RepL (w : World) (I : Nat → Prop) (vs : Array Value) (cs : List AV) : Prop := vs.size = cs.length ∧ ∀ i (hi : i < cs.length), Rep w I (vs.getD i undef) cs[i]
theorem rep_cells {v : Value} {x : AV} {cs : List AV} (hv : Rep w I v x) (h : cellsA x = some cs) : RepL w I v.cells cs := by
  unfold cellsA at h
  split at h
  · cases h
    cases hv with
    | agg vs cs hs r => exact ⟨hs, r⟩
  · cases h
  · cases h
  · cases h
  · cases h
  · rename_i h1 h2 h3 h4 h5
    cases h
    have hone : v.cells = #[v] := by
      cases hv <;> try rfl
      case any => exact absurd rfl (h2 )
      case lit => cases v <;> first | rfl | exact absurd rfl (h5 _)
      case agg => exact absurd rfl (h1 _)
      case gdt => exact absurd rfl (h3 _ _)
    rw [hone]
    refine ⟨rfl, fun i hi => ?_⟩
    have : i = 0 := by simp at hi; omega
    subst this
    exact hv
theorem foldl_set (vc : List Value) (off : Nat) : ∀ (k : Nat) (cells : Array Value), off + k + vc.length ≤ cells.size →
    ((vc.zipIdx k).foldl (fun cs (p : Value × Nat) => cs.setIfInBounds (off + p.2) p.1) cells).size = cells.size ∧
    ∀ i, ((vc.zipIdx k).foldl (fun cs (p : Value × Nat) => cs.setIfInBounds (off + p.2) p.1) cells).getD i undef =
      if off + k ≤ i ∧ i < off + k + vc.length then vc.getD (i - (off + k)) undef else cells.getD i undef := by
  induction vc with
  | nil => intro k cells _; exact ⟨rfl, fun i => by simp; intro h1 h2; omega⟩
  | cons v vc ih =>
    intro k cells h
    simp only [List.length_cons] at h
    obtain ⟨h1, h2⟩ := ih (k + 1) (cells.setIfInBounds (off + k) v) (by simp; omega)
    simp only [List.zipIdx_cons, List.foldl_cons]
    refine ⟨by rw [h1]; simp, fun i => ?_⟩
    rw [h2 i]
    by_cases hi : i = off + k
    · subst hi
      rw [if_neg (by omega), if_pos (by simp only [List.length_cons]; omega)]
      have : off + k < cells.size := by omega
      simp [this]
    · by_cases hin : off + (k + 1) ≤ i ∧ i < off + (k + 1) + vc.length
      · rw [if_pos hin, if_pos (by simp only [List.length_cons]; omega)]
        rw [show i - (off + k) = (i - (off + (k + 1))) + 1 by omega]
        simp
      · rw [if_neg hin, if_neg (by simp only [List.length_cons]; omega)]
        simp [Array.getElem?_setIfInBounds_ne (Ne.symm hi)]
theorem rep_splice {cells vc : Array Value} {cs ds : List AV} {off : Nat} (hc : RepL w I cells cs) (hv : RepL w I vc ds) (hoff : off + ds.length ≤ cs.length) :
    RepL w I (vc.zipIdx.foldl (fun cs (p : Value × Nat) => cs.setIfInBounds (off + p.2) p.1) cells) (cs.take off ++ ds ++ cs.drop (off + ds.length)) := by
  have hz : vc.zipIdx.foldl (fun cs (p : Value × Nat) => cs.setIfInBounds (off + p.2) p.1) cells = (vc.toList.zipIdx 0).foldl (fun cs (p : Value × Nat) => cs.setIfInBounds (off + p.2) p.1) cells := by
    rw [← Array.foldl_toList, Array.toList_zipIdx]
  rw [hz]
  obtain ⟨hc1, hc2⟩ := hc
  obtain ⟨hv1, hv2⟩ := hv
  obtain ⟨h1, h2⟩ := foldl_set vc.toList off 0 cells (by simp; omega)
  refine ⟨by rw [h1]; simp; omega, fun i hi => ?_⟩
  rw [h2 i]
  simp only [Nat.add_zero, Array.length_toList]
  simp only [List.length_append, List.length_take, List.length_drop] at hi
  by_cases hin : off ≤ i ∧ i < off + vc.size
  · rw [if_pos hin]
    have e1 : (cs.take off ++ ds ++ cs.drop (off + ds.length))[i] = ds[i - off] := by
      rw [List.getElem_append_left (by simp; omega), List.getElem_append_right (by simp; omega)]
      simp [show min off cs.length = off by omega]
    rw [e1]
    have := hv2 (i - off) (by omega)
    simpa [List.getD] using this
  · rw [if_neg hin]
    by_cases hlt : i < off
    · have e1 : (cs.take off ++ ds ++ cs.drop (off + ds.length))[i] = cs[i] := by
        rw [List.getElem_append_left (by simp; omega), List.getElem_append_left (by simp; omega)]
        simp
      rw [e1]
      exact hc2 i (by omega)
    · have e1 : (cs.take off ++ ds ++ cs.drop (off + ds.length))[i] = cs[i]'(by omega) := by
        rw [List.getElem_append_right (by simp; omega)]
        simp only [List.getElem_drop, List.length_append, List.length_take]
        congr 1
        omega
      rw [e1]
      exact hc2 i (by omega)
theorem rep_fill {pl : List (Nat × Nat)} {place : Nat → Option (Nat × Nat)} (hpl : ∀ i p, pl[i]? = some p → place i = some p) :
    ∀ (vparts : List (Nat × Value)) (parts : List (Nat × AV)) (cells : Array Value) (cs out : List AV), vparts.map (·.1) = parts.map (·.1) →
      (∀ i, i < parts.length → Rep w I ((vparts.map (·.2)).getD i undef) ((parts.map (·.2)).getD i .any)) → RepL w I cells cs → fillA pl cs parts = some out →
      ∃ r, Instr.fill place cells vparts = some r ∧ RepL w I r out := by
  intro vparts
  induction vparts with
  | nil =>
    intro parts cells cs out hk _ hc h
    cases parts with
    | nil => simp only [fillA] at h; cases h; exact ⟨cells, rfl, hc⟩
    | cons p r => simp at hk
  | cons vp vr ih =>
    intro parts cells cs out hk hv hc h
    cases parts with
    | nil => simp at hk
    | cons p r =>
      obtain ⟨i, v⟩ := vp
      obtain ⟨i', x⟩ := p
      simp only [List.map_cons, List.cons.injEq] at hk
      obtain ⟨rfl, hk⟩ := hk
      simp only [fillA] at h
      split at h
      · rename_i off size vc hp hx
        split at h
        · rename_i hs
          obtain ⟨hs1, hs2⟩ := hs
          have hrep : Rep w I v x := by simpa using hv 0 (by simp)
          have hcells := rep_cells hrep hx
          have hsz : v.cells.size = size := by rw [hcells.1, hs1]
          have hle : ¬ off + v.cells.size > cells.size := by rw [hsz, hc.1]; omega
          have hsp := rep_splice hc hcells (off := off) (by omega)
          rw [hs1] at hsp
          obtain ⟨res, h1, h2⟩ := ih r _ _ out hk (fun j hj => by have := hv (j + 1) (by simp; omega); simpa using this) hsp h
          refine ⟨res, ?_, h2⟩
          simp only [Instr.fill, hpl i _ hp, hsz, ne_eq, not_true_eq_false, decide_false, Bool.false_or, decide_eq_true_eq]
          rw [if_neg (by rw [← hsz]; exact hle)]
          exact h1
        · cases h
      · cases h
theorem rep_zero (z : Array Value) : RepL w I z (z.toList.map .lit) := by
  refine ⟨by simp, fun i hi => ?_⟩
  simp at hi
  simp [hi]
  exact .lit _
theorem run_buildv {parts : List (Nat × AV)} {vparts : Array (Nat × Value)} (hk : vparts.toList.map (·.1) = parts.map (·.1))
    (hv : ∀ i, i < parts.length → Rep w I ((vparts.toList.map (·.2)).getD i undef) ((parts.map (·.2)).getD i .any)) (h : (buildv P T parts).1) :
    ∃ r, (Instr.build T vparts).run P w = .ok r w ∧ Rep w I r (buildv P T parts).2 := by
  unfold buildv at h ⊢
  split at h
  · rename_i z pl hb
    split at h
    · rename_i cs hf
      simp only [hf]
      have key : ∃ r, P.built T vparts.toList = some r ∧ RepL w I r cs := by
        unfold bldT at hb
        unfold Program.built
        split at hb
        · rename_i it n e hi hd
          split at hb
          · rename_i zv ie hz hie
            cases hb
            simp only [hi, hd, hz, hie]
            exact rep_fill (fun i p hp => by simp [List.getElem?_map] at hp; obtain ⟨a, ha, rfl⟩ := hp; have := List.getElem?_range (n := n) (i := i); by_cases hin : i < n <;> simp_all) vparts.toList parts zv.cells _ cs hk hv (rep_zero _) hf
          · cases hb
        · rename_i it fields hi hd
          split at hb
          · rename_i zv places hz hp
            cases hb
            simp only [hi, hd, hz, hp]
            exact rep_fill (fun i p hp => by simpa using hp) vparts.toList parts zv.cells _ cs hk hv (rep_zero _) hf
          · cases hb
        · cases hb
      obtain ⟨r, h1, h2⟩ := key
      exact ⟨_, run_build w T vparts r h1, .agg _ _ h2.1 h2.2⟩
    · exact h.elim
  · exact h.elim
end
end Go.Proofs.Ytbnkmhlnoaebcaa
namespace Go.Proofs.Ytbnkmhlnoaebcaa
open Go
set_option linter.unusedSimpArgs false
set_option linter.unusedVariables false
def ogs (env : List (Nat × AV)) : List Operand → Prop × List AV
  | [] => (True, [])
  | x :: r => ((og env x).1 ∧ (ogs env r).1, (og env x).2 :: (ogs env r).2)
def ogo (env : List (Nat × AV)) : Option Operand → Prop × Option AV
  | none => (True, none)
  | some x => ((og env x).1, some (og env x).2)
def ogp (env : List (Nat × AV)) : List (Nat × Operand) → Prop × List (Nat × AV)
  | [] => (True, [])
  | (i, x) :: r => ((og env x).1 ∧ (ogp env r).1, (i, (og env x).2) :: (ogp env r).2)
def slv (P : Program) (T : TypeId) (x : Prop × AV) (lo hi : Prop × Option AV) : Prop × AV :=
  (x.1 ∧ lo.1 ∧ hi.1 ∧ (slicev P T x.2 lo.2 hi.2).1, (slicev P T x.2 lo.2 hi.2).2)
def bltv (P : Program) (b : Builtin) (ts : List TypeId) (xs : Prop × List AV) : Option (Prop × AV) :=
  match b with
  | .len => match ts, xs.2 with
    | [T], [x] => some (xs.1 ∧ (lenv P T x).1, (lenv P T x).2)
    | _, _ => none
  | .min => match xs.2 with
    | [x, y] => some (xs.1 ∧ (min2v x y).1, (min2v x y).2)
    | _ => none
  | .max => match xs.2 with
    | [x, y] => some (xs.1 ∧ (max2v x y).1, (max2v x y).2)
    | _ => none
  | _ => none
def pev (P : Program) (H : Hp) (env : List (Nat × AV)) : Op → Option (Prop × AV)
  | .move x => some (og env x)
  | .assign x => some (og env x)
  | .pick c a b => some ((og env c).1 ∧ (picka (og env c).2 (opd env a) (opd env b)).1, (picka (og env c).2 (opd env a) (opd env b)).2)
  | .binOp op T x y _ => some (both (og env x) (og env y) (binv P T op))
  | .unOp op _ x => some (one (og env x) (unv op))
  | .convert src dst x => (convv P H src dst (og env x).2).map fun r => ((og env x).1 ∧ r.1, r.2)
  | .nilCheck x => some (one (og env x) nilv)
  | .fieldAddr T x f => some (one (og env x) (faddv P T f))
  | .field T x f => some (one (og env x) (fieldv P T f))
  | .indexAddr T x i => some (both (og env x) (og env i) (idxav P T))
  | .index T x i => some (both (og env x) (og env i) (indexv P T))
  | .load T a => some (one (og env a) (loadv P H T))
  | .slice T x lo hi none => some (slv P T (og env x) (ogo env lo) (ogo env hi))
  | .extract t ix => some (one (og env t) (extractv ix))
  | .makeInterface T x => some (one (og env x) (mkiv P T))
  | .build T parts => some ((ogp env parts.toList).1 ∧ (buildv P T (ogp env parts.toList).2).1, (buildv P T (ogp env parts.toList).2).2)
  | .call c => match c.callee with
    | .builtin b => bltv P b c.argTypes.toList (ogs env c.args.toList)
    | _ => none
  | _ => none
section
variable {P : Program} {cx : Cx} {n : Nat} {s : St} {o : Oper} {a : Act} {w : World}
theorem rep_strip {I : Nat → Prop} {v : Value} {x : AV} (h : Rep w I v x) (hs : (strip x).1) : Rep w I v (strip x).2 := by
  cases x <;> simp only [strip] at hs ⊢ <;> first | exact h | exact h.gd_true hs
theorem Ok.og (ok : Ok cx n s a w) {x : Operand} (h : (og s.env x).1) : Rep w (imm cx w s.H) (a.eval x) (og s.env x).2 := rep_strip (ok.opd x) h
theorem Ok.ogs (ok : Ok cx n s a w) : ∀ {l : List Operand}, (ogs s.env l).1 → ∀ i, i < l.length → Rep w (imm cx w s.H) ((l.map a.eval).getD i undef) ((Proofs.Ytbnkmhlnoaebcaa.ogs s.env l).2.getD i .any)
  | [], _, i, hi => by simp at hi
  | x :: r, h, 0, _ => by simpa [Proofs.Ytbnkmhlnoaebcaa.ogs] using ok.og h.1
  | x :: r, h, i + 1, hi => by
    have := Ok.ogs ok (l := r) h.2 i (by simpa using hi)
    simpa [Proofs.Ytbnkmhlnoaebcaa.ogs] using this
theorem ogs_length {env : List (Nat × AV)} : ∀ (l : List Operand), (ogs env l).2.length = l.length
  | [] => rfl
  | x :: r => by simp [ogs, ogs_length r]
theorem Ok.ogo (ok : Ok cx n s a w) {x : Option Operand} (h : (ogo s.env x).1) : BV w (imm cx w s.H) (x.map a.eval) (Proofs.Ytbnkmhlnoaebcaa.ogo s.env x).2 := by
  cases x with
  | none => trivial
  | some x => exact ok.og h
theorem ogp_keys {env : List (Nat × AV)} : ∀ (l : List (Nat × Operand)), (ogp env l).2.map (·.1) = l.map (·.1)
  | [] => rfl
  | (i, x) :: r => by simp [ogp, ogp_keys r]
theorem Ok.ogp (ok : Ok cx n s a w) : ∀ {l : List (Nat × Operand)}, (ogp s.env l).1 → ∀ i, i < (Proofs.Ytbnkmhlnoaebcaa.ogp s.env l).2.length →
    Rep w (imm cx w s.H) ((l.map fun p => a.eval p.2).getD i undef) (((Proofs.Ytbnkmhlnoaebcaa.ogp s.env l).2.map (·.2)).getD i .any)
  | [], _, i, hi => by simp [Proofs.Ytbnkmhlnoaebcaa.ogp] at hi
  | (j, x) :: r, h, 0, _ => by simpa [Proofs.Ytbnkmhlnoaebcaa.ogp] using ok.og h.1
  | (j, x) :: r, h, i + 1, hi => by
    have := Ok.ogp ok (l := r) h.2 i (by simpa [Proofs.Ytbnkmhlnoaebcaa.ogp] using hi)
    simpa [Proofs.Ytbnkmhlnoaebcaa.ogp] using this
theorem run_bltv {c : Call} {b : Builtin} {r : Prop × AV} (ok : Ok cx n s a w) (hb : c.callee = .builtin b) (hr : bltv P b c.argTypes.toList (ogs s.env c.args.toList) = some r) (h : r.1) (ho : o.op = .call c) :
    ∃ v, (execOp a.eval o).run P w = .ok (.value v) w ∧ Rep w (imm cx w s.H) v r.2 := by
  obtain ⟨callee, args, ts⟩ := c
  obtain ⟨args⟩ := args
  obtain ⟨ts⟩ := ts
  simp only at hb hr
  subst hb
  have hlen := ogs_length (env := s.env) args
  unfold bltv at hr
  split at hr
  · split at hr
    · rename_i T x h2
      cases hr
      rw [h2] at hlen
      match args, hlen with
      | [y], _ =>
        have hv := ok.ogs h.1 0 (by simp)
        rw [h2] at hv
        obtain ⟨u, hu, hr⟩ := run_len (P := P) hv o.type h.2
        refine ⟨u, ?_, hr⟩
        simp only [execOp, ho, resolve, invoke, builtin, List.map_toArray, List.map_cons, List.map_nil, Sem.run_bind, Sem.run_pure, Result.andThen_ok]
        simp at hu
        rw [hu]
        rfl
    · cases hr
  · split at hr
    · rename_i x y h2
      cases hr
      rw [h2] at hlen
      match args, hlen with
      | [y1, y2], _ =>
        have hv1 := ok.ogs h.1 0 (by simp)
        have hv2 := ok.ogs h.1 1 (by simp)
        rw [h2] at hv1 hv2
        obtain ⟨u, hu, hr⟩ := run_min2 (P := P) o.type ⟨ts⟩ hv1 hv2 h.2
        refine ⟨u, ?_, hr⟩
        simp only [execOp, ho, resolve, invoke, builtin, List.map_toArray, List.map_cons, List.map_nil, Sem.run_bind, Sem.run_pure, Result.andThen_ok]
        simp at hu
        rw [hu]
        rfl
    · cases hr
  · split at hr
    · rename_i x y h2
      cases hr
      rw [h2] at hlen
      match args, hlen with
      | [y1, y2], _ =>
        have hv1 := ok.ogs h.1 0 (by simp)
        have hv2 := ok.ogs h.1 1 (by simp)
        rw [h2] at hv1 hv2
        obtain ⟨u, hu, hr⟩ := run_max2 (P := P) o.type ⟨ts⟩ hv1 hv2 h.2
        refine ⟨u, ?_, hr⟩
        simp only [execOp, ho, resolve, invoke, builtin, List.map_toArray, List.map_cons, List.map_nil, Sem.run_bind, Sem.run_pure, Result.andThen_ok]
        simp at hu
        rw [hu]
        rfl
    · cases hr
  · cases hr
/-- What the function says is so. -/
theorem pev_sound {r : Prop × AV} (h : pev P s.H s.env o.op = some r) (hob : r.1) : PE P cx n o s r.2 := by
  intro a w ok
  obtain ⟨dst, op, type, pos, after, guard⟩ := o
  simp only at h
  unfold pev at h
  split at h
  · cases h; exact ⟨_, rfl, ok.og hob⟩
  · cases h; exact ⟨_, rfl, ok.og hob⟩
  · rename_i c x y
    cases h
    obtain ⟨t, ht, hr⟩ := rep_pick (ok.og hob.1) (ok.opd x) (ok.opd y) hob.2
    refine ⟨_, ?_, hr⟩
    simp only [execOp, Sem.run_bind, ht, asBool, Sem.run_pure, Result.andThen_ok]
  · rename_i bop T x y T'
    cases h
    obtain ⟨v, hv, hr⟩ := run_binv (P := P) (T := T) (x := x) (y := y) (ok.og hob.1) (ok.og hob.2.1) hob.2.2
    refine ⟨v, ?_, hr⟩
    simp only [execOp, Sem.run_bind] at hv ⊢
    rw [hv]
    rfl
  · cases h
    obtain ⟨v, hv, hr⟩ := run_unv (P := P) (ok.og hob.1) hob.2
    refine ⟨v, ?_, hr⟩
    simp only [execOp, Sem.run_bind, hv, Result.andThen_ok, Sem.run_pure]
  · rename_i src dst' x
    cases hc : convv P s.H src dst' (og s.env x).2 with
    | none => rw [hc] at h; cases h
    | some r' =>
      rw [hc] at h
      cases h
      obtain ⟨v, hv, hr⟩ := run_conv (P := P) ok.world (ok.og hob.1) hc hob.2
      refine ⟨v, ?_, hr⟩
      simp only [execOp, Sem.run_bind, hv, Result.andThen_ok, Sem.run_pure]
  · cases h
    obtain ⟨v, hv, hr⟩ := run_nil (P := P) (ok.og hob.1) hob.2
    refine ⟨v, ?_, hr⟩
    simp only [execOp]
    exact hv
  · cases h
    obtain ⟨v, hv, hr⟩ := run_fadd (P := P) (ok.og hob.1) hob.2
    refine ⟨v, ?_, hr⟩
    simp only [execOp, Sem.run_bind, hv, Result.andThen_ok, Sem.run_pure]
  · cases h
    obtain ⟨v, hv, hr⟩ := run_field (P := P) (ok.og hob.1) hob.2
    refine ⟨v, ?_, hr⟩
    simp only [execOp, Sem.run_bind, hv, Result.andThen_ok, Sem.run_pure]
  · cases h
    obtain ⟨v, hv, hr⟩ := run_idx (P := P) (ok.og hob.1) (ok.og hob.2.1) hob.2.2
    refine ⟨v, ?_, hr⟩
    simp only [execOp, Sem.run_bind, hv, Result.andThen_ok, Sem.run_pure]
  · cases h
    obtain ⟨v, hv, hr⟩ := run_index (P := P) (ok.og hob.1) (ok.og hob.2.1) hob.2.2
    refine ⟨v, ?_, hr⟩
    simp only [execOp, Sem.run_bind, hv, Result.andThen_ok, Sem.run_pure]
  · cases h
    obtain ⟨v, hv, hr⟩ := run_load_of (P := P) ok.world (ok.og hob.1) hob.2
    refine ⟨v, ?_, hr⟩
    simp only [execOp, Sem.run_bind, hv, Result.andThen_ok, Sem.run_pure]
  · rename_i T x lo hi
    cases h
    obtain ⟨v, hv, hr⟩ := run_slice (P := P) (ok.og hob.1) (ok.ogo hob.2.1) (ok.ogo hob.2.2.1) hob.2.2.2
    refine ⟨v, ?_, hr⟩
    simp only [execOp, Sem.run_bind, Option.map_none, hv, Result.andThen_ok, Sem.run_pure]
  · cases h
    obtain ⟨v, hv, hr⟩ := run_extract (P := P) (ok.og hob.1) hob.2
    refine ⟨v, ?_, hr⟩
    simp only [execOp, Sem.run_bind, hv, Result.andThen_ok, Sem.run_pure]
  · cases h
    have := ok.og hob.1
    refine ⟨.iface _ _, ?_, .ifc _ _ _ this⟩
    simp only [execOp, Sem.run_bind, run_makeInterface w _ _ hob.2, Result.andThen_ok, Sem.run_pure]
  · rename_i T parts
    cases h
    have hl : ((parts.map fun (p : Nat × Operand) => (p.1, a.eval p.2)).toList.map (·.2)) = parts.toList.map fun p => a.eval p.2 := by simp
    obtain ⟨v, hv, hr⟩ := run_buildv (P := P) (T := T) (vparts := parts.map fun (p : Nat × Operand) => (p.1, a.eval p.2)) (parts := (ogp s.env parts.toList).2) (by rw [ogp_keys]; simp)
      (fun i hi => by rw [hl]; exact ok.ogp hob.1 i hi) hob.2
    refine ⟨v, ?_, hr⟩
    simp only [execOp, Sem.run_bind]
    rw [hv]
    rfl
  · rename_i c
    split at h
    · rename_i b hb
      exact run_bltv ok hb h hob rfl
    · cases h
  · cases h
end
/-! ## Memory changes -/
section
variable {P : Program} {cx : Cx} {w : World} {H : Hp}
theorem keys_lt (h : OkW cx H w) : ∀ x ∈ H, x.1 < w.heap.size := fun x hx => (h.mem x hx).lt
/-- A new block. -/
theorem OkW.push (h : OkW cx H w) {w' : World} {ob : Obj} {m : MB} (hh : w'.heap = w.heap.push ob) (ho : w'.os = w.os) (ht : w'.tape = w.tape) (hp : w'.output = w.output)
    (hm : MOk w' (imm cx w' ((w.heap.size, m) :: H)) w.heap.size m) : OkW cx ((w.heap.size, m) :: H) w' ∧
      ∀ b, imm cx w H b → imm cx w' ((w.heap.size, m) :: H) b ∧ w'.heap[b]? = w.heap[b]? := by
  have hsz : w'.heap.size = w.heap.size + 1 := by rw [hh]; simp
  have hold : ∀ b, b < w.heap.size → w'.heap[b]? = w.heap[b]? := fun b hb => by rw [hh, Array.getElem?_push, if_neg (by omega)]
  have hI : ∀ b, imm cx w H b → imm cx w' ((w.heap.size, m) :: H) b ∧ w'.heap[b]? = w.heap[b]? := by
    intro b hb
    have hlt := imm_lt h.ext.size hb
    refine ⟨?_, hold b hlt⟩
    rcases hb with hb | ⟨h1, h2, h3⟩
    · exact .inl hb
    · refine .inr ⟨h1, by omega, fun x hx => ?_⟩
      rcases List.mem_cons.1 hx with rfl | hx
      · simp only; omega
      · exact h3 x hx
  refine ⟨⟨?_, ?_, ?_, ?_⟩, hI⟩
  · rw [List.map_cons, List.nodup_cons]
    refine ⟨fun hmem => ?_, h.nodup⟩
    obtain ⟨x, hx, he⟩ := List.mem_map.1 hmem
    have := keys_lt h x hx
    omega
  · intro x hx
    rcases List.mem_cons.1 hx with rfl | hx
    · exact .inr h.ext.size
    · exact h.keys x hx
  · intro x hx
    rcases List.mem_cons.1 hx with rfl | hx
    · exact hm
    · exact (h.mem x hx).mono hI (hold _ (keys_lt h x hx))
  · exact ⟨ho.trans h.ext.os, ht.trans h.ext.tape, hp.trans h.ext.output, by have := h.ext.size; omega, fun b hb hk => (hold b (by have := h.ext.size; omega)).trans (h.ext.blk b hb hk)⟩
def hset : Hp → Nat → MB → Hp
  | [], _, _ => []
  | (b', m') :: r, b, m => if b = b' then (b', m) :: r else (b', m') :: hset r b m
theorem hset_keys (b : Nat) (m : MB) : ∀ H : Hp, (hset H b m).map (·.1) = H.map (·.1)
  | [] => rfl
  | (b', m') :: r => by
    simp only [hset]
    split
    · rfl
    · simp [hset_keys b m r]
theorem hset_mem {b : Nat} {m : MB} : ∀ {H : Hp}, (H.map (·.1)).Nodup → ∀ x ∈ hset H b m, (x = (b, m)) ∨ (x ∈ H ∧ x.1 ≠ b)
  | [], _, x, hx => by cases hx
  | (b', m') :: r, hn, x, hx => by
    simp only [List.map_cons, List.nodup_cons] at hn
    simp only [hset] at hx
    split at hx
    · rename_i he
      subst he
      rcases List.mem_cons.1 hx with rfl | hx
      · exact .inl rfl
      · exact .inr ⟨List.mem_cons_of_mem _ hx, fun he => hn.1 (List.mem_map.2 ⟨x, hx, he⟩)⟩
    · rename_i he
      rcases List.mem_cons.1 hx with rfl | hx
      · exact .inr ⟨List.mem_cons_self .., fun h => he h.symm⟩
      · rcases hset_mem hn.2 x hx with h | h
        · exact .inl h
        · exact .inr ⟨List.mem_cons_of_mem _ h.1, h.2⟩
theorem imm_keys {w w' : World} {H H' : Hp} (hk : H'.map (·.1) = H.map (·.1)) (hs : w.heap.size = w'.heap.size) {b : Nat} (h : imm cx w H b) : imm cx w' H' b := by
  rcases h with h | ⟨h1, h2, h3⟩
  · exact .inl h
  · refine .inr ⟨h1, by omega, fun x hx => ?_⟩
    have : x.1 ∈ H.map (·.1) := by rw [← hk]; exact List.mem_map_of_mem hx
    obtain ⟨y, hy, he⟩ := List.mem_map.1 this
    rw [← he]
    exact h3 y hy
/-- One of our own blocks is written. -/
theorem OkW.write (h : OkW cx H w) {w' : World} {b : Nat} {m m' : MB} (hb : (b, m) ∈ H) (hsz : w'.heap.size = w.heap.size) (ho : w'.os = w.os) (ht : w'.tape = w.tape) (hp : w'.output = w.output)
    (hold : ∀ k, k ≠ b → w'.heap[k]? = w.heap[k]?) (hm : MOk w' (imm cx w' (hset H b m')) b m') : OkW cx (hset H b m') w' ∧
      ∀ k, imm cx w H k → imm cx w' (hset H b m') k ∧ w'.heap[k]? = w.heap[k]? := by
  have hI : ∀ k, imm cx w H k → imm cx w' (hset H b m') k ∧ w'.heap[k]? = w.heap[k]? := by
    intro k hk
    refine ⟨imm_keys (hset_keys _ _ _) hsz.symm hk, hold k fun he => ?_⟩
    exact imm_key h.keys hk (b, m) hb he.symm
  refine ⟨⟨by rw [hset_keys]; exact h.nodup, fun x hx => ?_, fun x hx => ?_, ?_⟩, hI⟩
  · rcases hset_mem h.nodup x hx with rfl | hx
    · exact h.keys (b, m) hb
    · exact h.keys x hx.1
  · rcases hset_mem h.nodup x hx with rfl | hx
    · exact hm
    · exact (h.mem x hx.1).mono hI (hold _ hx.2)
  · refine ⟨ho.trans h.ext.os, ht.trans h.ext.tape, hp.trans h.ext.output, by have := h.ext.size; omega, fun k hk hK => ?_⟩
    rw [hold k fun he => ?_]
    · exact h.ext.blk k hk hK
    · subst he
      rcases h.keys (k, m) hb with h1 | h1
      · exact hK h1
      · simp only at h1; omega
end
end Go.Proofs.Ytbnkmhlnoaebcaa
