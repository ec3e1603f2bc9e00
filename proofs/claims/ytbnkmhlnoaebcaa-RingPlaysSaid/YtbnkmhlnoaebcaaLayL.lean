/-
  The rule for a region that draws its order; the way into a function and out of it; from a contract to a law.
-/
import Derived.Test.YtbnkmhlnoaebcaaLayK
namespace Go.Proofs.Ytbnkmhlnoaebcaa
open Go
set_option linter.unusedSimpArgs false
set_option linter.unusedVariables false

section
variable {P : Program} {cx : Cx} {n : Nat} {ops : Array Oper}

theorem tail_any {k0 : Nat} (hD : DrawOk ops k0) {R : Exit → Act → World → Prop} : ∀ (l : List Oper) (k : Nat) (listed : Array Bool) (a : Act) (w : World), k0 ≤ k → (∀ j, l[j]? = ops[k + j]?) → k + l.length = ops.size →
    listed.size = ops.size → (∀ j, j < ops.size → listed.getD j false = decide (j < k)) → wpList P ops R l a w → wpAny P .any ops R l.length listed a w
  | [], k, listed, a, w, hk, hl, hsz, hls, hlist, h => by
    refine ⟨?_, h⟩
    refine List.eq_nil_iff_forall_not_mem.2 fun j hj => ?_
    obtain ⟨h1, o, ho, _⟩ := mem_ready.1 hj
    have hjlt : j < ops.size := (Array.getElem?_eq_some_iff.1 ho).1
    have := hlist j hjlt
    rw [getD_bool (by omega), this] at h1
    simp at h1
    simp at hsz
    omega
  | o :: l, k, listed, a, w, hk, hl, hsz, hls, hlist, h => by
    have h0 : ops[k]? = some o := by simpa using (hl 0).symm
    have hklt : k < ops.size := (Array.getElem?_eq_some_iff.1 h0).1
    have hready : k ∈ Region.ready .any ops listed := by
      refine mem_ready.2 ⟨?_, o, h0, fun e he hb => ?_⟩
      · rw [getD_bool (by omega), hlist k hklt]; simp
      · have := hD.back k o h0 e he hb
        rw [hlist _ (by omega)]; simp; exact this
    refine ⟨fun h1 => (by rw [h1] at hready; cases hready), fun i hi => ?_⟩
    have hik : i = k := by
      obtain ⟨h1, oi, hoi, _⟩ := mem_ready.1 hi
      have hilt : i < ops.size := (Array.getElem?_eq_some_iff.1 hoi).1
      rw [getD_bool (by omega), hlist i hilt] at h1
      simp at h1
      by_cases h2 : i = k
      · exact h2
      · have hcl : Closed ops listed := fun j oj hj hl c hw => by
          obtain ⟨e, he, hb, rfl⟩ := waits_spec hw
          have h3 := hD.back j oj hj e he hb
          have h4 : j < ops.size := (Array.getElem?_eq_some_iff.1 hj).1
          rw [hlist j h4] at hl
          simp at hl
          rw [hlist _ (by omega)]
          simp; omega
        have := hD.tail i oi hoi (by omega) k (by omega) listed hcl hi
        rw [hlist k hklt] at this
        simp at this
    subst hik
    have hw : wpOp P ops R i (wpList P ops R l) a w := by unfold wpOp; simp only [h0]; exact h
    refine wpOp_mono (fun a' w' h' => tail_any hD l (i + 1) _ a' w' (by omega) (fun j => by have := hl (j + 1); simpa [Nat.add_assoc, Nat.add_comm 1 j] using this) (by simp at hsz; omega) (by simp [hls]) (fun j hj => ?_) h') hw
    by_cases hji : j = i
    · subst hji
      have : j < listed.size := by omega
      simp [this]
    · rw [getD_set_ne false (Ne.symm hji), hlist j hj, Bool.eq_iff_iff]
      simp
      omega

theorem least {p : Nat → Bool} : ∀ {m : Nat}, p m = false → ∃ i, i ≤ m ∧ p i = false ∧ ∀ j, j < i → p j = true := by
  intro m
  induction m using Nat.strongRecOn with
  | _ m ih =>
    intro hm
    by_cases h : ∃ j, j < m ∧ p j = false
    · obtain ⟨j, hj, hpj⟩ := h
      obtain ⟨i, h1, h2, h3⟩ := ih j hj hpj
      exact ⟨i, by omega, h2, h3⟩
    · refine ⟨m, Nat.le_refl _, hm, fun j hj => ?_⟩
      cases hp : p j with
      | true => rfl
      | false => exact absurd ⟨j, hj, hp⟩ h

theorem head_any {lx : List (Oper × AV)} {env : List (Nat × AV)} {H : Hp} {R : Exit → Act → World → Prop} (hD : DrawOk ops lx.length) (hlx : ∀ (j : Nat) o x, lx[j]? = some (o, x) → ops[j]? = some o) (hS : Seqv P cx n ops H lx env) {g : Nat}
    (hfin : ∀ listed a w, DInv cx n ops lx env H listed a w → (∀ j, j < lx.length → listed.getD j false = true) → wpAny P .any ops R g listed a w) :
    ∀ (u : Nat) (listed : Array Bool) (a : Act) (w : World), ((List.range lx.length).filter fun i => !listed.getD i false).length = u → DInv cx n ops lx env H listed a w → wpAny P .any ops R (u + g) listed a w
  | 0, listed, a, w, hu, inv => by
    rw [Nat.zero_add]
    refine hfin listed a w inv fun j hj => ?_
    have := List.eq_nil_of_length_eq_zero hu
    rw [List.filter_eq_nil_iff] at this
    simpa using this j (List.mem_range.2 hj)
  | u + 1, listed, a, w, hu, inv => by
    rw [show u + 1 + g = (u + g) + 1 by omega]
    obtain ⟨m, hm1, hm2⟩ : ∃ m, m < lx.length ∧ listed.getD m false = false := by
      cases hf : ((List.range lx.length).filter fun i => !listed.getD i false) with
      | nil => rw [hf] at hu; cases hu
      | cons m r =>
        have : m ∈ (List.range lx.length).filter fun i => !listed.getD i false := by rw [hf]; exact List.mem_cons_self ..
        rw [List.mem_filter] at this
        exact ⟨m, List.mem_range.1 this.1, by simpa using this.2⟩
    obtain ⟨i0, h1, h2, h3⟩ := least (p := fun i => listed.getD i false) hm2
    have hi0 : i0 < ops.size := by have := hD.le; omega
    have hready0 : i0 ∈ Region.ready .any ops listed := by
      refine mem_ready.2 ⟨by rw [getD_bool (by rw [inv.lsize]; exact hi0)]; exact h2, ops[i0], Array.getElem?_eq_getElem hi0, fun e he hb => h3 _ (hD.back i0 _ (Array.getElem?_eq_getElem hi0) e he hb)⟩
    refine ⟨fun h => (by rw [h] at hready0; cases hready0), fun i hi => ?_⟩
    obtain ⟨hun, oi, hoi, _⟩ := mem_ready.1 hi
    have hilt : i < ops.size := (Array.getElem?_eq_some_iff.1 hoi).1
    have hik : i < lx.length := by
      rcases Nat.lt_or_ge i lx.length with h | h
      · exact h
      · have := hD.tail i oi hoi h m (by omega) listed inv.closed hi
        rw [hm2] at this
        cases this
    have hun' : listed.getD i false = false := by rw [← getD_bool (by rw [inv.lsize]; exact hilt)]; exact hun
    refine dinv_step hD hlx hS inv hi hik fun a' w' inv' => head_any hD hlx hS hfin u _ a' w' ?_ inv'
    have hcount : ∀ (l : List Nat), l.Nodup → i ∈ l → (l.filter fun j => !listed.getD j false).length = ((l.filter fun j => !(listed.setIfInBounds i true).getD j false).length) + 1 := by
      intro l
      induction l with
      | nil => intro _ h; cases h
      | cons c r ih =>
        intro hn hmem
        simp only [List.nodup_cons] at hn
        by_cases hci : c = i
        · subst hci
          have hset : (listed.setIfInBounds c true).getD c false = true := by
            have : c < listed.size := by rw [inv.lsize]; exact hilt
            simp [this]
          have hrest : (r.filter fun j => !listed.getD j false) = r.filter fun j => !(listed.setIfInBounds c true).getD j false := by
            refine List.filter_congr fun j hj => ?_
            have : j ≠ c := fun h => hn.1 (h ▸ hj)
            rw [getD_set_ne false (Ne.symm this)]
          rw [List.filter_cons, List.filter_cons, hun', hset, hrest]
          simp
        · have hmem' : i ∈ r := by rcases List.mem_cons.1 hmem with h | h; exact absurd h.symm hci; exact h
          have := ih hn.2 hmem'
          rw [List.filter_cons, List.filter_cons, getD_set_ne false (Ne.symm hci)]
          split
          · simp only [List.length_cons]; omega
          · exact this
    have := hcount (List.range lx.length) List.nodup_range (List.mem_range.2 hik)
    omega

theorem getD_rep_false (m j : Nat) : (Array.replicate m false).getD j false = false := by
  rcases Nat.lt_or_ge j m with h | h
  · simp [h]
  · simp [h]

/-- A region that draws: its first k operations only compute; the others come behind. -/
theorem WP.draw {id k : Nat} {l : List Oper} {Q : Exit → St → Prop} {s : St} (hm : P.follows .mixedOrders = true) (hB : drawB l.toArray k = true)
    (h : dvc P n l.toArray (l.take k) (fun s' => RP P cx n l.toArray (l.drop k) (Q .normal) s') s) : WP P cx n (.region id l.toArray true) Q s := by
  intro a w ok
  have hD := drawB_spec hB
  have hkl : k ≤ l.length := by simpa using hD.le
  obtain ⟨xs, hx1, hx2, hx3⟩ := dvc_seqv (cx := cx) _ _ h
  have htl : (l.take k).length = k := by simp; omega
  have hzl : ((l.take k).zip xs).length = k := by simp [hx1]; omega
  have hlx : ∀ (j : Nat) o x, ((l.take k).zip xs)[j]? = some (o, x) → l.toArray[j]? = some o := by
    intro j o x hj
    rw [List.getElem?_zip_eq_some] at hj
    have := hj.1
    rw [List.getElem?_take] at this
    split at this
    · simpa using this
    · cases this
  rw [← hzl] at hD
  refine wp_region_any hm ?_
  have ok' : Ok cx n s a { w with drawn := w.drawn + 1 } := by
    have hIw : ∀ b, imm cx w s.H b → imm cx { w with drawn := w.drawn + 1 } s.H b ∧ ({ w with drawn := w.drawn + 1 } : World).heap[b]? = w.heap[b]? := fun b hb => ⟨hb, rfl⟩
    refine ⟨ok.defers, ok.size, fun i => (ok.reps i).mono hIw, ⟨ok.world.nodup, ok.world.keys, fun x hx => (ok.world.mem x hx).mono hIw rfl, ⟨ok.world.ext.os, ok.world.ext.tape, ok.world.ext.output, ok.world.ext.size, ok.world.ext.blk⟩⟩⟩
  have henv0 : envL (fun j => (Array.replicate l.toArray.size false).getD j false) ((l.take k).zip xs) 0 s.env = s.env := by
    have hf : (fun j => (Array.replicate l.toArray.size false).getD j false) = fun _ => false := by
      funext j
      exact getD_rep_false _ _
    rw [hf]
    have hno : ∀ (l : List (Oper × AV)) (k : Nat) (env : List (Nat × AV)), envL (fun _ => false) l k env = env := by
      intro l
      induction l with
      | nil => intro k env; rfl
      | cons p r ih => intro k env; obtain ⟨o, x⟩ := p; simp only [envL]; exact ih _ _
    exact hno _ _ _
  have inv0 : DInv cx n l.toArray ((l.take k).zip xs) s.env s.H (Array.replicate l.toArray.size false) a { w with drawn := w.drawn + 1 } := by
    refine ⟨by simp, fun j oj _ hl => ?_, fun t _ ht => ?_, ?_⟩
    · rw [getD_rep_false] at hl; cases hl
    · have : t < l.length := by simpa using ht
      simp [this]
    · rw [henv0]; exact ok'
  have hfin : ∀ listed a w, DInv cx n l.toArray ((l.take k).zip xs) s.env s.H listed a w → (∀ j, j < ((l.take k).zip xs).length → listed.getD j false = true) →
      wpAny P .any l.toArray (fun e a' w' => ∃ s', Q e s' ∧ Ok cx n s' a' w') (l.drop k).length listed a w := by
    intro listed a w inv hall
    have henv : ∀ t, look (envL (fun j => listed.getD j false) ((l.take k).zip xs) 0 s.env) t = look (envL (fun _ => true) ((l.take k).zip xs) 0 s.env) t := by
      intro t
      refine envL_congr _ 0 _ _ rfl fun j o x hj _ => ?_
      rw [Nat.zero_add]
      exact hall j (List.getElem?_eq_some_iff.1 hj).1
    have hok : Ok cx n ⟨envL (fun _ => true) ((l.take k).zip xs) 0 s.env, s.H⟩ a w :=
      ⟨inv.ok.defers, inv.ok.size, fun t => by have := inv.ok.reps t; rw [henv t] at this; exact this, inv.ok.world⟩
    have hwl := hx3 (fun e a' w' => ∃ s', Q e s' ∧ Ok cx n s' a' w') (fun s' a' w' hk ok' => ⟨s', hk, ok'⟩) a w hok
    refine tail_any (k0 := k) (by rw [hzl] at hD; exact hD) (l.drop k) k listed a w (Nat.le_refl _) (fun j => by simp [List.getElem?_drop]) (by simp; omega) inv.lsize (fun j hj => ?_) hwl
    by_cases hjk : j < k
    · rw [hall j (by rw [hzl]; exact hjk)]; simp [hjk]
    · have := inv.tail j (by rw [hzl]; omega) hj
      rw [getD_bool (by rw [inv.lsize]; exact hj)] at this
      rw [this]; simp; omega
  have hcount : ((List.range ((l.take k).zip xs).length).filter fun i => !(Array.replicate l.toArray.size false).getD i false).length = k := by
    rw [hzl]
    have : ((List.range k).filter fun i => !(Array.replicate l.toArray.size false).getD i false) = List.range k := by
      rw [List.filter_eq_self]
      intro j _
      rw [getD_rep_false]
      rfl
    rw [this]; simp
  have := head_any hD hlx hx2 hfin k _ a _ hcount inv0
  have hN : k + (l.drop k).length = l.toArray.size := by simp; omega
  rw [hN] at this
  exact this

/-- Operations that may stand in a region's pure head. -/
def pureH : Op → Bool
  | .store .. => false
  | .alloc .. => false
  | .box .. => false
  | .buildSlice .. => false
  | .call c => match c.callee with
    | .builtin .append => false
    | _ => true
  | _ => true
def headN : List Oper → Nat
  | [] => 0
  | o :: r => if pureH o.op then headN r + 1 else 0

theorem dvc_mono : ∀ (ops : Array Oper) (l : List Oper) (K K' : St → Prop) (s : St), (∀ s, K s → K' s) → dvc P n ops l K s → dvc P n ops l K' s := by
  intro ops l
  induction l with
  | nil => intro K K' s hk h; exact hk s h
  | cons o r ih =>
    intro K K' s hk h
    obtain ⟨hd, h⟩ := h
    refine ⟨hd, ?_⟩
    split at h
    · split at h
      · exact ⟨h.1, ih _ _ _ hk h.2⟩
      · split at h
        · obtain ⟨h0, x, h1, h2⟩ := h; exact ⟨h0, x, h1, ih _ _ _ hk h2⟩
        · exact h
    · split at h
      · split at h
        · exact ⟨h.1, ih _ _ _ hk h.2⟩
        · split at h
          · obtain ⟨h0, x, h1, h2⟩ := h; exact ⟨h0, x, h1, ih _ _ _ hk h2⟩
          · exact h
      · exact h

/-- A region that draws: a head that only computes, in any order, and a tail in the text's order. -/
theorem WP.drawK {id k : Nat} {l : List Oper} {Q : Exit → St → Prop} {s : St} (hk : headN l = k) (hm : P.follows .mixedOrders = true) (hB : drawB l.toArray k = true)
    (h : dvc P n l.toArray (l.take k) (rvc P n l.toArray (l.drop k) (Q .normal)) s) : WP P cx n (.region id l.toArray true) Q s :=
  WP.draw hm hB (dvc_mono _ _ _ _ _ (fun s hs => rvc_sound _ s hs) h)

/-! ## The way in and out -/

def resv (P : Program) (H : Hp) (env : List (Nat × AV)) : List ResultVar → Prop × List AV
  | [] => (True, [])
  | .tmp t :: r => ((resv P H env r).1, look env t :: (resv P H env r).2)
  | .cell t T :: r => ((loadv P H T (look env t)).1 ∧ (resv P H env r).1, (loadv P H T (look env t)).2 :: (resv P H env r).2)

def resA : List AV → AV
  | [x] => x
  | xs => .tup xs

/-- Less is known, or the same in other words. -/
def Wk (s s' : St) : Prop := ∀ (cx : Cx) (n : Nat) (a : Act) (w : World), Ok cx n s a w → Ok cx n s' a w

/-- What is handed back meets the post; blocks that the caller is not told of are left behind. -/
def OutQ (P : Program) (rs : List ResultVar) (post : AV → Hp → Prop) (s : St) : Prop :=
  ∃ s', Wk s s' ∧ (resv P s'.H s'.env rs).1 ∧ ∃ F' R, s'.H.Perm (F' ++ R) ∧ post (resA (resv P s'.H s'.env rs).2) F'

def BodyQ (P : Program) (rs : List ResultVar) (post : AV → Hp → Prop) : Exit → St → Prop
  | .normal, s => OutQ P rs post s
  | .ret, s => OutQ P rs post s
  | _, _ => False

theorem OutQ.all {rs : List ResultVar} {post : AV → Hp → Prop} {s : St} (h1 : (resv P s.H s.env rs).1) (h2 : post (resA (resv P s.H s.env rs).2) []) : OutQ P rs post s :=
  ⟨s, fun _ _ _ _ h => h, h1, [], s.H, by simp, h2⟩

theorem OutQ.drop {rs : List ResultVar} {post : AV → Hp → Prop} {s : St} (F' R : Hp) (hp : s.H.Perm (F' ++ R)) (h1 : (resv P s.H s.env rs).1) (h2 : post (resA (resv P s.H s.env rs).2) F') : OutQ P rs post s :=
  ⟨s, fun _ _ _ _ h => h, h1, F', R, hp, h2⟩

theorem OutQ.wk {rs : List ResultVar} {post : AV → Hp → Prop} {s s' : St} (hw : Wk s s') (h : OutQ P rs post s') : OutQ P rs post s := by
  obtain ⟨s2, h1, h2⟩ := h
  exact ⟨s2, fun cx n a w ok => h1 cx n a w (hw cx n a w ok), h2⟩

theorem WP.wk {c : Code} {Q : Exit → St → Prop} {s s' : St} (hw : Wk s s') (h : WP P cx n c Q s') : WP P cx n c Q s := fun a w ok => h a w (hw cx n a w ok)

/-- A slice of a block that nobody will write any more. -/
def frz (b : Nat) (k : IntKind) (zs : List Int) : AV → AV
  | .lit (.slice (some ⟨b', off, none⟩) m cap) => if b' = b then (if off + m ≤ zs.length ∧ m ≤ cap ∧ cap ≤ maxLen then .slz k ((zs.drop off).take m) else .any) else .lit (.slice (some ⟨b', off, none⟩) m cap)
  | x => x

def frzE (b : Nat) (k : IntKind) (zs : List Int) : List (Nat × AV) → List (Nat × AV)
  | [] => []
  | (i, x) :: r => (i, frz b k zs x) :: frzE b k zs r

theorem look_frzE {b : Nat} {k : IntKind} {zs : List Int} : ∀ (env : List (Nat × AV)) (i : Nat), look (frzE b k zs env) i = frz b k zs (look env i)
  | [], _ => rfl
  | (j, x) :: r, i => by
    simp only [frzE, look]
    split
    · rfl
    · exact look_frzE r i

theorem Wk.freeze {env : List (Nat × AV)} {H : Hp} (b : Nat) {k : IntKind} {zs : List Int} {s0 ty : Nat} (hg : hget H b = some (.zs k zs s0 ty)) : Wk ⟨env, H⟩ ⟨frzE b k zs env, hdel H b⟩ := by
  intro cx n a w ok
  obtain ⟨hw, hI, hb⟩ := ok.world.lose (w' := w) (hget_mem hg) rfl rfl rfl rfl (fun _ _ => rfl)
  refine ⟨ok.defers, ok.size, fun i => ?_, hw⟩
  have hr := ok.reps i
  show Rep w _ _ (look (frzE b k zs env) i)
  rw [look_frzE]
  have hr' := hr.mono hI
  generalize (a.tmps.getD i undef) = v at *
  change Rep w (imm cx w (hdel H b)) v (look env i) at hr'
  generalize look env i = x at hr'
  unfold frz
  split
  · rename_i b' off m cap
    split
    · rename_i he
      subst he
      split
      · rename_i hc
        obtain ⟨c1, c2, c3⟩ := hc
        have := hr'.lit_inv
        subst this
        obtain ⟨cur, d1, d2, d3, d4⟩ := ok.world.mem _ (hget_mem hg)
        have hl : ((zs.drop off).take m).length = m := by simp; omega
        have hrr : Rep w (imm cx w (hdel H b')) (.slice (some ⟨b', off, none⟩) ((zs.drop off).take m).length cap) (.slz k ((zs.drop off).take m)) := by
          refine .slz _ _ _ _ (by omega) c3 (.inr ⟨b', off, rfl, hb, fun j hj => ?_⟩)
          have hj' : j < m := by omega
          rw [cell_of_block d1, d4 _ (by omega)]
          have : off + j < zs.length := by omega
          simp [List.getD, hj']
        rw [hl] at hrr
        exact hrr
      · exact .any _
    · exact hr'
  · exact hr'

def argE : Nat → List AV → List (Nat × AV)
  | _, [] => []
  | i, x :: r => (i, x) :: argE (i + 1) r

theorem look_argE : ∀ (l : List AV) (k i : Nat), look (argE k l) i = if k ≤ i then l.getD (i - k) .any else .any
  | [], k, i => by simp [argE, look]
  | x :: r, k, i => by
    simp only [argE, look]
    split
    · rename_i h; subst h; simp
    · rename_i h
      rw [look_argE r (k + 1) i]
      by_cases hk : k ≤ i
      · rw [if_pos hk, if_pos (by omega)]
        rw [show i - k = (i - (k + 1)) + 1 by omega]
        simp
      · rw [if_neg hk, if_neg (by omega)]

theorem rep_resA {w : World} {I : Nat → Prop} : ∀ {vs : List Value} {xs : List AV}, vs.length = xs.length → (∀ i (hi : i < xs.length), Rep w I (vs.getD i undef) xs[i]) →
    Rep w I (if h : vs.toArray.size = 1 then vs.toArray[0] else .tuple vs.toArray) (resA xs)
  | [v], [x], _, h3 => by simpa [resA] using h3 0 (by simp)
  | [], [], _, _ => .tup _ _ rfl fun i hi => by simp at hi
  | v1 :: v2 :: r, x1 :: x2 :: xr, h2, h3 => .tup _ _ (by simpa using h2) fun i hi => by have := h3 i hi; simpa [List.getD] using this
  | [], x :: r, h2, _ => by simp at h2
  | v :: r, [], h2, _ => by simp at h2
  | [v], x1 :: x2 :: r, h2, _ => by simp at h2
  | v1 :: v2 :: r, [x], h2, _ => by simp at h2

theorem results_of {fn : Func} {s : St} {a : Act} {w : World} (ok : Ok cx n s a w) (h : (resv P s.H s.env fn.results.toList).1) :
    ∃ v, (results fn a.tmps).run P w = .ok v w ∧ Rep w (imm cx w s.H) v (resA (resv P s.H s.env fn.results.toList).2) := by
  have key : ∀ (rs : List ResultVar), (resv P s.H s.env rs).1 → ∃ vs : List Value, (rs.mapM fun (r : ResultVar) => (match r with
      | .tmp t => pure (a.tmps.getD t undef)
      | .cell c t => do loadVar t (← asAddr (a.tmps.getD c undef)) : Sem Value)).run P w = .ok vs w ∧ vs.length = (resv P s.H s.env rs).2.length ∧
        ∀ i (hi : i < (resv P s.H s.env rs).2.length), Rep w (imm cx w s.H) (vs.getD i undef) (resv P s.H s.env rs).2[i] := by
    intro rs
    induction rs with
    | nil => intro _; exact ⟨[], by simp, rfl, fun i hi => by simp [resv] at hi⟩
    | cons r rs ih =>
      intro h
      cases r with
      | tmp t =>
        obtain ⟨vs, h1, h2, h3⟩ := ih h
        refine ⟨a.tmps.getD t undef :: vs, by simp only [List.mapM_cons, Sem.run_bind, Sem.run_pure, Result.andThen_ok, h1], by simp [resv, h2], fun i hi => ?_⟩
        cases i with
        | zero => simpa [resv] using ok.reps t
        | succ i => simpa [resv] using h3 i (by simpa [resv] using hi)
      | cell c t =>
        obtain ⟨vs, h1, h2, h3⟩ := ih h.2
        obtain ⟨ad, u, e1, e2, e3⟩ := run_loadVar_of (P := P) ok.world (ok.reps c) h.1
        refine ⟨u :: vs, by
            have hA : (asAddr (.pointer (some ad))).run P w = .ok ad w := rfl
            rw [List.mapM_cons]
            simp only [Sem.run_bind]
            rw [e1, hA]
            simp only [Result.andThen_ok, e2]
            rw [h1]
            rfl, by simp [resv, h2], fun i hi => ?_⟩
        cases i with
        | zero => simpa [resv] using e3
        | succ i => simpa [resv] using h3 i (by simpa [resv] using hi)
  obtain ⟨vs, h1, h2, h3⟩ := key _ h
  have hrun : (results fn a.tmps).run P w = .ok (if h : vs.toArray.size = 1 then vs.toArray[0] else .tuple vs.toArray) w := by
    unfold results
    simp only [Sem.run_bind, Array.mapM_eq_mapM_toList, Sem.run_map]
    exact congrArg (fun r : Result (List Value) => (r.andThen fun a w' => Result.ok a.toArray w').andThen fun a w' => Sem.run P (pure (if h : a.size = 1 then a[0] else Value.tuple a)) w') h1
  refine ⟨_, hrun, ?_⟩
  exact rep_resA h2 h3

/-- A function's contract, out of its body. -/
theorem ACt.intro {f : FuncId} {fn : Func} {c : Code} {args : List AV} {F : Hp} {post : AV → Hp → Prop} (hf : P.funcs[f]? = some fn) (hb : fn.body = some c) (hname : (fn.name == "runtime.NumGoroutine") = false)
    (hn : args.length ≤ fn.ntmps) (h : ∀ cx : Cx, WP P cx fn.ntmps c (BodyQ P fn.results.toList post) ⟨argE 0 args, F⟩) : ACt P f args F post := by
  intro cx vs hK hw hs hv
  refine .inl ⟨?_, ?_⟩
  · simp [callFunc, program, Sem.run, hf, hb]
    simpa using hname
  · refine calls_of_wp hf hb ?_
    have hK' : ∀ b, b ∈ cx.K → ∃ x ∈ F, x.1 = b := fun b hb => by rw [hK] at hb; exact List.mem_map.1 hb
    have ok : Ok cx fn.ntmps ⟨argE 0 args, F⟩ { tmps := vs ++ Array.replicate (fn.ntmps - vs.size) undef, defers := [] } cx.w0 := by
      refine ⟨rfl, by simp; omega, fun i => ?_, hw⟩
      rw [look_argE]
      simp only [Nat.zero_le, if_true, Nat.sub_zero]
      by_cases hi : i < args.length
      · have := hv i hi
        have hi' : i < vs.size := by omega
        have e : (vs ++ Array.replicate (fn.ntmps - vs.size) undef).getD i undef = vs.getD i undef := by simp [Array.getElem?_append, hi']
        rw [e]
        exact this.mono fun b hb => ⟨.inl hb, rfl⟩
      · have : args.getD i .any = .any := by simp [List.getD, List.getElem?_eq_none (Nat.le_of_not_lt hi)]
        rw [this]
        exact .any _
    refine Go.wp_mono (h cx _ _ ok) ?_
    rintro e a w ⟨s, q, ok'⟩
    have fin : OutQ P fn.results.toList post s → a.defers = [] ∧ ∃ v, (results fn a.tmps).run P w = .ok v w ∧ ∃ v' r F', Ending.returned v = .returned v' ∧ post r F' ∧ OkW cx F' w ∧ Rep w (imm cx w F') v' r := by
      rintro ⟨s', hwk, q1, F', R, hp, q2⟩
      have ok2 := hwk _ _ _ _ ok'
      obtain ⟨v, r1, r2⟩ := results_of ok2 q1
      have hd := (ok2.world.perm hp).drop
      exact ⟨ok'.defers, v, r1, v, _, F', rfl, q2, hd.1, r2.mono fun b hb => ⟨hd.2 b ((imm_perm hp).1 hb), rfl⟩⟩
    cases e with
    | normal => exact fin q
    | ret => exact fin q
    | exit id => exact q.elim
    | goto l => exact q.elim
    | panic ch => exact q.elim
    | outgrown => exact q.elim
end

/-- From a contract to what a law's frame asks: of what came in, whatever it is, the call returns true and leaves all that was there. -/
theorem ACt.law {P : Program} {f : FuncId} {args : List AV} (h : ACt P f args [] fun r _ => r = bv true) (hb : ((P.funcs[f]?).any fun fn => fn.body.isSome && !(fn.name == "runtime.NumGoroutine")) = true) {w : World} {vs : Array Value} (hs : vs.size = args.length)
    (hv : ∀ i, i < args.length → Rep w (fun b => b < w.heap.size) (vs.getD i undef) (args.getD i .any)) :
    Calls P f vs w fun e w' => e = .returned (.bool true) ∧ Go.RowKit.Below w.heap.size w w' := by
  have := h ⟨w, fun b => b < w.heap.size, [], fun b hb => ⟨hb, by simp⟩⟩ vs rfl ⟨by simp, fun x hx => by simp at hx, fun x hx => by simp at hx, ⟨rfl, rfl, rfl, Nat.le_refl _, fun _ _ _ => rfl⟩⟩ hs hv
  obtain ⟨fn, hf, hb⟩ : ∃ fn, P.funcs[f]? = some fn ∧ (fn.body.isSome && !(fn.name == "runtime.NumGoroutine")) = true := by
    cases e : P.funcs[f]? with
    | none => rw [e] at hb; cases hb
    | some fn => exact ⟨fn, rfl, by rw [e] at hb; exact hb⟩
  have hcl : (callFunc f vs).run P w = .ok (.enter f vs) w := by
    simp at hb
    obtain ⟨h1, h2⟩ := hb
    obtain ⟨c, hc⟩ := Option.isSome_iff_exists.1 h1
    simp [callFunc, program, Sem.run, hf, hc, h2]
  rcases Or.symm this with ⟨v, w', h1, _⟩ | ⟨_, this⟩
  · exact absurd (h1.symm.trans hcl) (by simp)
  refine this.mono ?_
  rintro e w' ⟨v, r, F', rfl, rfl, hw, hr⟩
  rw [hr.lit_inv]
  exact ⟨rfl, ⟨hw.ext.os, hw.ext.tape, hw.ext.output, hw.ext.size, fun k hk => hw.ext.blk k hk (by simp)⟩⟩
end Go.Proofs.Ytbnkmhlnoaebcaa
