/-
  The layer, part U: a region that draws and makes several blocks, each without order to what stands beside it; they are filled in order.
-/
import Derived.Test.YtbnkmhlnoaebcaaLayS
namespace Go.Proofs.Ytbnkmhlnoaebcaa
open Go
set_option linter.unusedVariables false
set_option linter.unusedSimpArgs false
section
variable {P : Program} {cx : Cx} {n : Nat} {ops : Array Oper} {H : Hp}

theorem Ok.permH {env : List (Nat × AV)} {H H' : Hp} {a : Act} {w : World} (hp : H.Perm H') (ok : Ok cx n ⟨env, H⟩ a w) : Ok cx n ⟨env, H'⟩ a w :=
  ⟨ok.defers, ok.size, fun t => (ok.reps t).mono fun b hb => ⟨(imm_perm hp).1 hb, rfl⟩, ok.world.perm hp⟩

structure AL where
  i : Nat
  t : Nat
  m : MB
def Eo (al : List AL) (listed : Array Bool) (β : Nat → Nat) : Hp := (al.filter fun p => listed.getD p.i false).map fun p => (β p.i, p.m)

theorem Eo_same {al : List AL} {listed listed' : Array Bool} {β β' : Nat → Nat} (h : ∀ p ∈ al, listed'.getD p.i false = listed.getD p.i false ∧ β' p.i = β p.i) : Eo al listed' β' = Eo al listed β := by
  unfold Eo
  have e : (al.filter fun p => listed'.getD p.i false) = al.filter fun p => listed.getD p.i false := List.filter_congr fun p hp => (h p hp).1
  rw [e]
  exact List.map_congr_left fun p hp => by rw [(h p (List.mem_filter.1 hp).1).2]

theorem Eo_new {listed listed' : Array Bool} {β β' : Nat → Nat} {i nb : Nat} {m : MB} (h1 : listed.getD i false = false) (h2 : listed'.getD i false = true) (h3 : ∀ j, j ≠ i → listed'.getD j false = listed.getD j false ∧ β' j = β j) (h4 : β' i = nb) :
    ∀ (al : List AL), (al.map (·.i)).Nodup → (∃ p ∈ al, p.i = i ∧ p.m = m) → (Eo al listed' β').Perm ((nb, m) :: Eo al listed β)
  | [], _, h => by obtain ⟨p, hp, _⟩ := h; cases hp
  | q :: r, hn, h => by
    simp only [List.map_cons, List.nodup_cons] at hn
    obtain ⟨p, hp, hpi, hpm⟩ := h
    by_cases hq : q.i = i
    · have hpq : p = q := by
        rcases List.mem_cons.1 hp with h | h
        · exact h
        · exact absurd (List.mem_map_of_mem (f := (·.i)) h) (by rw [hpi, ← hq]; exact hn.1)
      subst hpq
      have hr : Eo r listed' β' = Eo r listed β := Eo_same fun x hx => h3 x.i fun he => hn.1 (by rw [hpi, ← he]; exact List.mem_map_of_mem (f := (·.i)) hx)
      have e1 : Eo (p :: r) listed' β' = (nb, m) :: Eo r listed' β' := by unfold Eo; rw [List.filter_cons, hpi, h2]; simp [hpi, h4, hpm]
      have e2 : Eo (p :: r) listed β = Eo r listed β := by unfold Eo; rw [List.filter_cons, hpi, h1]; simp
      rw [e1, e2, hr]
    · have hp' : ∃ p ∈ r, p.i = i ∧ p.m = m := by
        rcases List.mem_cons.1 hp with h | h
        · exact absurd (h ▸ hpi) hq
        · exact ⟨p, h, hpi, hpm⟩
      have ih := Eo_new h1 h2 h3 h4 r hn.2 hp'
      obtain ⟨a1, a2⟩ := h3 q.i hq
      cases hl : listed.getD q.i false
      · have e1 : Eo (q :: r) listed' β' = Eo r listed' β' := by unfold Eo; rw [List.filter_cons, a1, hl]; simp
        have e2 : Eo (q :: r) listed β = Eo r listed β := by unfold Eo; rw [List.filter_cons, hl]; simp
        rw [e1, e2]; exact ih
      · have e1 : Eo (q :: r) listed' β' = (β q.i, q.m) :: Eo r listed' β' := by unfold Eo; rw [List.filter_cons, a1, hl]; simp [a2]
        have e2 : Eo (q :: r) listed β = (β q.i, q.m) :: Eo r listed β := by unfold Eo; rw [List.filter_cons, hl]; simp
        rw [e1, e2]
        exact (ih.cons _).trans (List.Perm.swap _ _ _)

theorem uniq_i {p q : AL} : ∀ (al : List AL), (al.map (·.i)).Nodup → q ∈ al → p ∈ al → q.i = p.i → q = p
  | [], _, h, _, _ => by cases h
  | c :: r, hn, hq, hp, h => by
    simp only [List.map_cons, List.nodup_cons] at hn
    rcases List.mem_cons.1 hq with h1 | h1 <;> rcases List.mem_cons.1 hp with h2 | h2
    · rw [h1, h2]
    · exact absurd (List.mem_map_of_mem (f := (·.i)) h2) (by rw [← h, h1]; exact hn.1)
    · exact absurd (List.mem_map_of_mem (f := (·.i)) h1) (by rw [h, h2]; exact hn.1)
    · exact uniq_i r hn.2 h1 h2 h

theorem fresh_app {E H : Hp} (h : ((E ++ H).map (·.1)).Nodup) : ∀ p ∈ E, fresh H p.1 := by
  intro p hp x hx
  rw [List.map_append, List.nodup_append] at h
  have := h.2.2 p.1 (List.mem_map_of_mem hp) x.1 (List.mem_map_of_mem hx)
  exact ⟨fun he => this he.symm, this⟩

def SeqA (P : Program) (cx : Cx) (n : Nat) (ops : Array Oper) (H : Hp) (lx : List (Oper × AV)) (env : List (Nat × AV)) (al : List AL) : Prop :=
  ∀ i o x, lx[i]? = some (o, x) → (∃ p ∈ al, p.i = i ∧ o.guard = none ∧ x = .any ∧ o.dst = some p.t ∧ p.t < n ∧ ∃ T, o.op = .alloc T ∧ zmb P T = some p.m) ∨
    ((∀ p ∈ al, p.i ≠ i) ∧ StdyE P cx n ops o (envL (fun j => decide (j < i)) lx 0 env) H x)

def DInvA (cx : Cx) (n : Nat) (ops : Array Oper) (lx : List (Oper × AV)) (env : List (Nat × AV)) (H : Hp) (al : List AL) (listed : Array Bool) (a : Act) (w : World) : Prop :=
  ∃ β : Nat → Nat, (∀ p ∈ al, listed.getD p.i false = true → a.tmps.getD p.t undef = .pointer (some ⟨β p.i, 0, none⟩)) ∧ DInv cx n ops lx env (Eo al listed β ++ H) listed a w

theorem dinvA_step {lx : List (Oper × AV)} {env : List (Nat × AV)} {al : List AL} {listed : Array Bool} {a : Act} {w : World} {i : Nat} (hD : DrawOk ops lx.length) (hlx : ∀ (j : Nat) o x, lx[j]? = some (o, x) → ops[j]? = some o)
    (hS : SeqA P cx n ops H lx env al) (hsole : ∀ j o x, lx[j]? = some (o, x) → ∀ p ∈ al, o.dst = some p.t → j = p.i) (hnd : (al.map (·.i)).Nodup)
    (inv : DInvA cx n ops lx env H al listed a w) (hi : i ∈ Region.ready .any ops listed) (hik : i < lx.length) {R : Exit → Act → World → Prop} {X : Act → World → Prop}
    (hX : ∀ a' w', DInvA cx n ops lx env H al (listed.setIfInBounds i true) a' w' → X a' w') : wpOp P ops R i X a w := by
  obtain ⟨⟨o, x⟩, hp⟩ : ∃ p, lx[i] = p := ⟨_, rfl⟩
  have hli : lx[i]? = some (o, x) := by rw [List.getElem?_eq_getElem hik, hp]
  have hoi := hlx i o x hli
  have hilt : i < ops.size := (Array.getElem?_eq_some_iff.1 hoi).1
  obtain ⟨β, hb, hinv⟩ := inv
  have hset : ∀ j, (listed.setIfInBounds i true).getD j false = if j = i then true else listed.getD j false := by
    intro j
    by_cases hji : j = i
    · subst hji
      have : j < listed.size := by rw [hinv.lsize]; exact hilt
      simp [this]
    · rw [if_neg hji, getD_set_ne false (Ne.symm hji)]
  have hnt : ∀ v, ∀ p ∈ al, p.i ≠ i → (a.put o.dst v).tmps.getD p.t undef = a.tmps.getD p.t undef := by
    intro v p hpa hpi
    cases hdd : o.dst with
    | none => rfl
    | some d =>
      have : d ≠ p.t := fun h => hpi (hsole i o x hli p hpa (by rw [hdd, h])).symm
      simp [Act.put, Array.getElem?_setIfInBounds_ne this]
  rcases hS i o x hli with ⟨p, hpa, hpi, hg, rfl, hdt, htn, T, hop, hz⟩ | ⟨hne, hst⟩
  · have hun : listed.getD i false = false := by
      have := (mem_ready.1 hi).1
      rw [getD_bool (by rw [hinv.lsize]; exact hilt)] at this
      exact this
    obtain ⟨z, hz1, hz2⟩ := zmb_spec (w := w) hz
    have hrun : (execOp a.eval o).run P w = .ok (.value (.pointer (some ⟨w.heap.size, 0, none⟩))) (w.alloc (.cells z.cells T)) := by
      simp only [execOp, hop, Sem.run_bind, run_alloc_of hz1, Result.andThen_ok, Sem.run_pure]
    have hm : MOk (w.alloc (.cells z.cells T)) (imm cx (w.alloc (.cells z.cells T)) ((w.heap.size, p.m) :: (Eo al listed β ++ H))) w.heap.size p.m :=
      hz2 _ _ _ (by rw [heap_alloc]; exact Array.getElem?_push_size)
    obtain ⟨hw', hI⟩ := hinv.ok.world.push (w' := w.alloc (.cells z.cells T)) (ob := .cells z.cells T) (m := p.m) rfl rfl rfl rfl hm
    unfold wpOp
    rw [hoi]
    simp only
    rw [if_pos (by simp [Region.wanted, hg])]
    refine .inl ?_
    unfold Oper.wp
    rw [hrun]
    have hd := dinv_put (v := .pointer (some ⟨w.heap.size, 0, none⟩)) hD hlx hinv hi hli (by rw [hdt]; exact htn) (.any _) hw' hI
    obtain ⟨β', hβ⟩ : ∃ β' : Nat → Nat, β' = fun j => if j = i then w.heap.size else β j := ⟨_, rfl⟩
    have hperm := Eo_new (listed' := listed.setIfInBounds i true) (β := β) (β' := β') (nb := w.heap.size) (m := p.m) hun (by rw [hset, if_pos rfl]) (fun j hj => ⟨by rw [hset, if_neg hj], by rw [hβ]; simp [hj]⟩) (by rw [hβ]; simp) al hnd ⟨p, hpa, hpi, rfl⟩
    refine hX _ _ ⟨β', fun q hq hl => ?_, ⟨hd.lsize, hd.closed, hd.tail, hd.ok.permH ?_⟩⟩
    · by_cases hqi : q.i = i
      · have : q.t < a.tmps.size ∧ q.t = p.t := by
          have hqp : q = p := uniq_i al hnd hq hpa (by rw [hqi, hpi])
          rw [hqp]; exact ⟨by rw [hinv.ok.size]; exact htn, rfl⟩
        obtain ⟨hts, hqt⟩ := this
        rw [hqt] at hts
        rw [hdt, hβ, hqt]
        show _ = Value.pointer (some ⟨if q.i = i then w.heap.size else β q.i, 0, none⟩)
        rw [if_pos hqi]
        simp [Act.put, hts]
      · rw [hset, if_neg hqi] at hl
        rw [hnt _ q hq hqi, hβ]
        show _ = Value.pointer (some ⟨if q.i = i then w.heap.size else β q.i, 0, none⟩)
        rw [if_neg hqi]
        exact hb q hq hl
    · exact ((hperm.append_right H).symm : ((w.heap.size, p.m) :: Eo al listed β ++ H).Perm _)
  · have hE := fresh_app hinv.ok.world.nodup
    refine dinv_stepS hD hlx hli (hst _ hE) hinv hi fun v w' hd => hX _ _ ⟨β, fun q hq hl => ?_, ?_⟩
    · rw [hset, if_neg (hne q hq)] at hl
      rw [hnt v q hq (hne q hq)]
      exact hb q hq hl
    · rw [Eo_same (listed := listed) (β := β) fun q hq => ⟨by rw [hset, if_neg (hne q hq)], rfl⟩]
      exact hd

/-- The blocks that the head makes. -/
def alOf (P : Program) : Nat → List Oper → List AL
  | _, [] => []
  | i, o :: r => (match o with
    | ⟨some t, .alloc T, _, _, _, none⟩ => match zmb P T with
      | some m => ⟨i, t, m⟩
      | none => ⟨i, t, .zs .u8 [] 0 0⟩
    | _ => ⟨i, 0, .zs .u8 [] 0 0⟩) :: alOf P (i + 1) r
/-- Block by block, and then. -/
def alF (P : Program) (n : Nat) (K : St → Prop) : List Oper → St → Prop
  | [], s => K s
  | o :: r, s => match o with
    | ⟨some t, .alloc T, _, _, _, none⟩ => match zmb P T with
      | some m => t < n ∧ newB s.H m fun b H => alF P n K r ⟨(t, pt b 0) :: s.env, H⟩
      | none => False
    | _ => False
def finS (β : Nat → Nat) : List AL → St → St
  | [], s => s
  | p :: r, s => finS β r ⟨(p.t, pt (β p.i) 0) :: s.env, (β p.i, p.m) :: s.H⟩
theorem alOf_i : ∀ (os : List Oper) (i : Nat), (alOf P i os).map (·.i) = List.range' i os.length
  | [], _ => rfl
  | o :: r, i => by
    simp only [alOf, List.map_cons, List.length_cons, List.range'_succ, alOf_i r (i + 1)]
    congr 1
    split
    · split <;> rfl
    · rfl
theorem alF_spec {K : St → Prop} : ∀ (os : List Oper) (i : Nat) (s : St), alF P n K os s →
    ∀ β : Nat → Nat, (((alOf P i os).map fun p => β p.i) ++ s.H.map (·.1)).Nodup →
      K (finS β (alOf P i os) s) ∧ ∀ j o, os[j]? = some o → ∃ p ∈ alOf P i os, p.i = i + j ∧ o.guard = none ∧ o.dst = some p.t ∧ p.t < n ∧ ∃ T, o.op = .alloc T ∧ zmb P T = some p.m
  | [], i, s, h, β, _ => ⟨h, fun j o hj => by simp at hj⟩
  | o :: r, i, s, h, β, hn => by
    unfold alF at h
    split at h
    · rename_i t T ty pos af
      split at h
      · rename_i m hz
        obtain ⟨ht, h⟩ := h
        have e : alOf P i (⟨some t, .alloc T, ty, pos, af, none⟩ :: r) = ⟨i, t, m⟩ :: alOf P (i + 1) r := by simp only [alOf, hz]
        rw [e] at hn ⊢
        simp only [List.map_cons, List.cons_append, List.nodup_cons, List.mem_append, not_or] at hn
        obtain ⟨⟨h1, h2⟩, h3⟩ := hn
        have hfr : fresh s.H (β i) := fun x hx => by
          have : x.1 ≠ β i := fun he => h2 (he ▸ List.mem_map_of_mem hx)
          exact ⟨this, fun he => this he.symm⟩
        have hk := (h.out (β i)).out hfr
        have hn2 : (((alOf P (i + 1) r).map fun p => β p.i) ++ ((β i, m) :: s.H).map (·.1)).Nodup := by
          simp only [List.map_cons]
          exact List.perm_middle.nodup_iff.2 (List.nodup_cons.2 ⟨by rw [List.mem_append, not_or]; exact ⟨h1, h2⟩, h3⟩)
        obtain ⟨k1, k2⟩ := alF_spec r (i + 1) _ hk β hn2
        refine ⟨k1, fun j o hj => ?_⟩
        cases j with
        | zero =>
          simp at hj
          subst hj
          exact ⟨_, List.mem_cons_self .., rfl, rfl, rfl, ht, T, rfl, hz⟩
        | succ j =>
          obtain ⟨p, hp, hpi, hr⟩ := k2 j o (by simpa using hj)
          exact ⟨p, List.mem_cons_of_mem _ hp, by omega, hr⟩
      · exact h.elim
    · exact h.elim

def drawAF (P : Program) (n : Nat) (l : List Oper) (K : St → Prop) (p r : Nat) (s : St) : Prop :=
  dvc P n l.toArray (l.take p) (fun s1 => alF P n (fun s2 => rvc P n l.toArray (l.drop (p + r)) K s2) ((l.drop p).take r) s1) s
def soleA (l : List Oper) (p r : Nat) : Bool :=
  decide (p + r ≤ l.length) && (List.range (p + r)).all fun j => (List.range' p r).all fun q => decide (j = q) || !((l[j]?).bind (·.dst) == (l[q]?).bind (·.dst))

theorem look_finS (β : Nat → Nat) : ∀ (al : List AL) (s : St) (t : Nat), (al.map (·.t)).Nodup → look (finS β al s).env t = match al.find? (fun p => p.t == t) with | some p => pt (β p.i) 0 | none => look s.env t
  | [], s, t, _ => rfl
  | q :: r, s, t, hn => by
    simp only [List.map_cons, List.nodup_cons] at hn
    rw [finS, look_finS β r _ t hn.2, List.find?_cons]
    by_cases hq : q.t = t
    · have hnone : r.find? (fun p => p.t == t) = none := by
        rw [List.find?_eq_none]
        intro x hx he
        have : x.t = t := by simpa using he
        exact hn.1 (by rw [hq, ← this]; exact List.mem_map_of_mem (f := (·.t)) hx)
      rw [hnone]
      simp [look, hq]
    · have : (q.t == t) = false := beq_eq_false_iff_ne.2 hq
      simp only [this]
      cases hr : r.find? (fun p => p.t == t) with
      | none => simp [look, hq, Ne.symm hq]
      | some p => simp
theorem finS_H (β : Nat → Nat) : ∀ (al : List AL) (s : St), (finS β al s).H.Perm ((al.map fun p => (β p.i, p.m)) ++ s.H)
  | [], s => by simp [finS]
  | q :: r, s => by
    rw [finS]
    refine (finS_H β r _).trans ?_
    simp only [List.map_cons, List.cons_append]
    exact List.perm_middle

theorem look_anys {t : Nat} : ∀ (os : List Oper) (k : Nat) (env : List (Nat × AV)), (∀ o ∈ os, o.dst ≠ some t) → look (envL (fun _ => true) (os.map fun o => (o, AV.any)) k env) t = look env t
  | [], _, _, _ => rfl
  | o :: r, k, env, h => by
    simp only [List.map_cons, envL, if_true]
    rw [look_anys r (k + 1) _ fun x hx => h x (List.mem_cons_of_mem _ hx), look_putE, if_neg (h o (List.mem_cons_self ..))]

theorem WP.drawA {id p r : Nat} {l : List Oper} {Q : Exit → St → Prop} {s : St} (hm : P.follows .mixedOrders = true) (hB : drawB l.toArray (p + r) = true) (hA : soleA l p r = true)
    (h : drawAF P n l (Q .normal) p r s) : WP P cx n (.region id l.toArray true) Q s := by
  intro a w ok
  have hD := drawB_spec hB
  unfold soleA at hA
  simp only [Bool.and_eq_true, decide_eq_true_eq] at hA
  obtain ⟨hkl, hso⟩ := hA
  obtain ⟨xs1, x1, S1, K1⟩ := dvc_seqvE (cx := cx) _ _ h
  generalize hA1 : (l.take p).zip xs1 = A1 at S1 K1
  obtain ⟨os, hos⟩ : ∃ os, os = (l.drop p).take r := ⟨_, rfl⟩
  rw [← hos] at K1
  obtain ⟨al, hal⟩ : ∃ al, al = alOf P p os := ⟨_, rfl⟩
  have l1 : A1.length = p := by rw [← hA1]; simp [x1]; omega
  have f1 : A1.map (·.1) = l.take p := by rw [← hA1]; exact List.map_fst_zip (by simp [x1])
  have los : os.length = r := by rw [hos]; simp; omega
  have hali : al.map (·.i) = List.range' p r := by rw [hal, alOf_i, los]
  have hnd : (al.map (·.i)).Nodup := by rw [hali]; exact List.nodup_range'
  obtain ⟨lx, hlxe⟩ : ∃ lx, lx = A1 ++ os.map (fun o => (o, AV.any)) := ⟨_, rfl⟩
  have hfst : lx.map (·.1) = l.take (p + r) := by
    rw [hlxe, List.map_append, f1, List.map_map, List.take_add, ← hos]
    congr 1
    conv => rhs; rw [← List.map_id os]
    rfl
  have hlen : lx.length = p + r := by rw [hlxe]; simp [l1, los]
  have hlx : ∀ (j : Nat) o x, lx[j]? = some (o, x) → l.toArray[j]? = some o := by
    intro j o x hj
    have h1 : (lx.map (·.1))[j]? = some o := by rw [List.getElem?_map, hj]; rfl
    rw [hfst, List.getElem?_take] at h1
    split at h1
    · simpa using h1
    · cases h1
  have hosl : ∀ j o, os[j]? = some o → l[p + j]? = some o := by
    intro j o hj
    rw [hos, List.getElem?_take] at hj
    split at hj
    · rw [List.getElem?_drop] at hj; exact hj
    · cases hj
  -- what the operations are
  have hkeys : ∀ x ∈ s.H, x.1 < w.heap.size := fun x hx => keys_lt ok.world x hx
  have hnd0 : (((alOf P p os).map fun q => w.heap.size + q.i) ++ s.H.map (·.1)).Nodup := by
    rw [← hal, List.nodup_append]
    refine ⟨?_, ok.world.nodup, fun x hx y hy he => ?_⟩
    · have : (al.map fun q => w.heap.size + q.i) = (al.map (·.i)).map (w.heap.size + ·) := by rw [List.map_map]; rfl
      rw [this, List.Nodup, List.pairwise_map]
      exact hnd.imp fun h he => h (by omega)
    · obtain ⟨q, _, rfl⟩ := List.mem_map.1 hx
      obtain ⟨z, hz, rfl⟩ := List.mem_map.1 hy
      have := hkeys z hz
      omega
  have hops := (alF_spec os p _ K1 (fun j => w.heap.size + j) hnd0).2
  rw [← hal] at hops
  have hqi : ∀ q ∈ al, ∃ o, os[q.i - p]? = some o ∧ p ≤ q.i ∧ q.i < p + r ∧ o.dst = some q.t := by
    intro q hq
    have h1 : q.i ∈ List.range' p r := hali ▸ List.mem_map_of_mem (f := (·.i)) hq
    rw [List.mem_range'_1] at h1
    have h2 : q.i - p < os.length := by omega
    obtain ⟨q', hq', h3, _, h4, _⟩ := hops (q.i - p) os[q.i - p] (List.getElem?_eq_getElem h2)
    have : q = q' := uniq_i al hnd hq hq' (by omega)
    exact ⟨_, List.getElem?_eq_getElem h2, h1.1, h1.2, this ▸ h4⟩
  have hSA : SeqA P cx n l.toArray s.H lx s.env al := by
    show SeqG (fun i o x env => (∃ p ∈ al, p.i = i ∧ o.guard = none ∧ x = .any ∧ o.dst = some p.t ∧ p.t < n ∧ ∃ T, o.op = .alloc T ∧ zmb P T = some p.m) ∨ ((∀ p ∈ al, p.i ≠ i) ∧ StdyE P cx n l.toArray o env s.H x)) lx s.env
    rw [hlxe]
    refine SeqG.app (fun i o x hi => .inr ⟨fun q hq he => ?_, S1 i o x hi⟩) fun i o x hi => ?_
    · have hlt := (List.getElem?_eq_some_iff.1 hi).1
      obtain ⟨_, _, h2, _⟩ := hqi q hq
      omega
    · have h1 : os[i]? = some o ∧ x = .any := by
        rw [List.getElem?_map] at hi
        cases ho : os[i]? with
        | none => rw [ho] at hi; cases hi
        | some o' => rw [ho] at hi; simp at hi; exact ⟨by rw [hi.1], hi.2.symm⟩
      obtain ⟨q, hq, g1, g2, g3, g4, g5⟩ := hops i o h1.1
      exact .inl ⟨q, hq, by omega, g2, h1.2, g3, g4, g5⟩
  have hsole : ∀ j o x, lx[j]? = some (o, x) → ∀ q ∈ al, o.dst = some q.t → j = q.i := by
    intro j o x hj q hq hd
    have hjk : j < p + r := by have := (List.getElem?_eq_some_iff.1 hj).1; omega
    obtain ⟨o', ho', h1, h2, h3⟩ := hqi q hq
    have hall := List.all_eq_true.1 (List.all_eq_true.1 hso j (List.mem_range.2 hjk)) q.i (by rw [List.mem_range'_1]; exact ⟨h1, h2⟩)
    have e1 : l[j]? = some o := by simpa using hlx j o x hj
    have e2 : l[q.i]? = some o' := by have := hosl _ _ ho'; rwa [show p + (q.i - p) = q.i by omega] at this
    rw [e1, e2] at hall
    simpa [hd, h3] using hall
  have htn : (al.map (·.t)).Nodup := by
    rw [List.Nodup, List.pairwise_map]
    have h1 : al.Pairwise fun x y => x.i ≠ y.i := by have := hnd; rw [List.Nodup, List.pairwise_map] at this; exact this
    refine h1.imp_of_mem fun {x y} hx hy hne he => ?_
    obtain ⟨o, ho, g1, g2, g3⟩ := hqi x hx
    have hj : lx[x.i]? = some (o, AV.any) := by
      rw [hlxe, List.getElem?_append_right (by omega), l1, List.getElem?_map, ho]; rfl
    exact hne (hsole x.i o .any hj y hy (by rw [g3, he]))
  rw [← hlen] at hD
  refine wp_region_any hm ?_
  have ok' : Ok cx n s a { w with drawn := w.drawn + 1 } := by
    have hIw : ∀ b, imm cx w s.H b → imm cx { w with drawn := w.drawn + 1 } s.H b ∧ ({ w with drawn := w.drawn + 1 } : World).heap[b]? = w.heap[b]? := fun b hb => ⟨hb, rfl⟩
    refine ⟨ok.defers, ok.size, fun i => (ok.reps i).mono hIw, ⟨ok.world.nodup, ok.world.keys, fun x hx => (ok.world.mem x hx).mono hIw rfl, ⟨ok.world.ext.os, ok.world.ext.tape, ok.world.ext.output, ok.world.ext.size, ok.world.ext.blk⟩⟩⟩
  have henv0 : envL (fun j => (Array.replicate l.toArray.size false).getD j false) lx 0 s.env = s.env := envL_none _ _ _ fun j _ => getD_rep_false _ _
  have inv0 : DInvA cx n l.toArray lx s.env s.H al (Array.replicate l.toArray.size false) a { w with drawn := w.drawn + 1 } := by
    refine ⟨fun _ => 0, fun q _ hl => (by rw [getD_rep_false] at hl; cases hl), ?_⟩
    have hE : Eo al (Array.replicate l.toArray.size false) (fun _ => 0) = [] := by
      unfold Eo
      rw [List.filter_eq_nil_iff.2 fun q _ => by rw [getD_rep_false]; simp]
      rfl
    rw [hE, List.nil_append]
    refine ⟨by simp, fun j oj _ hl => ?_, fun t _ ht => ?_, ?_⟩
    · rw [getD_rep_false] at hl; cases hl
    · have : t < l.length := by simpa using ht
      simp [this]
    · rw [henv0]; exact ok'
  have hfin : ∀ listed a w, DInvA cx n l.toArray lx s.env s.H al listed a w → (∀ j, j < lx.length → listed.getD j false = true) →
      wpAny P .any l.toArray (fun e a' w' => ∃ s', Q e s' ∧ Ok cx n s' a' w') (l.drop (p + r)).length listed a w := by
    intro listed a w ⟨β, hb, hinv⟩ hall
    have hall2 : ∀ q ∈ al, listed.getD q.i false = true := fun q hq => by
      obtain ⟨_, _, _, h2, _⟩ := hqi q hq
      exact hall q.i (by omega)
    have hE : Eo al listed β = al.map fun q => (β q.i, q.m) := by
      unfold Eo
      rw [List.filter_eq_self.2 fun q hq => hall2 q hq]
    rw [hE] at hinv
    have hn1 := hinv.ok.world.nodup
    rw [List.map_append, List.map_map] at hn1
    obtain ⟨hK, _⟩ := alF_spec os p _ K1 β (by rw [← hal]; exact hn1)
    rw [← hal] at hK
    obtain ⟨e1, he1⟩ : ∃ e1, e1 = envL (fun _ => true) A1 0 s.env := ⟨_, rfl⟩
    rw [← he1] at hK
    have hok : Ok cx n (finS β al ⟨e1, s.H⟩) a w := by
      have hperm := finS_H β al ⟨e1, s.H⟩
      have h0 := hinv.ok.permH hperm.symm
      refine ⟨h0.defers, h0.size, fun t => ?_, h0.world⟩
      have hr := h0.reps t
      rw [look_finS β al _ t htn]
      cases hf : al.find? (fun q => q.t == t) with
      | some q =>
        have hq := List.mem_of_find?_eq_some hf
        have ht : q.t = t := by simpa using List.find?_some hf
        simp only
        rw [← ht, hb q hq (hall2 q hq)]
        exact .lit _
      | none =>
        simp only
        have hx : look (envL (fun j => listed.getD j false) lx 0 s.env) t = look e1 t := by
          have e2 : envL (fun j => listed.getD j false) lx 0 s.env = envL (fun _ => true) lx 0 s.env := envL_ext lx 0 _ fun j _ hj => hall j (by omega)
          rw [e2, hlxe, envL_append, ← he1]
          refine look_anys os _ _ fun o ho hd => ?_
          obtain ⟨j, hj⟩ := List.mem_iff_getElem?.1 ho
          obtain ⟨q, hq, _, _, g3, _⟩ := hops j o hj
          rw [List.find?_eq_none] at hf
          refine hf q hq ?_
          rw [g3] at hd
          simpa using hd
        rw [hx] at hr
        exact hr
    have hwl := rvc_sound (cx := cx) _ _ hK (fun e a' w' => ∃ s', Q e s' ∧ Ok cx n s' a' w') (fun s' a' w' hk ok' => ⟨s', hk, ok'⟩) a w hok
    refine tail_any (k0 := p + r) (by rw [hlen] at hD; exact hD) (l.drop (p + r)) (p + r) listed a w (Nat.le_refl _) (fun j => by simp [List.getElem?_drop]) (by simp; omega) hinv.lsize (fun j hj => ?_) hwl
    by_cases hjk : j < p + r
    · rw [hall j (by omega)]; simp [hjk]
    · have := hinv.tail j (by omega) hj
      rw [getD_bool (by rw [hinv.lsize]; exact hj)] at this
      rw [this]; simp; omega
  have hcount : ((List.range lx.length).filter fun i => !(Array.replicate l.toArray.size false).getD i false).length = p + r := by
    rw [hlen]
    have : ((List.range (p + r)).filter fun i => !(Array.replicate l.toArray.size false).getD i false) = List.range (p + r) := by
      rw [List.filter_eq_self]
      intro j _
      rw [getD_rep_false]
      rfl
    rw [this]; simp
  have := head_any' hD (fun _ _ _ inv => by obtain ⟨_, _, h⟩ := inv; exact h.closed) (fun _ _ _ inv => by obtain ⟨_, _, h⟩ := inv; exact h.lsize) (fun listed a w i X inv hi hik hX => dinvA_step hD hlx hSA hsole hnd inv hi hik hX) hfin (p + r) _ a _ hcount inv0
  have hN : p + r + (l.drop (p + r)).length = l.toArray.size := by simp; omega
  rw [hN] at this
  exact this

def soleM (l : List Oper) (p r : Nat) : Bool :=
  soleA l p r && (List.range' p r).all fun q => match l[q]? with | some ⟨some _, .alloc _, _, _, _, none⟩ => true | _ => false
theorem WP.drawM {id p r : Nat} {l : List Oper} {Q : Exit → St → Prop} {s : St} (hm : P.follows .mixedOrders = true) (hA : soleM l p r = true) (hB : drawB l.toArray (p + r) = true)
    (h : drawAF P n l (Q .normal) p r s) : WP P cx n (.region id l.toArray true) Q s :=
  WP.drawA hm hB (by unfold soleM at hA; rw [Bool.and_eq_true] at hA; exact hA.1) h

def soleQ (l : List Oper) (ia is k : Nat) : Bool :=
  soleB l ia is k && match l[ia]? with
    | some ⟨some t, .alloc _, _, _, _, none⟩ => match l[is]? with
      | some ⟨none, .store _ (.tmp t') _, _, _, _, none⟩ => t == t'
      | _ => false
    | _ => false
theorem WP.drawQ {id k ia is : Nat} {l : List Oper} {Q : Exit → St → Prop} {s : St} (hm : P.follows .mixedOrders = true) (hA : soleQ l ia is k = true) (hB : drawB l.toArray k = true)
    (h : drawF P n l (Q .normal) ia is k s) : WP P cx n (.region id l.toArray true) Q s :=
  WP.drawP hm hB (by unfold soleQ at hA; rw [Bool.and_eq_true] at hA; exact hA.1) h
end
end Go.Proofs.Ytbnkmhlnoaebcaa
