/-
  The walks and the laws that the statement leans on, part 5.
-/
import Derived.Test.YtbnkmhlnoaebcaaZ4
namespace Go.Proofs.Ytbnkmhlnoaebcaa
open Go
set_option linter.unusedSimpArgs false
set_option linter.unusedVariables false
section
variable {P : Program} {cx : Cx} {n : Nat} {ops : Array Oper} {H : Hp}
theorem tail_to {k0 : Nat} (hback : ∀ (i : Nat) oi, ops[i]? = some oi → ∀ e ∈ oi.after, Region.binds .any e = true → e.on < i) (hr : ∀ i, k0 ≤ i → i < ops.size → ∀ j, k0 ≤ j → j < i → reach ops 12 i j = true) {R : Exit → Act → World → Prop} :
    ∀ (l : List Oper) (k : Nat) (listed : Array Bool) (a : Act) (w : World), k0 ≤ k → (∀ j, l[j]? = ops[k + j]?) → k + l.length = ops.size →
    listed.size = ops.size → (∀ j, j < ops.size → listed.getD j false = decide (j < k)) → wpList P ops R l a w → wpAny P .any ops R l.length listed a w
  | [], k, listed, a, w, hk, hl, hsz, hls, hlist, h => by
    refine ⟨?_, h⟩
    refine List.eq_nil_iff_forall_not_mem.2 fun j hj => ?_
    obtain ⟨h1, o, ho, _⟩ := mem_ready.1 hj
    have hjlt : j < ops.size := (Array.getElem?_eq_some_iff.1 ho).1
    have := hlist j hjlt
    rw [getD_bool (by omega), this] at h1
    simp at h1
    simp at hsz
    omega
  | o :: l, k, listed, a, w, hk, hl, hsz, hls, hlist, h => by
    have h0 : ops[k]? = some o := by simpa using (hl 0).symm
    have hklt : k < ops.size := (Array.getElem?_eq_some_iff.1 h0).1
    have hready : k ∈ Region.ready .any ops listed := by
      refine mem_ready.2 ⟨?_, o, h0, fun e he hb => ?_⟩
      · rw [getD_bool (by omega), hlist k hklt]; simp
      · have := hback k o h0 e he hb
        rw [hlist _ (by omega)]; simp; exact this
    refine ⟨fun h1 => (by rw [h1] at hready; cases hready), fun i hi => ?_⟩
    have hik : i = k := by
      obtain ⟨h1, oi, hoi, _⟩ := mem_ready.1 hi
      have hilt : i < ops.size := (Array.getElem?_eq_some_iff.1 hoi).1
      rw [getD_bool (by omega), hlist i hilt] at h1
      simp at h1
      by_cases h2 : i = k
      · exact h2
      · have hcl : Closed ops listed := fun j oj hj hl c hw => by
          obtain ⟨e, he, hb, rfl⟩ := waits_spec hw
          have h3 := hback j oj hj e he hb
          have h4 : j < ops.size := (Array.getElem?_eq_some_iff.1 hj).1
          rw [hlist j h4] at hl
          simp at hl
          rw [hlist _ (by omega)]
          simp; omega
        have := reach_of_ready hcl hi (hr i (by omega) hilt k hk (by omega))
        rw [hlist k hklt] at this
        simp at this
    subst hik
    have hw : wpOp P ops R i (wpList P ops R l) a w := by unfold wpOp; simp only [h0]; exact h
    refine wpOp_mono (fun a' w' h' => tail_to hback hr l (i + 1) _ a' w' (by omega) (fun j => by have := hl (j + 1); simpa [Nat.add_assoc, Nat.add_comm 1 j] using this) (by simp at hsz; omega) (by simp [hls]) (fun j hj => ?_) h') hw
    by_cases hji : j = i
    · subst hji
      have : j < listed.size := by omega
      simp [this]
    · rw [getD_set_ne false (Ne.symm hji), hlist j hj, Bool.eq_iff_iff]
      simp
      omega
/-- A slice written out: what it asks, its block, its value. -/
def mkS (P : Program) (env : List (Nat × AV)) : Op → Option (Prop × MB × Nat)
  | .buildSlice T len parts => match apT P T with
    | some (e, sz, _) => match fillA (plN sz len 0) (List.replicate (len * sz) .any) (ogp env parts.toList).2 with
      | some cs => some ((ogp env parts.toList).1 ∧ len * sz ≤ 16777216, rowMB (elk P T) cs (len * sz) e, len)
      | none => none
    | none => none
  | _ => none
theorem mkS_congr {env env' : List (Nat × AV)} {op : Op} (h : ∀ x ∈ op.operands, opd env x = opd env' x) : mkS P env op = mkS P env' op := by
  cases op <;> try rfl
  rename_i T len parts
  have : ogp env parts.toList = ogp env' parts.toList := ogp_congr fun x hx => h x.2 (by simp [Op.operands]; exact ⟨x.1, by simpa using hx⟩)
  simp only [mkS, this]
theorem mkS_eff {s : St} {o : Oper} {K : St → Prop} {c : Prop} {m : MB} {len : Nat} (h : mkS P s.env o.op = some (c, m, len)) (hc : c) (hk : ∀ b, fresh s.H b → K ⟨(s.put o.dst (ms b 0 len len)).env, (b, m) :: s.H⟩) : eff P o K s := by
  unfold mkS at h
  split at h
  · rename_i T len' parts hop
    split at h
    · rename_i e sz by_ hT
      split at h
      · rename_i cs hcs
        simp only [Option.some.injEq, Prod.mk.injEq] at h
        obtain ⟨rfl, rfl, rfl⟩ := h
        unfold eff
        rw [hop]
        simp only [hT, hcs]
        exact ⟨hc.1, hc.2, ⟨fun b => ⟨fun hf => hk b hf⟩⟩⟩
      · cases h
    · cases h
  · cases h
structure QM where
  ia : Nat
  t : Nat
  len : Nat
  m : MB
def SeqM (P : Program) (cx : Cx) (n : Nat) (ops : Array Oper) (H : Hp) (k : Nat) (lx : List (Oper × AV)) (env : List (Nat × AV)) (q : QM) : Prop :=
  SeqG (fun i o x env => 0 < i → i < k → if i = q.ia then o.guard = none ∧ x = .any ∧ o.dst = some q.t ∧ q.t < n ∧ ∃ c, mkS P env o.op = some (c, q.m, q.len) ∧ c
    else StdyE P cx n ops o env H x) lx env
structure DInvM (cx : Cx) (n : Nat) (ops : Array Oper) (lx : List (Oper × AV)) (env : List (Nat × AV)) (H : Hp) (k : Nat) (q : QM) (listed : Array Bool) (a : Act) (w : World) : Prop where
  lsize : listed.size = ops.size
  closed : Closed ops listed
  zero : listed.getD 0 false = true
  behind : ∀ j, k ≤ j → listed.getD j false = false
  ph : (listed.getD q.ia false = false ∧ DInv cx n ops lx env H listed a w) ∨
    (listed.getD q.ia false = true ∧ ∃ b, fresh H b ∧ a.tmps.getD q.t undef = .slice (some ⟨b, 0, none⟩) q.len q.len ∧ DInv cx n ops lx env ((b, q.m) :: H) listed a w)
theorem dinvM_step {k : Nat} {lx : List (Oper × AV)} {env : List (Nat × AV)} {q : QM} {listed : Array Bool} {a : Act} {w : World} {i : Nat} (hD : DrawOk ops lx.length) (hlx : ∀ (j : Nat) o x, lx[j]? = some (o, x) → ops[j]? = some o)
    (hS : SeqM P cx n ops H k lx env q) (hsole : ∀ j o x, lx[j]? = some (o, x) → j < k → o.dst = some q.t → j = q.ia) (h0 : 0 < q.ia) (hkl : k ≤ lx.length)
    (inv : DInvM cx n ops lx env H k q listed a w) (hi : i ∈ Region.ready .any ops listed) (hik : i < k) {R : Exit → Act → World → Prop} {X : Act → World → Prop}
    (hX : ∀ a' w', DInvM cx n ops lx env H k q (listed.setIfInBounds i true) a' w' → X a' w') : wpOp P ops R i X a w := by
  obtain ⟨⟨o, x⟩, hp⟩ : ∃ p, lx[i] = p := ⟨_, rfl⟩
  have hli : lx[i]? = some (o, x) := by rw [List.getElem?_eq_getElem (by omega), hp]
  have hoi := hlx i o x hli
  have hilt : i < ops.size := (Array.getElem?_eq_some_iff.1 hoi).1
  have hun : listed.getD i false = false := by
    have := (mem_ready.1 hi).1
    rwa [getD_bool (by rw [inv.lsize]; exact hilt)] at this
  have hi0 : 0 < i := by
    apply Classical.byContradiction; intro hn
    have : i = 0 := by omega
    subst this
    rw [inv.zero] at hun; cases hun
  have hSi := hS i o x hli hi0 hik
  have hset : ∀ j, (listed.setIfInBounds i true).getD j false = if j = i then true else listed.getD j false := by
    intro j
    by_cases hji : j = i
    · subst hji
      have : j < listed.size := by rw [inv.lsize]; exact hilt
      simp [this]
    · rw [if_neg hji, getD_set_ne false (Ne.symm hji)]
  have hls : (listed.setIfInBounds i true).size = ops.size := by simp [inv.lsize]
  have hz : (listed.setIfInBounds i true).getD 0 false = true := by rw [hset, if_neg (by omega)]; exact inv.zero
  have hbh : ∀ j, k ≤ j → (listed.setIfInBounds i true).getD j false = false := fun j hj => by rw [hset, if_neg (by omega)]; exact inv.behind j hj
  have hcl := closed_set inv.closed hi
  by_cases hia : i = q.ia
  · rw [if_pos hia] at hSi
    obtain ⟨hg, rfl, hdt, htn, c, hmk, hc⟩ := hSi
    rcases inv.ph with ⟨h1, hinv⟩ | ⟨h1, _⟩
    · have hlook := dinv_look hD hlx hinv hi hli
      have hmk' : mkS P (envL (fun j => listed.getD j false) lx 0 env) o.op = some (c, q.m, q.len) := by
        rw [← hmk]
        refine mkS_congr fun z hz => opd_congr fun t ht => ?_
        subst ht
        exact hlook t (by unfold Oper.looksAt; exact List.mem_append_left _ (List.mem_filterMap.2 ⟨Operand.tmp t, by simpa using hz, rfl⟩))
      have he : eff P o (fun s' => ∃ b, fresh H b ∧ s' = ⟨putE (envL (fun j => listed.getD j false) lx 0 env) o.dst (ms b 0 q.len q.len), (b, q.m) :: H⟩) ⟨envL (fun j => listed.getD j false) lx 0 env, H⟩ :=
        mkS_eff hmk' hc fun b hb => ⟨b, hb, by rw [put_eq]⟩
      unfold wpOp
      rw [hoi]
      simp only
      rw [if_pos (by simp [Region.wanted, hg])]
      refine .inl ?_
      refine eff_sound (cx := cx) (by rw [hdt]; exact htn) he _ _ (fun s' a' w' hs' ok' => ?_) a w hinv.ok
      obtain ⟨b, hb, rfl⟩ := hs'
      refine hX _ _ ⟨hls, hcl, hz, hbh, .inr ⟨by rw [hset, if_pos hia.symm], b, hb, ?_, hls, hcl, fun t ht ht' => ?_, ok'.defers, ok'.size, fun t => ?_, ok'.world⟩⟩
      · have := ok'.reps q.t
        rw [hdt] at this
        simp only [putE, look, if_true] at this
        exact this.lit_inv
      · rw [getD_set_ne true (by omega)]; exact hinv.tail t ht ht'
      · by_cases ht : t = q.t
        · have e : look (envL (fun j => (listed.setIfInBounds i true).getD j false) lx 0 env) t = .any := by
            rw [ht, ← envL_at lx 0 i env o .any hli hdt]
            refine envL_congr lx 0 env env rfl fun j oj xj hj hdj => ?_
            rw [Nat.zero_add, hset]
            by_cases hjk : j < k
            · have hji := hsole j oj xj hj hjk hdj
              rw [if_pos (by omega)]
              simp; omega
            · rw [if_neg (by omega), inv.behind j (by omega)]
              simp; omega
          rw [e]; exact .any _
        · have := ok'.reps t
          rw [hdt] at this
          simp only [putE, look, if_neg ht] at this
          have e : look (envL (fun j => (listed.setIfInBounds i true).getD j false) lx 0 env) t = look (envL (fun j => listed.getD j false) lx 0 env) t := by
            refine envL_congr lx 0 env env rfl fun j oj xj hj hdj => ?_
            rw [Nat.zero_add, hset]
            by_cases hji : j = i
            · subst hji
              rw [hli] at hj
              cases hj
              rw [hdt] at hdj
              exact absurd (Option.some.inj hdj).symm ht
            · rw [if_neg hji]
          rw [e]; exact this
    · rw [hia, h1] at hun; cases hun
  · rw [if_neg hia] at hSi
    have hnt : ∀ v, (a.put o.dst v).tmps.getD q.t undef = a.tmps.getD q.t undef := by
      intro v
      cases hdd : o.dst with
      | none => rfl
      | some d =>
        have : d ≠ q.t := fun h => hia (hsole i o x hli hik (by rw [hdd, h]))
        simp [Act.put, Array.getElem?_setIfInBounds_ne this]
    have e : (listed.setIfInBounds i true).getD q.ia false = listed.getD q.ia false := by rw [hset, if_neg (fun h => hia h.symm)]
    rcases inv.ph with ⟨h1, hinv⟩ | ⟨h1, b, hfr, hb, hinv⟩
    · exact dinv_stepS hD hlx hli (by simpa using hSi [] (by simp)) hinv hi fun v w' hd => hX _ _ ⟨hls, hcl, hz, hbh, .inl ⟨by rw [e]; exact h1, hd⟩⟩
    · exact dinv_stepS hD hlx hli (hSi _ (fresh_one hfr)) hinv hi fun v w' hd => hX _ _ ⟨hls, hcl, hz, hbh, .inr ⟨by rw [e]; exact h1, b, hfr, by rw [hnt]; exact hb, hd⟩⟩
def drawMF (P : Program) (n : Nat) (l : List Oper) (K : St → Prop) (ia k : Nat) (s : St) : Prop :=
  match l with
  | ⟨some d, .move (.tmp x), _, _, _, none⟩ :: l1 => d < n ∧ dvc P n l.toArray (l1.take (ia - 1)) (fun s1 => match l1.drop (ia - 1) with
    | ⟨some t, op, _, _, _, none⟩ :: r => match mkS P s1.env op with
      | some q => t < n ∧ q.1 ∧ dvc P n l.toArray (r.take (k - ia - 1)) (fun s3 => newB s3.H q.2.1 fun b H => rvc P n l.toArray (r.drop (k - ia - 1)) K ⟨(t, ms b 0 q.2.2 q.2.2) :: s3.env, H⟩) ⟨(t, .any) :: s1.env, s1.H⟩
      | none => False
    | _ => False) ⟨(d, look s.env x) :: s.env, s.H⟩
  | _ => False
def firstB (ops : Array Oper) : Bool :=
  match ops[0]? with
  | some o => o.after.all (fun e => !Region.binds .any e) && (List.range ops.size).all fun j => match ops[j]? with
    | some oj => decide (j = 0) || waits oj 0 || o.apart ops oj
    | none => false
  | none => false
def isBS : Option Oper → Bool
  | some o => match o.op with
    | .buildSlice _ _ _ => true
    | _ => false
  | none => false
def isMv : Option Oper → Bool
  | some o => match o.op with
    | .move _ => true
    | _ => false
  | none => false
def tailB (ops : Array Oper) (ia k : Nat) (l : List Oper) : Bool :=
  decide (0 < ia) && decide (ia < k) && decide (k ≤ ops.size) && ((List.range ops.size).all fun i => decide (i < k) || (List.range i).all fun j => decide (j = 0) || reach ops 12 i j) &&
    ((List.range k).all fun j => decide (j = ia) || !((l[j]?).bind (·.dst) == (l[ia]?).bind (·.dst))) &&
    isBS (l[ia]?) && isMv (l[0]?)
theorem WP.drawMk {id ia k : Nat} {l : List Oper} {Q : Exit → St → Prop} {s : St} (hm : P.follows .mixedOrders = true) (hB : drawB l.toArray l.length = true) (hF : firstB l.toArray = true) (hT : tailB l.toArray ia k l = true) (hN : Region.noSelect l.toArray = true)
    (h : drawMF P n l (Q .normal) ia k s) : WP P cx n (.region id l.toArray true) Q s := by
  intro a w ok
  have hD : DrawOk l.toArray l.toArray.size := by have := drawB_spec hB; simpa using this
  unfold tailB at hT
  simp only [Bool.and_eq_true, decide_eq_true_eq] at hT
  obtain ⟨⟨⟨⟨⟨⟨hia0, hiak⟩, hks⟩, hreach⟩, hso⟩, hbs⟩, hmv⟩ := hT
  clear hbs hmv
  have hr : ∀ i, k ≤ i → i < l.toArray.size → ∀ j, 0 < j → j < i → reach l.toArray 12 i j = true := fun i hi his j hj hji => by
    have := List.all_eq_true.1 hreach i (List.mem_range.2 his)
    rw [Bool.or_eq_true] at this
    rcases this with h | h
    · have := of_decide_eq_true h; omega
    · have := List.all_eq_true.1 h j (List.mem_range.2 hji)
      rw [Bool.or_eq_true] at this
      rcases this with h | h
      · have := of_decide_eq_true h; omega
      · exact h
  unfold drawMF at h
  split at h
  case h_2 => exact h.elim
  rename_i d x ty0 p0 af0 l1
  obtain ⟨o0, ho0⟩ : ∃ o0 : Oper, o0 = ⟨some d, .move (.tmp x), ty0, p0, af0, none⟩ := ⟨_, rfl⟩
  rw [← ho0] at h hB hF hks hreach hso hr hD hN ⊢
  obtain ⟨hdn, h⟩ := h
  obtain ⟨xs1, x1, S1, K1⟩ := dvc_seqvE (cx := cx) _ _ h
  simp only at K1 S1
  split at K1
  case h_2 => exact K1.elim
  rename_i t op ty1 p1 af1 r hr1
  split at K1
  case h_2 => exact K1.elim
  rename_i q hmk
  obtain ⟨hq1, hq2, K1⟩ := K1
  obtain ⟨xs3, x3, S3, K3⟩ := dvc_seqvE (cx := cx) _ _ K1
  simp only at K3 S3
  obtain ⟨mk, hmkk⟩ : ∃ mk : Oper, mk = ⟨some t, op, ty1, p1, af1, none⟩ := ⟨_, rfl⟩
  rw [← hmkk] at hr1
  obtain ⟨env0, henv0⟩ : ∃ env0, env0 = (d, look s.env x) :: s.env := ⟨_, rfl⟩
  rw [← henv0] at S1 K1 S3 K3 hmk
  generalize hA1 : (l1.take (ia - 1)).zip xs1 = A1 at S1 K1 S3 K3 hmk
  generalize hA3 : (r.take (k - ia - 1)).zip xs3 = A3 at S3 K3
  have hll : (o0 :: l1).toArray.size = l1.length + 1 := by simp
  have hlr : r.length = l1.length - ia := by have := congrArg List.length hr1; simp at this; omega
  have l1a : A1.length = ia - 1 := by rw [← hA1]; simp [x1]; omega
  have l3a : A3.length = k - ia - 1 := by rw [← hA3]; simp [x3]; omega
  have f1 : A1.map (·.1) = l1.take (ia - 1) := by rw [← hA1]; exact List.map_fst_zip (by omega)
  have f3 : A3.map (·.1) = r.take (k - ia - 1) := by rw [← hA3]; exact List.map_fst_zip (by omega)
  obtain ⟨D, hDD⟩ : ∃ D : List (Oper × AV), D = (r.drop (k - ia - 1)).map fun o => (o, AV.any) := ⟨_, rfl⟩
  have fD : D.map (·.1) = r.drop (k - ia - 1) := by rw [hDD, List.map_map]; exact List.map_id' _
  obtain ⟨lx, hlxe⟩ : ∃ lx, lx = (o0, look s.env x) :: (A1 ++ ((mk, AV.any) :: (A3 ++ D))) := ⟨_, rfl⟩
  have hlxf : lx.map (·.1) = o0 :: l1 := by
    have e1 : l1 = l1.take (ia - 1) ++ l1.drop (ia - 1) := (List.take_append_drop _ _).symm
    have e2 : r = r.take (k - ia - 1) ++ r.drop (k - ia - 1) := (List.take_append_drop _ _).symm
    rw [hlxe]
    simp only [List.map_cons, List.map_append, f1, f3, fD]
    rw [← e2, ← hr1, ← e1]
  have llx : lx.length = (o0 :: l1).toArray.size := by have := congrArg List.length hlxf; simpa using this
  have hlx : ∀ (j : Nat) o x, lx[j]? = some (o, x) → (o0 :: l1).toArray[j]? = some o := by
    intro j o x hj
    have h1 : (lx.map (·.1))[j]? = some o := by rw [List.getElem?_map, hj]; rfl
    rw [hlxf] at h1; simpa using h1
  obtain ⟨pb, hpb⟩ : ∃ pb : QM, pb = ⟨ia, t, q.2.2, q.2.1⟩ := ⟨_, rfl⟩
  have hpia : pb.ia = ia := by rw [hpb]
  have hSP : SeqM P cx n (o0 :: l1).toArray s.H k lx s.env pb := by
    unfold SeqM
    rw [hlxe]
    refine SeqG.cons (fun h => by omega) ?_
    have e0 : putE s.env o0.dst (look s.env x) = env0 := by rw [ho0, henv0]; rfl
    rw [e0]
    refine SeqG.app (fun i o x' hi _ _ => ?_) (SeqG.cons ?_ (SeqG.app (fun i o x' hi _ _ => ?_) (fun i o x' hi _ hlt => ?_)))
    · have hlt := (List.getElem?_eq_some_iff.1 hi).1
      rw [if_neg (by omega)]
      exact S1 i o x' hi
    · intro _ _
      rw [if_pos (by omega)]
      refine ⟨by rw [hmkk], rfl, by rw [hmkk, hpb], by rw [hpb]; exact hq1, q.1, ?_, hq2⟩
      rw [hmkk, hpb]
      exact hmk
    · have hlt := (List.getElem?_eq_some_iff.1 hi).1
      rw [if_neg (by omega)]
      have := S3 i o x' hi
      simp only [hmkk, putE] at this ⊢
      exact this
    · omega
  have hsole : ∀ j o x, lx[j]? = some (o, x) → j < k → o.dst = some pb.t → j = pb.ia := by
    intro j o x' hj hjk hd'
    have h1 := List.all_eq_true.1 hso j (List.mem_range.2 hjk)
    have h2 : (o0 :: l1)[j]? = some o := by simpa using hlx j o x' hj
    have h3 : (o0 :: l1)[ia]? = some mk := by
      have : (l1.drop (ia - 1))[0]? = some mk := by rw [hr1]; rfl
      obtain ⟨ia', rfl⟩ : ∃ ia', ia = ia' + 1 := ⟨ia - 1, by omega⟩
      simpa using this
    rw [h2, h3] at h1
    simp only [Option.bind_some, hd', hpb, hmkk, beq_self_eq_true, Bool.not_true, Bool.or_false, decide_eq_true_eq] at h1
    rw [h1, hpb]
  have hD' : DrawOk (o0 :: l1).toArray lx.length := by rw [llx]; exact hD
  have hsz1 : (o0 :: l1).toArray.size = l1.length + 1 := hll
  have hoi0 : (o0 :: l1).toArray[0]? = some o0 := by simp
  have okw : Ok cx n s a { w with drawn := w.drawn + 1 } := by
    have hIw : ∀ b, imm cx w s.H b → imm cx { w with drawn := w.drawn + 1 } s.H b ∧ ({ w with drawn := w.drawn + 1 } : World).heap[b]? = w.heap[b]? := fun b hb => ⟨hb, rfl⟩
    refine ⟨ok.defers, ok.size, fun i => (ok.reps i).mono hIw, ⟨ok.world.nodup, ok.world.keys, fun x hx => (ok.world.mem x hx).mono hIw rfl, ⟨ok.world.ext.os, ok.world.ext.tape, ok.world.ext.output, ok.world.ext.size, ok.world.ext.blk⟩⟩⟩
  refine Go.wp_mono (wp_region_any (Q := fun e a' w' => e = .normal ∧ ∃ s', Q .normal s' ∧ Ok cx n s' a' w') hm ?_) (fun e a' w' he => by
    obtain ⟨rfl, s', hq, hok⟩ := he; exact ⟨s', hq, hok⟩)
  generalize ({ w with drawn := w.drawn + 1 } : World) = w1 at okw
  clear ok
  have hF' := hF
  unfold firstB at hF'
  rw [hoi0] at hF'
  simp only [Bool.and_eq_true] at hF'
  obtain ⟨hf1, hf2⟩ := hF'
  have hrep : ∀ j, (Array.replicate (o0 :: l1).toArray.size false).getD j false = false := fun j => getD_rep_false _ _
  rw [show (o0 :: l1).toArray.size = l1.length + 1 from hsz1]
  rw [hsz1] at hrep
  have hl0 : ∀ j, ((Array.replicate (l1.length + 1) false).setIfInBounds 0 true).getD j false = decide (j = 0) := by
    intro j
    by_cases hj : j = 0
    · subst hj; simp
    · rw [getD_set_ne false (Ne.symm hj), hrep]; simp [hj]
  refine wpAny_first (ops := (o0 :: l1).toArray) (i := 0) (oi := o0) (v := a.eval (.tmp x)) hoi0 (fun j o cs b hj => Region.noSelect_spec hN j o cs b hj) (fun c a w hp => by cases hp.1) l1.length _ a w1
    (fun j oj hj hj0 _ hno => ?_) (mem_ready.2 ⟨by simp, o0, hoi0, fun e he hb => ?_⟩) ?_ ?_
  · have hjs := (Array.getElem?_eq_some_iff.1 hj).1
    have := List.all_eq_true.1 hf2 j (List.mem_range.2 hjs)
    rw [hj] at this
    simp only [Bool.or_eq_true, decide_eq_true_eq] at this
    rcases this with (h | h) | h
    · exact absurd h hj0
    · obtain ⟨e, he, hb, he0⟩ := waits_spec h
      exact absurd he0 (hno e he hb)
    · exact h
  · have := Array.all_eq_true'.1 hf1 e he
    rw [hb] at this; cases this
  · refine .inl ⟨by rw [ho0]; rfl, fun w' => ?_⟩
    rw [ho0]
    simp [execOp]
  have hput : Ok cx n ⟨env0, s.H⟩ (a.put o0.dst (a.eval (.tmp x))) w1 := by
    have := okw.put (d := some d) hdn (v := a.eval (.tmp x)) (x := look s.env x) (okw.reps x)
    rw [ho0, henv0]
    exact this
  have hcl0 : Closed (o0 :: l1).toArray ((Array.replicate (l1.length + 1) false).setIfInBounds 0 true) := by
    intro j oj hj hl c hw
    rw [hl0] at hl
    have hj0 := of_decide_eq_true hl
    subst hj0
    rw [hoi0] at hj
    cases hj
    obtain ⟨e, he, hb, _⟩ := waits_spec hw
    have := Array.all_eq_true'.1 hf1 e he
    rw [hb] at this; cases this
  have henvl : ∀ f : Nat → Bool, f 0 = true → (∀ j, 0 < j → f j = false) → envL f lx 0 s.env = env0 := by
    intro f h0 h1
    rw [hlxe]
    simp only [envL, h0, if_true]
    rw [envL_none _ _ _ fun j hj => h1 j (by omega), ho0, henv0]
    rfl
  have inv0 : DInvM cx n (o0 :: l1).toArray lx s.env s.H k pb ((Array.replicate (l1.length + 1) false).setIfInBounds 0 true) (a.put o0.dst (a.eval (.tmp x))) w1 := by
    refine ⟨by simp, hcl0, by rw [hl0]; simp, fun j hj => by rw [hl0]; simp; omega, .inl ⟨by rw [hl0, hpia]; simp; omega, by simp, hcl0, fun t ht ht' => by omega, ?_⟩⟩
    rw [henvl _ (by rw [hl0]; simp) (fun j hj => by rw [hl0]; simp; omega)]
    exact hput
  have hcount : ((List.range k).filter fun i => !((Array.replicate (l1.length + 1) false).setIfInBounds 0 true).getD i false).length = k - 1 := by
    have e : (fun i => !((Array.replicate (l1.length + 1) false).setIfInBounds 0 true).getD i false) = fun i => !decide (i ≤ 0) := by funext i; rw [hl0]; simp
    rw [e]
    exact count_gt 0 k
  have := head_to (P := P) (ops := (o0 :: l1).toArray) (k := k) (R := fun e a' w' => e = .normal ∧ ∃ s', Q .normal s' ∧ Ok cx n s' a' w') (g := l1.length + 1 - k) (Inv := DInvM cx n (o0 :: l1).toArray lx s.env s.H k pb) (by omega) hD.back
    (fun li a w inv i hi hri j hj => by
      by_cases hj0 : j = 0
      · subst hj0; exact inv.zero
      · obtain ⟨_, oi, hoi, _⟩ := mem_ready.1 hri
        exact reach_of_ready inv.closed hri (hr i hi (Array.getElem?_eq_some_iff.1 hoi).1 j (by omega) (by omega)))
    (fun _ _ _ inv => inv.closed) (fun _ _ _ inv => inv.lsize)
    (fun li a w i X inv hi hik hX => dinvM_step hD' hlx hSP hsole (by omega) (by omega) inv hi hik hX)
    (fun li a w inv hall => by
      rcases inv.ph with ⟨g1, _⟩ | ⟨_, b, hfr, hb, hinv⟩
      · rw [hpia, hall ia hiak] at g1; cases g1
      · have hli : ∀ j, li.getD j false = decide (j < k) := fun j => by
          by_cases hj : j < k
          · rw [hall j hj, decide_eq_true hj]
          · rw [inv.behind j (by omega), decide_eq_false hj]
        have henv : ∀ t', look (envL (fun j => li.getD j false) lx 0 s.env) t' = look (envL (fun _ => true) A3 0 ((t, AV.any) :: envL (fun _ => true) A1 0 env0)) t' := by
          intro t'
          have e0 : putE s.env o0.dst (look s.env x) = env0 := by rw [ho0, henv0]; rfl
          rw [hlxe]
          simp only [envL, hli]
          rw [if_pos (by simp; omega), e0, envL_append, show A1 = A1 from rfl]
          simp only [envL]
          rw [show 0 + 1 + A1.length = ia by omega, if_pos (by simp; omega), envL_append, envL_none D _ _ (fun j hj => by simp; omega)]
          have e1 : envL (fun j => decide (j < k)) A1 (0 + 1) env0 = envL (fun _ => true) A1 0 env0 := by
            rw [show 0 + 1 = 1 + 0 from rfl, envL_shiftk 1 A1 0]
            exact envL_ext A1 0 _ fun j _ hj => by simp; omega
          rw [e1]
          have e2 : ∀ env, envL (fun j => decide (j < k)) A3 (ia + 1) env = envL (fun _ => true) A3 0 env := fun env => by
            rw [show ia + 1 = (ia + 1) + 0 from rfl, envL_shiftk (ia + 1) A3 0]
            exact envL_ext A3 0 _ fun j _ hj => by simp; omega
          rw [e2, hmkk]
          rfl
        have hok : Ok cx n ⟨(t, ms b 0 q.2.2 q.2.2) :: envL (fun _ => true) A3 0 ((t, AV.any) :: envL (fun _ => true) A1 0 env0), (b, q.2.1) :: s.H⟩ a w := by
          have hpm : pb.m = q.2.1 := by rw [hpb]
          have hpt : pb.t = t := by rw [hpb]
          have hpl : pb.len = q.2.2 := by rw [hpb]
          rw [hpm] at hinv
          rw [hpt, hpl] at hb
          refine ⟨hinv.ok.defers, hinv.ok.size, fun t' => ?_, hinv.ok.world⟩
          simp only [look]
          split
          · rename_i ht
            rw [ht, hb]
            exact .lit _
          · have := hinv.ok.reps t'
            simp only [henv t'] at this
            exact this
        have hK := (K3.out b).out hfr
        have hdrop : r.drop (k - ia - 1) = (o0 :: l1).drop k := by
          obtain ⟨k', rfl⟩ : ∃ k', k = k' + 1 := ⟨k - 1, by omega⟩
          rw [List.drop_succ_cons]
          have : l1.drop k' = (l1.drop (ia - 1)).drop (k' - (ia - 1)) := by rw [List.drop_drop]; congr 1; omega
          rw [this, hr1, show k' - (ia - 1) = (k' + 1 - ia - 1) + 1 by omega, List.drop_succ_cons]
        rw [hdrop] at hK
        have hwl := rvc_sound (cx := cx) _ _ hK (fun e a' w' => e = .normal ∧ ∃ s', Q .normal s' ∧ Ok cx n s' a' w') (fun s' a' w' hk ok' => ⟨rfl, s', hk, ok'⟩) a w hok
        have hdl : ((o0 :: l1).drop k).length = l1.length + 1 - k := by simp
        have := tail_to (k0 := k) hD.back (fun i hi his j hj hji => hr i hi his j (by omega) hji) ((o0 :: l1).drop k) k li a w (Nat.le_refl _) (fun j => by simp [List.getElem?_drop]) (by rw [hdl, hsz1]; omega) inv.lsize (fun j hj => hli j) hwl
        rw [hdl] at this
        exact this)
    (k - 1) _ _ _ hcount inv0
  rw [show k - 1 + (l1.length + 1 - k) = l1.length by omega] at this
  exact this
end
end Go.Proofs.Ytbnkmhlnoaebcaa
namespace Go.Proofs.Ytbnkmhlnoaebcaa
open Go
set_option linter.unusedSimpArgs false
set_option linter.unusedVariables false
section
variable {P : Program} {cx : Cx} {n : Nat} {ops : Array Oper}
/-- A call over blocks of E, of whatever outcome; those of H0 are not lent. -/
def WCt (P : Program) (f : FuncId) (args : List AV) (E H0 : Hp) (post : AV → Hp → Prop) (d : Hd post := .mk) : Prop :=
  ∃ F R p, E.Perm (F ++ R) ∧ ACt P f args F p ∧ ∀ r F', p r F' → (((F' ++ R) ++ H0).map (·.1)).Nodup → post r (F' ++ R)
theorem run_wct {f : FuncId} {args : List AV} {env : List (Nat × AV)} {E H0 : Hp} {post : AV → Hp → Prop} {a : Act} {w : World} {vs : Array Value} (ok : Ok cx n ⟨env, E ++ H0⟩ a w) (h : WCt P f args E H0 post) (hs : vs.size = args.length)
    (hv : ∀ i, i < args.length → Rep w (imm cx w (E ++ H0)) (vs.getD i undef) (args.getD i .any)) :
    CallX P f vs w fun e w' => ∃ v x E', e = .returned v ∧ post x E' ∧ (∀ y ∈ E', fresh H0 y.1) ∧ Rep w' (imm cx w' (E' ++ H0)) v x ∧ OkW cx (E' ++ H0) w' ∧
      ∀ c, imm cx w (E ++ H0) c → imm cx w' (E' ++ H0) c ∧ w'.heap[c]? = w.heap[c]? := by
  obtain ⟨F, R, p, hP0, hct, hpost⟩ := h
  have hP : (E ++ H0).Perm (F ++ (R ++ H0)) := by rw [← List.append_assoc]; exact hP0.append_right H0
  have hw := ok.world.perm hP
  have hIp : ∀ b, imm cx w (E ++ H0) b → imm cx w (F ++ (R ++ H0)) b := fun b hb => (imm_perm hP).1 hb
  have hI : ∀ b, imm cx w (E ++ H0) b → b < w.heap.size ∧ b ∉ F.map (·.1) := fun b hb => ⟨imm_lt hw.ext.size hb, fun hm => by
    obtain ⟨x, hx, he⟩ := List.mem_map.1 hm
    exact imm_key hw.keys (hIp b hb) x (List.mem_append_left _ hx) he⟩
  have hnd := hw.nodup
  rw [List.map_append, List.nodup_append] at hnd
  have := hct ⟨w, imm cx w (E ++ H0), F.map (·.1), hI⟩ vs rfl ⟨hnd.1, fun x hx => .inl (List.mem_map_of_mem hx), fun x hx => (hw.mem x (List.mem_append_left _ hx)).mono (fun b hb => ⟨.inl ((imm_perm hP).2 hb), rfl⟩) rfl,
    ⟨rfl, rfl, rfl, Nat.le_refl _, fun _ _ _ => rfl⟩⟩ hs hv
  refine this.mono ?_
  rintro e w' ⟨v, r, F', he, hp, hw', hr⟩
  obtain ⟨c1, c2, c3⟩ := call_frame hIp hI hw hw'
  rw [show F' ++ (R ++ H0) = F' ++ R ++ H0 from (List.append_assoc ..).symm] at c1 c2 c3
  exact ⟨v, r, F' ++ R, he, hpost r F' hp c1.nodup, fresh_app c1.nodup, hr.mono fun b hb => ⟨c3 b hb, rfl⟩, c1, fun c hc => c2 c (hIp c hc)⟩
theorem effW_call {o : Oper} {env : List (Nat × AV)} {E H0 : Hp} {post : AV → Hp → Prop} {q : Prop × FuncId × List AV} (hc : calleeV env o.op = some q) (hq : q.1) (h : WCt P q.2.1 q.2.2 E H0 post)
    {a : Act} {w : World} {X : Act → World → Prop} {R : Exit → Act → World → Prop} (h1 : a.defers = []) (h2 : a.tmps.size = n) (h3 : OkW cx (E ++ H0) w)
    (h4 : ∀ t ∈ o.looksAt ops, Rep w (imm cx w (E ++ H0)) (a.tmps.getD t undef) (look env t))
    (h5 : ∀ v x E' w', post x E' → (∀ y ∈ E', fresh H0 y.1) → Rep w' (imm cx w' (E' ++ H0)) v x → OkW cx (E' ++ H0) w' → (∀ c, imm cx w (E ++ H0) c → imm cx w' (E' ++ H0) c ∧ w'.heap[c]? = w.heap[c]?) → X (a.put o.dst v) w') : o.wp P a w X R := by
  have ok := ok_renv h1 h2 h3 h4
  have hre := opd_renv (ops := ops) (o := o) (env := env)
  obtain ⟨dst, op, type, pos, after, guard⟩ := o
  simp only at hc h5 hre ok
  unfold calleeV at hc
  split at hc
  · rename_i cl
    obtain ⟨callee, args, ts⟩ := cl
    simp only at hc
    split at hc
    · rename_i f
      simp only [Option.some.injEq] at hc
      subst hc
      simp only at hq h
      have he : ogs env args.toList = ogs (renv env (Oper.looksAt ops ⟨dst, .call ⟨.value (.func f), args, ts⟩, type, pos, after, guard⟩)) args.toList :=
        ogs_congr fun x hx => hre x (by simp [Op.operands, Call.operands]; exact .inr (by simpa using hx))
      rw [he] at hq h
      have hlen := ogs_length (env := renv env (Oper.looksAt ops ⟨dst, .call ⟨.value (.func f), args, ts⟩, type, pos, after, guard⟩)) args.toList
      have := run_wct (vs := args.map a.eval) ok h (by rw [hlen]; simp) (fun i hi => by
        have := ok.ogs hq i (by rw [hlen] at hi; exact hi)
        simpa [List.getD] using this)
      unfold Oper.wp
      have hrun : (execOp a.eval ⟨dst, .call ⟨.value (.func f), args, ts⟩, type, pos, after, guard⟩).run P w = (callFunc f (args.map a.eval)).run P w := by
        simp only [execOp, resolve, Act.eval, Deferred.ofValue, Sem.run_bind, Sem.run_pure, Result.andThen_ok, invoke, Array.append_empty, Array.empty_append]
        try simp
      refine this.upon hrun ?_
      rintro e w' ⟨v, x, E', rfl, hp, hf, hrep, c1, c2⟩
      exact ⟨_, rfl, h5 v x E' w' hp hf hrep c1 c2⟩
    · cases hc
  · cases hc
/-- The call: where in the list, its slot, the blocks that it may be lent, what comes of it. -/
structure QW where
  c : Nat
  t : Nat
  E : Hp
  p : AV → Hp → Prop
def SeqW (P : Program) (cx : Cx) (n : Nat) (ops : Array Oper) (H : Hp) (lx : List (Oper × AV)) (env : List (Nat × AV)) (q : QW) : Prop :=
  SeqG (fun i o x env => if i = q.c then o.guard = none ∧ x = .any ∧ o.dst = some q.t ∧ q.t < n ∧ ∃ g, calleeV env o.op = some g ∧ g.1 ∧ WCt P g.2.1 g.2.2 q.E H q.p
    else StdyE P cx n ops o env H x) lx env
structure DInvW (cx : Cx) (n : Nat) (ops : Array Oper) (lx : List (Oper × AV)) (env : List (Nat × AV)) (H : Hp) (q : QW) (listed : Array Bool) (a : Act) (w : World) : Prop where
  lsize : listed.size = ops.size
  ph : (listed.getD q.c false = false ∧ DInv cx n ops lx env (q.E ++ H) listed a w) ∨
    (listed.getD q.c false = true ∧ ∃ x E', q.p x E' ∧ (∀ y ∈ E', fresh H y.1) ∧ Rep w (imm cx w (E' ++ H)) (a.tmps.getD q.t undef) x ∧ DInv cx n ops lx env (E' ++ H) listed a w)
theorem dinvW_step {H : Hp} {lx : List (Oper × AV)} {env : List (Nat × AV)} {q : QW} {listed : Array Bool} {a : Act} {w : World} {i : Nat} (hD : DrawOk ops lx.length) (hlx : ∀ (j : Nat) o x, lx[j]? = some (o, x) → ops[j]? = some o)
    (hS : SeqW P cx n ops H lx env q) (hsole : ∀ j o x, lx[j]? = some (o, x) → o.dst = some q.t → j = q.c) (hfr : ∀ y ∈ q.E, fresh H y.1)
    (inv : DInvW cx n ops lx env H q listed a w) (hi : i ∈ Region.ready .any ops listed) (hik : i < lx.length) {R : Exit → Act → World → Prop} {X : Act → World → Prop}
    (hX : ∀ a' w', DInvW cx n ops lx env H q (listed.setIfInBounds i true) a' w' → X a' w') : wpOp P ops R i X a w := by
  obtain ⟨⟨o, x⟩, hp⟩ : ∃ p, lx[i] = p := ⟨_, rfl⟩
  have hli : lx[i]? = some (o, x) := by rw [List.getElem?_eq_getElem hik, hp]
  have hoi := hlx i o x hli
  have hSi := hS i o x hli
  have hilt : i < ops.size := (Array.getElem?_eq_some_iff.1 hoi).1
  have hset : ∀ j, (listed.setIfInBounds i true).getD j false = if j = i then true else listed.getD j false := by
    intro j
    by_cases hji : j = i
    · subst hji
      have : j < listed.size := by rw [inv.lsize]; exact hilt
      simp [this]
    · rw [if_neg hji, getD_set_ne false (Ne.symm hji)]
  have hls : (listed.setIfInBounds i true).size = ops.size := by simp [inv.lsize]
  by_cases hic : i = q.c
  · try dsimp only at hSi
    rw [if_pos hic] at hSi
    obtain ⟨hg, rfl, hdt, htn, g, hc, hg1, hct⟩ := hSi
    rcases inv.ph with ⟨h1, hinv⟩ | ⟨h1, _⟩
    · have hlook := dinv_look hD hlx hinv hi hli
      unfold wpOp
      rw [hoi]
      simp only
      rw [if_pos (by simp [Region.wanted, hg])]
      refine .inl ?_
      refine effW_call (ops := ops) hc hg1 hct hinv.ok.defers hinv.ok.size hinv.ok.world (fun t ht => by rw [← hlook t ht]; exact hinv.ok.reps t) fun v x E' w' hp hf hv hw' hI => ?_
      refine hX _ _ ⟨hls, .inr ⟨by rw [hset, if_pos hic.symm], x, E', hp, hf, ?_, ?_⟩⟩
      · rw [hdt]
        have : q.t < a.tmps.size := by rw [hinv.ok.size]; exact htn
        simpa [Act.put, this] using hv
      · exact dinv_put hD hlx hinv hi hli (by rw [hdt]; exact htn) (.any _) hw' hI
    · have := (mem_ready.1 hi).1
      rw [getD_bool (by rw [inv.lsize]; exact hilt), hic, h1] at this
      cases this
  · try dsimp only at hSi
    rw [if_neg hic] at hSi
    have hnt : ∀ v, (a.put o.dst v).tmps.getD q.t undef = a.tmps.getD q.t undef := by
      intro v
      cases hdd : o.dst with
      | none => rfl
      | some d =>
        have : d ≠ q.t := fun h => hic (hsole i o x hli (by rw [hdd, h]))
        simp [Act.put, Array.getElem?_setIfInBounds_ne this]
    rcases inv.ph with ⟨h1, hinv⟩ | ⟨h1, y, E', hp, hf, hr, hinv⟩
    · refine dinv_stepS hD hlx hli (hSi _ hfr) hinv hi fun v w' hd => hX _ _ ⟨hls, .inl ⟨?_, hd⟩⟩
      rw [hset, if_neg (by omega)]; exact h1
    · have hSt := hSi _ hf
      obtain ⟨hdst, hst⟩ := hSt
      have hlook := dinv_look hD hlx hinv hi hli
      unfold wpOp
      rw [hoi]
      simp only
      have := hst a w X R hinv.ok.defers hinv.ok.size hinv.ok.world (fun t ht => by rw [← hlook t ht]; exact hinv.ok.reps t) (fun v w' hv hw' hI =>
        hX _ _ ⟨hls, .inr ⟨by rw [hset, if_neg (by omega)]; exact h1, y, E', hp, hf, by rw [hnt]; exact hr.mono hI, dinv_put hD hlx hinv hi hli hdst hv hw' hI⟩⟩)
      split
      · rename_i hw; rw [if_pos hw] at this; exact .inl this
      · rename_i hw; rw [if_neg hw] at this; exact this
def drawWF (P : Program) (n : Nat) (l : List Oper) (K : St → Prop) (c k : Nat) (bs : List Nat) (s : St) : Prop :=
  match splitH bs s.H with
  | some q => dvc P n l.toArray (l.take c) (fun s1 => match l.drop c with
    | ⟨some t, op, _, _, _, none⟩ :: r => t < n ∧ match calleeV s1.env op with
      | some g => g.1 ∧ dvc P n l.toArray (r.take (k - c - 1)) (fun s3 => WCt P g.2.1 g.2.2 q.1 q.2 fun x E' => rvc P n l.toArray (r.drop (k - c - 1)) K ⟨(t, x) :: s3.env, E' ++ q.2⟩) ⟨(t, .any) :: s1.env, s1.H⟩
      | none => False
    | _ => False) ⟨s.env, q.2⟩
  | none => False
def soleW (l : List Oper) (c k : Nat) : Bool :=
  decide (c < k) && decide (k ≤ l.length) && (List.range k).all fun j => decide (j = c) || !((l[j]?).bind (·.dst) == (l[c]?).bind (·.dst))
theorem WP.drawW {id c k : Nat} {bs : List Nat} {l : List Oper} {Q : Exit → St → Prop} {s : St} (hm : P.follows .mixedOrders = true) (hB : drawB l.toArray k = true) (hA : soleW l c k = true)
    (h : drawWF P n l (Q .normal) c k bs s) : WP P cx n (.region id l.toArray true) Q s := by
  intro a w ok0
  have hD := drawB_spec hB
  unfold soleW at hA
  simp only [Bool.and_eq_true, decide_eq_true_eq] at hA
  obtain ⟨⟨hck, hkl⟩, hso⟩ := hA
  unfold drawWF at h
  split at h
  case h_2 => exact h.elim
  rename_i sp hsp
  obtain ⟨E0, H0⟩ := sp
  have hperm := splitH_perm hsp
  simp only at h hperm
  have ok : Ok cx n ⟨s.env, E0 ++ H0⟩ a w := Ok.permH hperm ok0
  have hfr : ∀ y ∈ E0, fresh H0 y.1 := fresh_app ok.world.nodup
  obtain ⟨xs2, x2, S2, K2⟩ := dvc_seqvE (cx := cx) _ _ h
  simp only at K2 S2
  split at K2
  case h_2 => exact K2.elim
  rename_i t op ty2 p2 af2 q hq
  obtain ⟨htn, K2⟩ := K2
  split at K2
  case h_2 => exact K2.elim
  rename_i g hg
  obtain ⟨hg1, K2⟩ := K2
  obtain ⟨xs3, x3, S3, K3⟩ := dvc_seqvE (cx := cx) _ _ K2
  simp only at K3 S3
  obtain ⟨st, hst⟩ : ∃ st : Oper, st = ⟨some t, op, ty2, p2, af2, none⟩ := ⟨_, rfl⟩
  rw [← hst] at hq
  generalize hA2 : (l.take c).zip xs2 = A2 at S2 hg K2 K3 S3
  generalize hA3 : (q.take (k - c - 1)).zip xs3 = A3 at S3 K3
  have hlq : q.length = l.length - c - 1 := by have := congrArg List.length hq; simp at this; omega
  have l2 : A2.length = c := by rw [← hA2]; simp [x2]; omega
  have l3 : A3.length = k - c - 1 := by rw [← hA3]; simp [x3]; omega
  have f2 : A2.map (·.1) = l.take c := by rw [← hA2]; exact List.map_fst_zip (by omega)
  have f3 : A3.map (·.1) = q.take (k - c - 1) := by rw [← hA3]; exact List.map_fst_zip (by omega)
  obtain ⟨lx, hlxe⟩ : ∃ lx, lx = A2 ++ ([(st, AV.any)] ++ A3) := ⟨_, rfl⟩
  have hfst : lx.map (·.1) = l.take k := by
    have e1 : l.take k = l.take c ++ (l.drop c).take (k - c) := by rw [← List.take_add]; congr 1; omega
    have e4 : (st :: q).take (k - c) = st :: q.take (k - c - 1) := by rw [show k - c = (k - c - 1) + 1 by omega]; rfl
    rw [e1, hq, e4, hlxe]
    simp [f2, f3]
  have hlen : lx.length = k := by have := congrArg List.length hfst; simp at this; omega
  have hlx : ∀ (j : Nat) o x, lx[j]? = some (o, x) → l.toArray[j]? = some o := by
    intro j o x hj
    have h1 : (lx.map (·.1))[j]? = some o := by rw [List.getElem?_map, hj]; rfl
    rw [hfst, List.getElem?_take] at h1
    split at h1
    · simpa using h1
    · cases h1
  have hdrop : q.drop (k - c - 1) = l.drop k := by
    have e1 : l.drop k = (l.drop c).drop (k - c) := by rw [List.drop_drop]; congr 1; omega
    have e4 : (st :: q).drop (k - c) = q.drop (k - c - 1) := by rw [show k - c = (k - c - 1) + 1 by omega]; rfl
    rw [e1, hq, e4]
  obtain ⟨env3, henv3⟩ : ∃ e, e = envL (fun _ => true) A3 0 ((t, AV.any) :: envL (fun _ => true) A2 0 s.env) := ⟨_, rfl⟩
  have henvA : envL (fun _ => true) lx 0 s.env = env3 := by
    rw [hlxe, envL_append, envL_append, Nat.zero_add, henv3]
    simp only [envL, if_true, hst, putE]
    rw [show A2.length + [(({ dst := some t, op := op, type := ty2, pos := p2, after := af2, guard := none } : Oper), AV.any)].length = A2.length + 1 + 0 from rfl, envL_shiftk (A2.length + 1) A3 0]
  rw [← henv3] at K3
  obtain ⟨pb, hpb⟩ : ∃ pb : QW, pb = ⟨c, t, E0, fun x E' => rvc P n l.toArray (q.drop (k - c - 1)) (Q .normal) ⟨(t, x) :: env3, E' ++ H0⟩⟩ := ⟨_, rfl⟩
  have hSP : SeqW P cx n l.toArray H0 lx s.env pb := by
    unfold SeqW
    rw [hlxe]
    refine SeqG.app (fun i o x hi => ?_) (SeqG.app (SeqG.one ?_) fun i o x hi => ?_)
    · have hlt := (List.getElem?_eq_some_iff.1 hi).1
      try dsimp only
      rw [if_neg (by rw [hpb]; simp only; omega)]
      exact S2 i o x hi
    · try dsimp only
      rw [if_pos (by rw [hpb]; simp only; omega), hpb, hst]
      exact ⟨rfl, rfl, rfl, htn, g, hg, hg1, K3⟩
    · have hlt := (List.getElem?_eq_some_iff.1 hi).1
      try dsimp only
      rw [if_neg (by rw [hpb]; simp; omega)]
      have := S3 i o x hi
      simp only [envL, if_true, hst, putE] at this ⊢
      exact this
  have hlc : l[c]? = some st := by
    have : (l.drop c)[0]? = some st := by rw [hq]; rfl
    simpa using this
  have hpc : pb.c = c := by rw [hpb]
  have hpt : pb.t = t := by rw [hpb]
  have hpE : pb.E = E0 := by rw [hpb]
  have hsole : ∀ j o x, lx[j]? = some (o, x) → o.dst = some pb.t → j = pb.c := by
    intro j o x hj hd
    rw [hpt] at hd
    rw [hpc]
    have hjk : j < k := by have := (List.getElem?_eq_some_iff.1 hj).1; omega
    have h1 := List.all_eq_true.1 hso j (List.mem_range.2 hjk)
    have h2 : l[j]? = some o := by simpa using hlx j o x hj
    rw [h2, hlc] at h1
    simp [hd, hst] at h1
    exact h1
  rw [← hlen] at hD
  refine wp_region_any hm ?_
  have ok' : Ok cx n ⟨s.env, E0 ++ H0⟩ a { w with drawn := w.drawn + 1 } := by
    have hIw : ∀ c, imm cx w (E0 ++ H0) c → imm cx { w with drawn := w.drawn + 1 } (E0 ++ H0) c ∧ ({ w with drawn := w.drawn + 1 } : World).heap[c]? = w.heap[c]? := fun c hc => ⟨hc, rfl⟩
    refine ⟨ok.defers, ok.size, fun i => (ok.reps i).mono hIw, ⟨ok.world.nodup, ok.world.keys, fun x hx => (ok.world.mem x hx).mono hIw rfl, ⟨ok.world.ext.os, ok.world.ext.tape, ok.world.ext.output, ok.world.ext.size, ok.world.ext.blk⟩⟩⟩
  have henv0 : envL (fun j => (Array.replicate l.toArray.size false).getD j false) lx 0 s.env = s.env := envL_none _ _ _ fun j _ => getD_rep_false _ _
  have inv0 : DInvW cx n l.toArray lx s.env H0 pb (Array.replicate l.toArray.size false) a { w with drawn := w.drawn + 1 } := by
    refine ⟨by simp, .inl ⟨getD_rep_false _ _, ⟨by simp, fun j oj _ hl => ?_, fun t _ ht => ?_, ?_⟩⟩⟩
    · rw [getD_rep_false] at hl; cases hl
    · have : t < l.length := by simpa using ht
      simp [this]
    · rw [henv0, hpE]; exact ok'
  have hcl : ∀ listed a w, DInvW cx n l.toArray lx s.env H0 pb listed a w → Closed l.toArray listed := by
    intro listed a w inv
    rcases inv.ph with ⟨_, hinv⟩ | ⟨_, _, _, _, _, _, hinv⟩
    · exact hinv.closed
    · exact hinv.closed
  have hfin : ∀ listed a w, DInvW cx n l.toArray lx s.env H0 pb listed a w → (∀ j, j < lx.length → listed.getD j false = true) →
      wpAny P .any l.toArray (fun e a' w' => ∃ s', Q e s' ∧ Ok cx n s' a' w') (l.drop k).length listed a w := by
    intro listed a w inv hall
    rcases inv.ph with ⟨h1, _⟩ | ⟨h1, x, E', hp, hf, hr, hinv⟩
    · rw [hpc, hall c (by omega)] at h1; cases h1
    have henv : ∀ t, look (envL (fun j => listed.getD j false) lx 0 s.env) t = look env3 t := by
      intro t
      have e1 : envL (fun j => listed.getD j false) lx 0 s.env = envL (fun _ => true) lx 0 s.env := envL_ext lx 0 _ fun j _ hj => hall j (by omega)
      rw [e1, henvA]
    have hok : Ok cx n ⟨(t, x) :: env3, E' ++ H0⟩ a w := by
      refine ⟨hinv.ok.defers, hinv.ok.size, fun u => ?_, hinv.ok.world⟩
      by_cases hut : u = t
      · subst hut
        simp only [look, if_true]
        rw [hpt] at hr
        exact hr
      · simp only [look, if_neg hut]
        have := hinv.ok.reps u
        simp only [henv u] at this
        exact this
    rw [hpb] at hp
    simp only at hp
    rw [hdrop] at hp
    have hwl := rvc_sound (cx := cx) _ _ hp (fun e a' w' => ∃ s', Q e s' ∧ Ok cx n s' a' w') (fun s' a' w' hk ok' => ⟨s', hk, ok'⟩) a w hok
    refine tail_any (k0 := k) (by rw [hlen] at hD; exact hD) (l.drop k) k listed a w (Nat.le_refl _) (fun j => by simp [List.getElem?_drop]) (by simp; omega) inv.lsize (fun j hj => ?_) hwl
    by_cases hjk : j < k
    · rw [hall j (by omega)]; simp [hjk]
    · have := hinv.tail j (by omega) hj
      rw [getD_bool (by rw [inv.lsize]; exact hj)] at this
      rw [this]; simp; omega
  have hcount : ((List.range lx.length).filter fun i => !(Array.replicate l.toArray.size false).getD i false).length = k := by
    rw [hlen]
    have : ((List.range k).filter fun i => !(Array.replicate l.toArray.size false).getD i false) = List.range k := by
      rw [List.filter_eq_self]
      intro j _
      rw [getD_rep_false]
      rfl
    rw [this]; simp
  have := head_any' hD hcl (fun _ _ _ inv => inv.lsize) (fun listed a w i X inv hi hik hX => dinvW_step hD hlx hSP hsole (by rw [hpE]; exact hfr) inv hi hik hX) hfin k _ a _ hcount inv0
  have hN : k + (l.drop k).length = l.toArray.size := by simp; omega
  rw [hN] at this
  exact this
theorem WCt.row {f : FuncId} {args : List AV} {E H0 : Hp} {b : Nat} {m : MB} {k : IntKind} {ty : TypeId} {zs : List Int} {post : AV → Hp → Prop} (hg : hget E b = some m) (h : ACt P f args [(b, m)] (Row k ty zs))
    (hp : Nu fun b' => Nu fun cap' => Fr (zs.length ≤ cap' ∧ cap' ≤ maxLen ∧ fresh (hdel E b ++ H0) b') (post (ms b' 0 zs.length cap') ((b', .zs k zs cap' ty) :: hdel E b))) : WCt P f args E H0 post := by
  refine ⟨[(b, m)], hdel E b, _, hget_perm hg, h, ?_⟩
  rintro r F' ⟨b', cap', h1, h2, rfl, rfl⟩ hn
  exact ((hp.out b').out cap').out ⟨h1, h2, fresh_of_nodup hn⟩
theorem WCt.mkrow {f : FuncId} {args : List AV} {E H0 : Hp} {k : IntKind} {ty : TypeId} {zs : List Int} {post : AV → Hp → Prop} (h : ACt P f args [] (Row k ty zs))
    (hp : Nu fun b' => Nu fun cap' => Fr (zs.length ≤ cap' ∧ cap' ≤ maxLen ∧ fresh (E ++ H0) b') (post (ms b' 0 zs.length cap') ((b', .zs k zs cap' ty) :: E))) : WCt P f args E H0 post := by
  refine ⟨[], E, _, by simp, h, ?_⟩
  rintro r F' ⟨b', cap', h1, h2, rfl, rfl⟩ hn
  exact ((hp.out b').out cap').out ⟨h1, h2, fresh_of_nodup hn⟩
/-- A new row, handed back as one that nobody writes any more. -/
theorem ACt.fz {f : FuncId} {args : List AV} {F F0 : Hp} {k : IntKind} {ty : TypeId} {zs : List Int}
    (h : ACt P f args F (fun r F' => ∃ q : {p : Nat × Nat // zs.length ≤ p.2 ∧ p.2 ≤ 9223372036854775807}, r = ms q.1.1 0 zs.length q.1.2 ∧ F' = (q.1.1, .zs k zs q.1.2 ty) :: F0)) :
    ACt P f args F (fun r F' => r = .slz k zs ∧ F' = F0) := by
  intro cx vs h1 h2 h3 h4
  refine (h cx vs h1 h2 h3 h4).mono ?_
  rintro e w' ⟨v, r, F', he, ⟨q, rfl, rfl⟩, hw, hr⟩
  have hv := hr.lit_inv
  have hp : OkW cx (F0 ++ [(q.1.1, .zs k zs q.1.2 ty)]) w' := hw.perm (List.perm_append_comm (l₁ := [(q.1.1, MB.zs k zs q.1.2 ty)]))
  obtain ⟨d1, d2⟩ := hp.drop
  refine ⟨v, _, F0, he, ⟨rfl, rfl⟩, d1, ?_⟩
  rw [hv]
  have hm := hw.mem _ (List.mem_cons_self ..)
  have hlt := hm.lt
  obtain ⟨cur, e1, e2, e3, e4⟩ := hm
  have hn := hw.nodup
  simp only [List.map_cons, List.nodup_cons] at hn
  refine .slz _ _ _ _ q.2.1 (by rw [maxLen_eq]; exact q.2.2) (.inr ⟨q.1.1, 0, rfl, .inr ⟨hw.keys _ (List.mem_cons_self ..), hlt, fun x hx he => hn.1 (List.mem_map.2 ⟨x, hx, he⟩)⟩, fun i hi => ?_⟩)
  rw [Nat.zero_add, cell_of_block e1, e4 i hi]
end
end Go.Proofs.Ytbnkmhlnoaebcaa
namespace Go.Proofs.Ytbnkmhlnoaebcaa
open Go
set_option linter.unusedVariables false
set_option linter.unusedSimpArgs false
theorem TFRgA : (((((type_of% tyc0) ∧ ((type_of% tyc2) ∧ (type_of% zmb2))) ∧ ((type_of% tyc3) ∧ ((type_of% zmb3) ∧ (type_of% tyc4)))) ∧ (((type_of% zmb4) ∧ ((type_of% tyc23) ∧ (type_of% zmb23))) ∧ (((type_of% tyc41) ∧ (type_of% zmb41)) ∧ ((type_of% tyc43) ∧ (type_of% foff43_0))))) ∧ ((((type_of% fpart43_0) ∧ ((type_of% foff43_1) ∧ (type_of% fpart43_1))) ∧ ((type_of% fe43) ∧ ((type_of% zmb43) ∧ (type_of% bldT43)))) ∧ (((type_of% Try.underlying0) ∧ ((type_of% Try.underlying2) ∧ (type_of% Try.underlying3))) ∧ (((type_of% Try.underlying4) ∧ (type_of% Try.underlying23)) ∧ ((type_of% Try.underlying41) ∧ (type_of% Try.underlying43)))))) :=
  ⟨⟨⟨⟨tyc0, ⟨tyc2, zmb2⟩⟩, ⟨tyc3, ⟨zmb3, tyc4⟩⟩⟩, ⟨⟨zmb4, ⟨tyc23, zmb23⟩⟩, ⟨⟨tyc41, zmb41⟩, ⟨tyc43, foff43_0⟩⟩⟩⟩, ⟨⟨⟨fpart43_0, ⟨foff43_1, fpart43_1⟩⟩, ⟨fe43, ⟨zmb43, bldT43⟩⟩⟩, ⟨⟨Try.underlying0, ⟨Try.underlying2, Try.underlying3⟩⟩, ⟨⟨Try.underlying4, Try.underlying23⟩, ⟨Try.underlying41, Try.underlying43⟩⟩⟩⟩⟩
abbrev nu (n : Nat) : AV := iv .u64 (n : Int)
theorem wrap_i64_nat {n : Nat} (h : n ≤ 9223372036854775807) : IntKind.i64.wrap (n : Int) = (n : Int) := wrap_i64 (by omega) (by omega)
theorem wrap_u64_nat {n : Nat} (h : n < 18446744073709551616) : IntKind.u64.wrap (n : Int) = (n : Int) := wrap_u64 (by omega) (by omega)
/-- the greatest up to j that divides q -/
def dn (q : Nat) : Nat → Nat
  | 0 => 1
  | j + 1 => if q % (j + 1) = 0 then j + 1 else dn q j
theorem dn_pos (q : Nat) : ∀ j, 1 ≤ dn q j
  | 0 => by simp [dn]
  | j + 1 => by unfold dn; split; omega; exact dn_pos q j
theorem dn_le (q : Nat) : ∀ j, 1 ≤ j → dn q j ≤ j
  | 0, h => by omega
  | j + 1, _ => by
    unfold dn; split
    · omega
    · by_cases hj : j = 0
      · subst hj; simp [dn]
      · have := dn_le q j (by omega); omega
theorem dn_mod (q : Nat) : ∀ j, q % dn q j = 0
  | 0 => by simp [dn]; omega
  | j + 1 => by unfold dn; split; assumption; exact dn_mod q j
def goP (W G : Int) : Prop := 1 ≤ G ∧ G ≤ 86400 ∧ 1 ≤ W ∧ W ≤ 34560000 ∧ W.tmod G = 0
abbrev bkN (W G : Nat) : Nat := dn (W / G) 60
structure GoOk (W G k w : Nat) : Prop where
  g1 : 1 ≤ G
  g2 : G ≤ 86400
  w1 : 1 ≤ W
  w2 : W ≤ 34560000
  mod : W % G = 0
  hk : k = bkN W G
  k1 : 1 ≤ k
  k2 : k ≤ 60
  hw : w = W / k
  kw : k * w = W
  wg : w % G = 0
  w0 : 1 ≤ w
theorem goOk {W G : Nat} (h : goP W G) : GoOk W G (bkN W G) (W / bkN W G) := by
  obtain ⟨h1, h2, h3, h4, h5⟩ := h
  have hm : W % G = 0 := by rw [Int.tmod_eq_emod_of_nonneg (by omega)] at h5; exact_mod_cast h5
  have hk := dn_mod (W / G) 60
  have k1 := dn_pos (W / G) 60
  have k2 := dn_le (W / G) 60 (by omega)
  obtain ⟨k, hk0⟩ : ∃ k, k = dn (W / G) 60 := ⟨_, rfl⟩
  rw [← hk0] at hk k1 k2
  obtain ⟨a, ha⟩ : ∃ a, W = G * a := ⟨W / G, by have := Nat.div_add_mod W G; rw [hm] at this; omega⟩
  have hWG : W / G = a := by rw [ha]; exact Nat.mul_div_cancel_left _ (by omega)
  rw [hWG] at hk
  obtain ⟨c, hc⟩ : ∃ c, a = k * c := ⟨a / k, by have := Nat.div_add_mod a k; rw [hk] at this; omega⟩
  have hWk : W / k = G * c := by rw [ha, hc, show G * (k * c) = k * (G * c) by rw [Nat.mul_left_comm]]; exact Nat.mul_div_cancel_left _ (by omega)
  have hkw : k * (W / k) = W := by rw [hWk, ha, hc, Nat.mul_left_comm]
  have : 1 ≤ W / k := by
    apply Classical.byContradiction; intro h0
    have : W / k = 0 := by omega
    rw [this] at hkw; omega
  show GoOk W G (dn (W / G) 60) (W / dn (W / G) 60)
  rw [← hk0]
  exact ⟨by omega, by omega, by omega, by omega, hm, hk0, k1, k2, rfl, hkw, by rw [hWk]; exact Nat.mul_mod_right _ _, this⟩
theorem tick_ct (n : Int) : ACt Try.prog 36 [iv .i64 n] [] (Fn (bv (decide (n ≥ 0) && decide (n ≤ 253402300799)))) := by
  refine ACt.intro Try.func36 rfl (by kernel_rfl) (by simp [Try.ntmps36]) (fun cx => ?_)
  simp only [argE, Try.ntmps36, Try.results36]
  first | (have FRx := FR; clear FRx) | (have FR : ¬ ((1 : Nat) = 0) := Nat.one_ne_zero)
  repeat' first
    | (refine Sm.mk ?_; try simp -dsimp only [ZK, rvc, drawF, headN, pureH, stp, dvc, calleeOf, gcall, pev, eff, newB, okd, og, ogs, ogo, ogp, slv, bltv, opd, litv, strip, one, both, putE, St.put, look, gdOf, gdv, picka, pickv, pickw, binv, bini, bins, binb, binp, bina, shp, eqCells, unv, convv, nilv, faddv, addp, idxav, idxp, load1, load1m, loadn, loadnm, loadv, hget, hset, hrep, hdel, slicev, bnd, shift1, lenv, IntKind.bits, extractv, fieldv, indexv, min2v, max2v, mkiv, cellsA, fillA, buildv, stC, oneC, rowMB, intsA, plN, appE, appZ, appC, appNZ, appNC, VwL, srcC, srcZ, srcM, isBoolT, isPtrT, isSliceT, uOk, Value.oneCell', Nat.reducePow, Int.reducePow, Nat.reduceAdd, Nat.reduceMul, Nat.reduceSub, Nat.reduceLT, Nat.reduceLeDiff, Nat.reduceEqDiff, Nat.reduceBEq, Nat.reduceDiv, Nat.reduceMod, ↓reduceIte, reduceCtorEq, Int.reduceToNat, Int.reduceLT, Int.reduceLE, TFRgA, SeqQ, BlkQ, LoopQ, BodyQ, FR])
    | (refine WP.seq fun K hK => ?_)
    | (refine WP.region (rvc_sound _ _ (Sm.out ?_)))
    | (refine WP.drawK rfl mixed (by decide +kernel) (Sm.out ?_))
    | (refine Ob.mk ?_; focus (first | assumption | omega | decide | trivial | (intro hob; simp only [hob, ZF]; done) | (intros; (repeat' refine And.intro ?_ ?_) <;> first | assumption | omega | trivial | decide) | (intros; simp only [ZE] at *; (repeat' refine And.intro ?_ ?_) <;> first | assumption | omega | trivial)))
    | (refine And.intro (Ob.out ?_) ?_)
    | (refine WP.block ?_)
    | (refine WP.cond rfl (fun hc => ?_) (fun hc => ?_) <;> (try simp only [ZC, reduceCtorEq, ZD] at hc) <;> (try (exact absurd hc (by decide))) <;> (try (exfalso; omega)))
    | ((first | refine WP.skip ?_ | refine WP.exit ?_); simp only [SeqQ, BlkQ, LoopQ, BodyQ, ↓reduceIte, Nat.reduceEqDiff, reduceCtorEq, look, true_and])
    | (refine WP.ret (Sm.out ?_))
    | (first | refine ExG.no (Sm.out ?_) | refine Or.inl (ExG.no (Sm.out ?_)) | refine Or.inl (And.intro (fun hg => absurd hg (by decide)) (ExG.no (Sm.out ?_))))
    | (refine Rt.mk ?_; refine And.intro ?_ ?_ <;> (intro hg; first | exact absurd hg (by decide) | refine Sm.out ?_))
    | (refine Nu.mk ?_; first | (fail_if_success (have := nb1)); intro nb1 | (fail_if_success (have := nb2)); intro nb2 | (fail_if_success (have := nb3)); intro nb3 | intro nbz)
    | (refine Fr.mk ?_; intro hfr; replace FR := And.intro hfr FR; clear hfr; refine Sm.out ?_)
    | (refine Two.mk ?_ ?_)
    | (refine Cs.mk ?_; intro hcs; first | exact False.elim hcs | (exfalso; omega) | (refine Sm.out ?_))
    | (refine OutQ.all ?_ ?_; (focus (simp only [resv, ZK, look, loadv, loadn, loadnm, load1, load1m, hget, ↓reduceIte, Nat.reduceEqDiff, Nat.reduceAdd, Nat.reduceMul, Nat.reduceLeDiff, Nat.reduceLT, reduceCtorEq, TFRgA, FR])); (try simp only [resv, resA, Fn, ZK, look, loadv, loadn, loadnm, load1, load1m, hget, ↓reduceIte, Nat.reduceEqDiff, Nat.reduceAdd, Nat.reduceMul, Nat.reduceLeDiff, Nat.reduceLT, reduceCtorEq, TFRgA, FR]); (try simp [resA, Fn, look, FR]); done)
    | go_step
    | omega
    | (simp only [maxLen_eq]; omega)
theorem Tick_ct (n : Int) : ACt Try.prog 43 [iv .i64 n] [] (Fn (bv (decide (n ≥ 0) && decide (n ≤ 253402300799)))) := by
  refine ACt.intro Try.func43 rfl (by kernel_rfl) (by simp [Try.ntmps43]) (fun cx => ?_)
  simp only [argE, Try.ntmps43, Try.results43]
  first | (have FRx := FR; clear FRx) | (have FR : ¬ ((1 : Nat) = 0) := Nat.one_ne_zero)
  repeat' first
    | (refine Sm.mk ?_; try simp -dsimp only [ZK, rvc, drawF, headN, pureH, stp, dvc, calleeOf, gcall, pev, eff, newB, okd, og, ogs, ogo, ogp, slv, bltv, opd, litv, strip, one, both, putE, St.put, look, gdOf, gdv, picka, pickv, pickw, binv, bini, bins, binb, binp, bina, shp, eqCells, unv, convv, nilv, faddv, addp, idxav, idxp, load1, load1m, loadn, loadnm, loadv, hget, hset, hrep, hdel, slicev, bnd, shift1, lenv, IntKind.bits, extractv, fieldv, indexv, min2v, max2v, mkiv, cellsA, fillA, buildv, stC, oneC, rowMB, intsA, plN, appE, appZ, appC, appNZ, appNC, VwL, srcC, srcZ, srcM, isBoolT, isPtrT, isSliceT, uOk, Value.oneCell', Nat.reducePow, Int.reducePow, Nat.reduceAdd, Nat.reduceMul, Nat.reduceSub, Nat.reduceLT, Nat.reduceLeDiff, Nat.reduceEqDiff, Nat.reduceBEq, Nat.reduceDiv, Nat.reduceMod, ↓reduceIte, reduceCtorEq, Int.reduceToNat, Int.reduceLT, Int.reduceLE, TFRgA, SeqQ, BlkQ, LoopQ, BodyQ, FR])
    | (refine WP.seq fun K hK => ?_)
    | (refine WP.region (rvc_sound _ _ (Sm.out ?_)))
    | (refine WP.drawK rfl mixed (by decide +kernel) (Sm.out ?_))
    | (refine Ob.mk ?_; focus (first | assumption | omega | decide | trivial | (intro hob; simp only [hob, ZF]; done) | (intros; (repeat' refine And.intro ?_ ?_) <;> first | assumption | omega | trivial | decide) | (intros; simp only [ZE] at *; (repeat' refine And.intro ?_ ?_) <;> first | assumption | omega | trivial)))
    | (refine And.intro (Ob.out ?_) ?_)
    | (refine WP.block ?_)
    | (refine WP.cond rfl (fun hc => ?_) (fun hc => ?_) <;> (try simp only [ZC, reduceCtorEq, ZD] at hc) <;> (try (exact absurd hc (by decide))) <;> (try (exfalso; omega)))
    | ((first | refine WP.skip ?_ | refine WP.exit ?_); simp only [SeqQ, BlkQ, LoopQ, BodyQ, ↓reduceIte, Nat.reduceEqDiff, reduceCtorEq, look, true_and])
    | (refine WP.ret (Sm.out ?_))
    | (first | refine ExG.no (Sm.out ?_) | refine Or.inl (ExG.no (Sm.out ?_)) | refine Or.inl (And.intro (fun hg => absurd hg (by decide)) (ExG.no (Sm.out ?_))))
    | (refine Rt.mk ?_; refine And.intro ?_ ?_ <;> (intro hg; first | exact absurd hg (by decide) | refine Sm.out ?_))
    | (refine Nu.mk ?_; first | (fail_if_success (have := nb1)); intro nb1 | (fail_if_success (have := nb2)); intro nb2 | (fail_if_success (have := nb3)); intro nb3 | intro nbz)
    | (refine Fr.mk ?_; intro hfr; replace FR := And.intro hfr FR; clear hfr; refine Sm.out ?_)
    | (refine Two.mk ?_ ?_)
    | (refine Cs.mk ?_; intro hcs; first | exact False.elim hcs | (exfalso; omega) | (refine Sm.out ?_))
    | (refine OutQ.all ?_ ?_; (focus (simp only [resv, ZK, look, loadv, loadn, loadnm, load1, load1m, hget, ↓reduceIte, Nat.reduceEqDiff, Nat.reduceAdd, Nat.reduceMul, Nat.reduceLeDiff, Nat.reduceLT, reduceCtorEq, TFRgA, FR])); (try simp only [resv, resA, Fn, ZK, look, loadv, loadn, loadnm, load1, load1m, hget, ↓reduceIte, Nat.reduceEqDiff, Nat.reduceAdd, Nat.reduceMul, Nat.reduceLeDiff, Nat.reduceLT, reduceCtorEq, TFRgA, FR]); (try simp [resA, Fn, look, FR]); done)
    | go_step
    | omega
    | (simp only [maxLen_eq]; omega)
abbrev cnt (g t : Nat) : AV := .agg [nu g, nu t]
theorem right_ct (g t : Nat) : ACt Try.prog 37 [cnt g t] [] (Fn (bv (decide (g ≤ t)))) := by
  refine ACt.intro Try.func37 rfl (by kernel_rfl) (by simp [Try.ntmps37]) (fun cx => ?_)
  simp only [argE, Try.ntmps37, Try.results37]
  have e : decide ((g : Int) ≤ (t : Int)) = decide (g ≤ t) := by simp
  first | (have FRx := FR; clear FRx) | (have FR : ¬ ((1 : Nat) = 0) := Nat.one_ne_zero)
  repeat' first
    | (refine Sm.mk ?_; try simp -dsimp only [ZK, rvc, drawF, headN, pureH, stp, dvc, calleeOf, gcall, pev, eff, newB, okd, og, ogs, ogo, ogp, slv, bltv, opd, litv, strip, one, both, putE, St.put, look, gdOf, gdv, picka, pickv, pickw, binv, bini, bins, binb, binp, bina, shp, eqCells, unv, convv, nilv, faddv, addp, idxav, idxp, load1, load1m, loadn, loadnm, loadv, hget, hset, hrep, hdel, slicev, bnd, shift1, lenv, IntKind.bits, extractv, fieldv, indexv, min2v, max2v, mkiv, cellsA, fillA, buildv, stC, oneC, rowMB, intsA, plN, appE, appZ, appC, appNZ, appNC, VwL, srcC, srcZ, srcM, isBoolT, isPtrT, isSliceT, uOk, Value.oneCell', Nat.reducePow, Int.reducePow, Nat.reduceAdd, Nat.reduceMul, Nat.reduceSub, Nat.reduceLT, Nat.reduceLeDiff, Nat.reduceEqDiff, Nat.reduceBEq, Nat.reduceDiv, Nat.reduceMod, ↓reduceIte, reduceCtorEq, Int.reduceToNat, Int.reduceLT, Int.reduceLE, TFRgA, SeqQ, BlkQ, LoopQ, BodyQ, e, FR])
    | (refine WP.seq fun K hK => ?_)
    | (refine WP.region (rvc_sound _ _ (Sm.out ?_)))
    | (refine WP.drawK rfl mixed (by decide +kernel) (Sm.out ?_))
    | (refine Ob.mk ?_; focus (first | assumption | omega | decide | trivial | (intro hob; simp only [hob, ZF]; done) | (intros; (repeat' refine And.intro ?_ ?_) <;> first | assumption | omega | trivial | decide) | (intros; simp only [ZE] at *; (repeat' refine And.intro ?_ ?_) <;> first | assumption | omega | trivial)))
    | (refine And.intro (Ob.out ?_) ?_)
    | (refine WP.block ?_)
    | (refine WP.cond rfl (fun hc => ?_) (fun hc => ?_) <;> (try simp only [ZC, reduceCtorEq, ZD] at hc) <;> (try (exact absurd hc (by decide))) <;> (try (exfalso; omega)))
    | ((first | refine WP.skip ?_ | refine WP.exit ?_); simp only [SeqQ, BlkQ, LoopQ, BodyQ, ↓reduceIte, Nat.reduceEqDiff, reduceCtorEq, look, true_and])
    | (refine WP.ret (Sm.out ?_))
    | (first | refine ExG.no (Sm.out ?_) | refine Or.inl (ExG.no (Sm.out ?_)) | refine Or.inl (And.intro (fun hg => absurd hg (by decide)) (ExG.no (Sm.out ?_))))
    | (refine Rt.mk ?_; refine And.intro ?_ ?_ <;> (intro hg; first | exact absurd hg (by decide) | refine Sm.out ?_))
    | (refine Nu.mk ?_; first | (fail_if_success (have := nb1)); intro nb1 | (fail_if_success (have := nb2)); intro nb2 | (fail_if_success (have := nb3)); intro nb3 | intro nbz)
    | (refine Fr.mk ?_; intro hfr; replace FR := And.intro hfr FR; clear hfr; refine Sm.out ?_)
    | (refine Two.mk ?_ ?_)
    | (refine Cs.mk ?_; intro hcs; first | exact False.elim hcs | (exfalso; omega) | (refine Sm.out ?_))
    | (refine OutQ.all ?_ ?_; (focus (simp only [resv, ZK, look, loadv, loadn, loadnm, load1, load1m, hget, ↓reduceIte, Nat.reduceEqDiff, Nat.reduceAdd, Nat.reduceMul, Nat.reduceLeDiff, Nat.reduceLT, reduceCtorEq, TFRgA, e, FR])); (try simp only [resv, resA, Fn, ZK, look, loadv, loadn, loadnm, load1, load1m, hget, ↓reduceIte, Nat.reduceEqDiff, Nat.reduceAdd, Nat.reduceMul, Nat.reduceLeDiff, Nat.reduceLT, reduceCtorEq, TFRgA, e, FR]); (try simp [resA, Fn, look, e, FR]); done)
    | go_step
    | omega
    | (simp only [maxLen_eq]; omega)
theorem Over_ct (g t g' t' : Nat) (h : t' < 18446744073709551616) : ACt Try.prog 45 [cnt g t, cnt g' t'] [] (Fn (bv (decide (9223372036854775807 < t + t')))) := by
  refine ACt.intro Try.func45 rfl (by kernel_rfl) (by simp [Try.ntmps45]) (fun cx => ?_)
  simp only [argE, Try.ntmps45, Try.results45]
  by_cases h1 : 9223372036854775807 < t'
  · have e : decide ((t' : Int) > 9223372036854775807) = true := by simp; omega
    rw [decide_eq_true (show 9223372036854775807 < t + t' by omega)]
    first | (have FRx := FR; clear FRx) | (have FR : ¬ ((1 : Nat) = 0) := Nat.one_ne_zero)
    repeat' first
      | (refine Sm.mk ?_; try simp -dsimp only [ZK, rvc, drawF, headN, pureH, stp, dvc, calleeOf, gcall, pev, eff, newB, okd, og, ogs, ogo, ogp, slv, bltv, opd, litv, strip, one, both, putE, St.put, look, gdOf, gdv, picka, pickv, pickw, binv, bini, bins, binb, binp, bina, shp, eqCells, unv, convv, nilv, faddv, addp, idxav, idxp, load1, load1m, loadn, loadnm, loadv, hget, hset, hrep, hdel, slicev, bnd, shift1, lenv, IntKind.bits, extractv, fieldv, indexv, min2v, max2v, mkiv, cellsA, fillA, buildv, stC, oneC, rowMB, intsA, plN, appE, appZ, appC, appNZ, appNC, VwL, srcC, srcZ, srcM, isBoolT, isPtrT, isSliceT, uOk, Value.oneCell', Nat.reducePow, Int.reducePow, Nat.reduceAdd, Nat.reduceMul, Nat.reduceSub, Nat.reduceLT, Nat.reduceLeDiff, Nat.reduceEqDiff, Nat.reduceBEq, Nat.reduceDiv, Nat.reduceMod, ↓reduceIte, reduceCtorEq, Int.reduceToNat, Int.reduceLT, Int.reduceLE, TFRgA, SeqQ, BlkQ, LoopQ, BodyQ, e, FR])
      | (refine WP.seq fun K hK => ?_)
      | (refine WP.region (rvc_sound _ _ (Sm.out ?_)))
      | (refine WP.drawK rfl mixed (by decide +kernel) (Sm.out ?_))
      | (refine Ob.mk ?_; focus (first | assumption | omega | decide | trivial | (intro hob; simp only [hob, ZF]; done) | (intros; (repeat' refine And.intro ?_ ?_) <;> first | assumption | omega | trivial | decide) | (intros; simp only [ZE] at *; (repeat' refine And.intro ?_ ?_) <;> first | assumption | omega | trivial)))
      | (refine And.intro (Ob.out ?_) ?_)
      | (refine WP.block ?_)
      | (refine WP.cond rfl (fun hc => ?_) (fun hc => ?_) <;> (try simp only [ZC, reduceCtorEq, ZD] at hc) <;> (try (exact absurd hc (by decide))) <;> (try (exfalso; omega)))
      | ((first | refine WP.skip ?_ | refine WP.exit ?_); simp only [SeqQ, BlkQ, LoopQ, BodyQ, ↓reduceIte, Nat.reduceEqDiff, reduceCtorEq, look, true_and])
      | (refine WP.ret (Sm.out ?_))
      | (first | refine ExG.no (Sm.out ?_) | refine Or.inl (ExG.no (Sm.out ?_)) | refine Or.inl (And.intro (fun hg => absurd hg (by decide)) (ExG.no (Sm.out ?_))))
      | (refine Rt.mk ?_; refine And.intro ?_ ?_ <;> (intro hg; first | exact absurd hg (by decide) | refine Sm.out ?_))
      | (refine Nu.mk ?_; first | (fail_if_success (have := nb1)); intro nb1 | (fail_if_success (have := nb2)); intro nb2 | (fail_if_success (have := nb3)); intro nb3 | intro nbz)
      | (refine Fr.mk ?_; intro hfr; replace FR := And.intro hfr FR; clear hfr; refine Sm.out ?_)
      | (refine Two.mk ?_ ?_)
      | (refine Cs.mk ?_; intro hcs; first | exact False.elim hcs | (exfalso; omega) | (refine Sm.out ?_))
      | (refine OutQ.all ?_ ?_; (focus (simp only [resv, ZK, look, loadv, loadn, loadnm, load1, load1m, hget, ↓reduceIte, Nat.reduceEqDiff, Nat.reduceAdd, Nat.reduceMul, Nat.reduceLeDiff, Nat.reduceLT, reduceCtorEq, TFRgA, e, FR])); (try simp only [resv, resA, Fn, ZK, look, loadv, loadn, loadnm, load1, load1m, hget, ↓reduceIte, Nat.reduceEqDiff, Nat.reduceAdd, Nat.reduceMul, Nat.reduceLeDiff, Nat.reduceLT, reduceCtorEq, TFRgA, e, FR]); (try simp [resA, Fn, look, e, FR]); done)
      | go_step
      | omega
      | (simp only [maxLen_eq]; omega)
  · have e : decide ((t' : Int) > 9223372036854775807) = false := by simp; omega
    have e2 : IntKind.u64.wrap (9223372036854775807 - (t' : Int)) = 9223372036854775807 - (t' : Int) := wrap_u64 (by omega) (by omega)
    have e3 : decide ((t : Int) > 9223372036854775807 - (t' : Int)) = decide (9223372036854775807 < t + t') := by rw [Bool.eq_iff_iff]; simp; omega
    first | (have FRx := FR; clear FRx) | (have FR : ¬ ((1 : Nat) = 0) := Nat.one_ne_zero)
    repeat' first
      | (refine Sm.mk ?_; try simp -dsimp only [ZK, rvc, drawF, headN, pureH, stp, dvc, calleeOf, gcall, pev, eff, newB, okd, og, ogs, ogo, ogp, slv, bltv, opd, litv, strip, one, both, putE, St.put, look, gdOf, gdv, picka, pickv, pickw, binv, bini, bins, binb, binp, bina, shp, eqCells, unv, convv, nilv, faddv, addp, idxav, idxp, load1, load1m, loadn, loadnm, loadv, hget, hset, hrep, hdel, slicev, bnd, shift1, lenv, IntKind.bits, extractv, fieldv, indexv, min2v, max2v, mkiv, cellsA, fillA, buildv, stC, oneC, rowMB, intsA, plN, appE, appZ, appC, appNZ, appNC, VwL, srcC, srcZ, srcM, isBoolT, isPtrT, isSliceT, uOk, Value.oneCell', Nat.reducePow, Int.reducePow, Nat.reduceAdd, Nat.reduceMul, Nat.reduceSub, Nat.reduceLT, Nat.reduceLeDiff, Nat.reduceEqDiff, Nat.reduceBEq, Nat.reduceDiv, Nat.reduceMod, ↓reduceIte, reduceCtorEq, Int.reduceToNat, Int.reduceLT, Int.reduceLE, TFRgA, SeqQ, BlkQ, LoopQ, BodyQ, e, e2, e3, FR])
      | (refine WP.seq fun K hK => ?_)
      | (refine WP.region (rvc_sound _ _ (Sm.out ?_)))
      | (refine WP.drawK rfl mixed (by decide +kernel) (Sm.out ?_))
      | (refine Ob.mk ?_; focus (first | assumption | omega | decide | trivial | (intro hob; simp only [hob, ZF]; done) | (intros; (repeat' refine And.intro ?_ ?_) <;> first | assumption | omega | trivial | decide) | (intros; simp only [ZE] at *; (repeat' refine And.intro ?_ ?_) <;> first | assumption | omega | trivial)))
      | (refine And.intro (Ob.out ?_) ?_)
      | (refine WP.block ?_)
      | (refine WP.cond rfl (fun hc => ?_) (fun hc => ?_) <;> (try simp only [ZC, reduceCtorEq, ZD] at hc) <;> (try (exact absurd hc (by decide))) <;> (try (exfalso; omega)))
      | ((first | refine WP.skip ?_ | refine WP.exit ?_); simp only [SeqQ, BlkQ, LoopQ, BodyQ, ↓reduceIte, Nat.reduceEqDiff, reduceCtorEq, look, true_and])
      | (refine WP.ret (Sm.out ?_))
      | (first | refine ExG.no (Sm.out ?_) | refine Or.inl (ExG.no (Sm.out ?_)) | refine Or.inl (And.intro (fun hg => absurd hg (by decide)) (ExG.no (Sm.out ?_))))
      | (refine Rt.mk ?_; refine And.intro ?_ ?_ <;> (intro hg; first | exact absurd hg (by decide) | refine Sm.out ?_))
      | (refine Nu.mk ?_; first | (fail_if_success (have := nb1)); intro nb1 | (fail_if_success (have := nb2)); intro nb2 | (fail_if_success (have := nb3)); intro nb3 | intro nbz)
      | (refine Fr.mk ?_; intro hfr; replace FR := And.intro hfr FR; clear hfr; refine Sm.out ?_)
      | (refine Two.mk ?_ ?_)
      | (refine Cs.mk ?_; intro hcs; first | exact False.elim hcs | (exfalso; omega) | (refine Sm.out ?_))
      | (refine OutQ.all ?_ ?_; (focus (simp only [resv, ZK, look, loadv, loadn, loadnm, load1, load1m, hget, ↓reduceIte, Nat.reduceEqDiff, Nat.reduceAdd, Nat.reduceMul, Nat.reduceLeDiff, Nat.reduceLT, reduceCtorEq, TFRgA, e, e2, e3, FR])); (try simp only [resv, resA, Fn, ZK, look, loadv, loadn, loadnm, load1, load1m, hget, ↓reduceIte, Nat.reduceEqDiff, Nat.reduceAdd, Nat.reduceMul, Nat.reduceLeDiff, Nat.reduceLT, reduceCtorEq, TFRgA, e, e2, e3, FR]); (try simp [resA, Fn, look, e, e2, e3, FR]); done)
      | go_step
      | omega
      | (simp only [maxLen_eq]; omega)
theorem Go_ct (W G : Int) (h1 : -9223372036854775808 ≤ W ∧ W ≤ 9223372036854775807) (h2 : -9223372036854775808 ≤ G ∧ G ≤ 9223372036854775807) : ∃ b, (b = true ↔ goP W G) ∧ ACt Try.prog 11 [iv .i64 W, iv .i64 G] [] (Fn (bv b)) := by
  by_cases h : 1 ≤ G ∧ G ≤ 86400 ∧ 1 ≤ W ∧ W ≤ 34560000
  · refine ⟨decide (W.tmod G = 0), by unfold goP; rw [decide_eq_true_eq]; exact ⟨fun hh => ⟨h.1, h.2.1, h.2.2.1, h.2.2.2, hh⟩, fun hh => hh.2.2.2.2⟩, ?_⟩
    refine ACt.intro Try.func11 rfl (by kernel_rfl) (by simp [Try.ntmps11]) (fun cx => ?_)
    simp only [argE, Try.ntmps11, Try.results11]
    have a1 : decide (G ≥ 1) = true := by simp; omega
    have a2 : decide (G ≤ 86400) = true := by simp; omega
    have a3 : decide (W ≥ 1) = true := by simp; omega
    have a4 : decide (W ≤ 34560000) = true := by simp; omega
    have hn := Int.tmod_nonneg G (show 0 ≤ W by omega)
    have hl := Int.tmod_lt_of_pos W (show 0 < G by omega)
    have a5 : IntKind.i64.wrap (W.tmod G) = W.tmod G := wrap_i64 (by omega) (by omega)
    have a6 : (W.tmod G == 0) = decide (W.tmod G = 0) := by rw [Bool.eq_iff_iff]; simp
    have a7 : ¬ G = 0 := by omega
    first | (have FRx := FR; clear FRx) | (have FR : ¬ ((1 : Nat) = 0) := Nat.one_ne_zero)
    repeat' first
      | (refine Sm.mk ?_; try simp -dsimp only [ZK, rvc, drawF, headN, pureH, stp, dvc, calleeOf, gcall, pev, eff, newB, okd, og, ogs, ogo, ogp, slv, bltv, opd, litv, strip, one, both, putE, St.put, look, gdOf, gdv, picka, pickv, pickw, binv, bini, bins, binb, binp, bina, shp, eqCells, unv, convv, nilv, faddv, addp, idxav, idxp, load1, load1m, loadn, loadnm, loadv, hget, hset, hrep, hdel, slicev, bnd, shift1, lenv, IntKind.bits, extractv, fieldv, indexv, min2v, max2v, mkiv, cellsA, fillA, buildv, stC, oneC, rowMB, intsA, plN, appE, appZ, appC, appNZ, appNC, VwL, srcC, srcZ, srcM, isBoolT, isPtrT, isSliceT, uOk, Value.oneCell', Nat.reducePow, Int.reducePow, Nat.reduceAdd, Nat.reduceMul, Nat.reduceSub, Nat.reduceLT, Nat.reduceLeDiff, Nat.reduceEqDiff, Nat.reduceBEq, Nat.reduceDiv, Nat.reduceMod, ↓reduceIte, reduceCtorEq, Int.reduceToNat, Int.reduceLT, Int.reduceLE, TFRgA, SeqQ, BlkQ, LoopQ, BodyQ, a1, a2, a3, a4, a5, a6, a7, FR])
      | (refine WP.seq fun K hK => ?_)
      | (refine WP.region (rvc_sound _ _ (Sm.out ?_)))
      | (refine WP.drawK rfl mixed (by decide +kernel) (Sm.out ?_))
      | (refine Ob.mk ?_; focus (first | assumption | omega | decide | trivial | (intro hob; simp only [hob, ZF]; done) | (intros; (repeat' refine And.intro ?_ ?_) <;> first | assumption | omega | trivial | decide) | (intros; simp only [ZE] at *; (repeat' refine And.intro ?_ ?_) <;> first | assumption | omega | trivial)))
      | (refine And.intro (Ob.out ?_) ?_)
      | (refine WP.block ?_)
      | (refine WP.cond rfl (fun hc => ?_) (fun hc => ?_) <;> (try simp only [ZC, reduceCtorEq, ZD] at hc) <;> (try (exact absurd hc (by decide))) <;> (try (exfalso; omega)))
      | ((first | refine WP.skip ?_ | refine WP.exit ?_); simp only [SeqQ, BlkQ, LoopQ, BodyQ, ↓reduceIte, Nat.reduceEqDiff, reduceCtorEq, look, true_and])
      | (refine WP.ret (Sm.out ?_))
      | (first | refine ExG.no (Sm.out ?_) | refine Or.inl (ExG.no (Sm.out ?_)) | refine Or.inl (And.intro (fun hg => absurd hg (by decide)) (ExG.no (Sm.out ?_))))
      | (refine Rt.mk ?_; refine And.intro ?_ ?_ <;> (intro hg; first | exact absurd hg (by decide) | refine Sm.out ?_))
      | (refine Nu.mk ?_; first | (fail_if_success (have := nb1)); intro nb1 | (fail_if_success (have := nb2)); intro nb2 | (fail_if_success (have := nb3)); intro nb3 | intro nbz)
      | (refine Fr.mk ?_; intro hfr; replace FR := And.intro hfr FR; clear hfr; refine Sm.out ?_)
      | (refine Two.mk ?_ ?_)
      | (refine Cs.mk ?_; intro hcs; first | exact False.elim hcs | (exfalso; omega) | (refine Sm.out ?_))
      | (refine OutQ.all ?_ ?_; (focus (simp only [resv, ZK, look, loadv, loadn, loadnm, load1, load1m, hget, ↓reduceIte, Nat.reduceEqDiff, Nat.reduceAdd, Nat.reduceMul, Nat.reduceLeDiff, Nat.reduceLT, reduceCtorEq, TFRgA, a1, a2, a3, a4, a5, a6, a7, FR])); (try simp only [resv, resA, Fn, ZK, look, loadv, loadn, loadnm, load1, load1m, hget, ↓reduceIte, Nat.reduceEqDiff, Nat.reduceAdd, Nat.reduceMul, Nat.reduceLeDiff, Nat.reduceLT, reduceCtorEq, TFRgA, a1, a2, a3, a4, a5, a6, a7, FR]); (try simp [resA, Fn, look, a1, a2, a3, a4, a5, a6, a7, FR]); done)
      | go_step
      | omega
      | (simp only [maxLen_eq]; omega)
  · refine ⟨false, by unfold goP; simp; intros; omega, ?_⟩
    refine ACt.intro Try.func11 rfl (by kernel_rfl) (by simp [Try.ntmps11]) (fun cx => ?_)
    simp only [argE, Try.ntmps11, Try.results11]
    by_cases b1 : 1 ≤ G
    · have a1 : decide (G ≥ 1) = true := by simp; omega
      have a7 : ¬ G = 0 := by omega
      by_cases b2 : G ≤ 86400
      · have a2 : decide (G ≤ 86400) = true := by simp; omega
        by_cases b3 : 1 ≤ W
        · have a3 : decide (W ≥ 1) = true := by simp; omega
          have a4 : decide (W ≤ 34560000) = false := by simp; omega
          first | (have FRx := FR; clear FRx) | (have FR : ¬ ((1 : Nat) = 0) := Nat.one_ne_zero)
          repeat' first
            | (refine Sm.mk ?_; try simp -dsimp only [ZK, rvc, drawF, headN, pureH, stp, dvc, calleeOf, gcall, pev, eff, newB, okd, og, ogs, ogo, ogp, slv, bltv, opd, litv, strip, one, both, putE, St.put, look, gdOf, gdv, picka, pickv, pickw, binv, bini, bins, binb, binp, bina, shp, eqCells, unv, convv, nilv, faddv, addp, idxav, idxp, load1, load1m, loadn, loadnm, loadv, hget, hset, hrep, hdel, slicev, bnd, shift1, lenv, IntKind.bits, extractv, fieldv, indexv, min2v, max2v, mkiv, cellsA, fillA, buildv, stC, oneC, rowMB, intsA, plN, appE, appZ, appC, appNZ, appNC, VwL, srcC, srcZ, srcM, isBoolT, isPtrT, isSliceT, uOk, Value.oneCell', Nat.reducePow, Int.reducePow, Nat.reduceAdd, Nat.reduceMul, Nat.reduceSub, Nat.reduceLT, Nat.reduceLeDiff, Nat.reduceEqDiff, Nat.reduceBEq, Nat.reduceDiv, Nat.reduceMod, ↓reduceIte, reduceCtorEq, Int.reduceToNat, Int.reduceLT, Int.reduceLE, TFRgA, SeqQ, BlkQ, LoopQ, BodyQ, a1, a2, a3, a4, a7, FR])
            | (refine WP.seq fun K hK => ?_)
            | (refine WP.region (rvc_sound _ _ (Sm.out ?_)))
            | (refine WP.drawK rfl mixed (by decide +kernel) (Sm.out ?_))
            | (refine Ob.mk ?_; focus (first | assumption | omega | decide | trivial | (intro hob; simp only [hob, ZF]; done) | (intros; (repeat' refine And.intro ?_ ?_) <;> first | assumption | omega | trivial | decide) | (intros; simp only [ZE] at *; (repeat' refine And.intro ?_ ?_) <;> first | assumption | omega | trivial)))
            | (refine And.intro (Ob.out ?_) ?_)
            | (refine WP.block ?_)
            | (refine WP.cond rfl (fun hc => ?_) (fun hc => ?_) <;> (try simp only [ZC, reduceCtorEq, ZD] at hc) <;> (try (exact absurd hc (by decide))) <;> (try (exfalso; omega)))
            | ((first | refine WP.skip ?_ | refine WP.exit ?_); simp only [SeqQ, BlkQ, LoopQ, BodyQ, ↓reduceIte, Nat.reduceEqDiff, reduceCtorEq, look, true_and])
            | (refine WP.ret (Sm.out ?_))
            | (first | refine ExG.no (Sm.out ?_) | refine Or.inl (ExG.no (Sm.out ?_)) | refine Or.inl (And.intro (fun hg => absurd hg (by decide)) (ExG.no (Sm.out ?_))))
            | (refine Rt.mk ?_; refine And.intro ?_ ?_ <;> (intro hg; first | exact absurd hg (by decide) | refine Sm.out ?_))
            | (refine Nu.mk ?_; first | (fail_if_success (have := nb1)); intro nb1 | (fail_if_success (have := nb2)); intro nb2 | (fail_if_success (have := nb3)); intro nb3 | intro nbz)
            | (refine Fr.mk ?_; intro hfr; replace FR := And.intro hfr FR; clear hfr; refine Sm.out ?_)
            | (refine Two.mk ?_ ?_)
            | (refine Cs.mk ?_; intro hcs; first | exact False.elim hcs | (exfalso; omega) | (refine Sm.out ?_))
            | (refine OutQ.all ?_ ?_; (focus (simp only [resv, ZK, look, loadv, loadn, loadnm, load1, load1m, hget, ↓reduceIte, Nat.reduceEqDiff, Nat.reduceAdd, Nat.reduceMul, Nat.reduceLeDiff, Nat.reduceLT, reduceCtorEq, TFRgA, a1, a2, a3, a4, a7, FR])); (try simp only [resv, resA, Fn, ZK, look, loadv, loadn, loadnm, load1, load1m, hget, ↓reduceIte, Nat.reduceEqDiff, Nat.reduceAdd, Nat.reduceMul, Nat.reduceLeDiff, Nat.reduceLT, reduceCtorEq, TFRgA, a1, a2, a3, a4, a7, FR]); (try simp [resA, Fn, look, a1, a2, a3, a4, a7, FR]); done)
            | go_step
            | omega
            | (simp only [maxLen_eq]; omega)
        · have a3 : decide (W ≥ 1) = false := by simp; omega
          first | (have FRx := FR; clear FRx) | (have FR : ¬ ((1 : Nat) = 0) := Nat.one_ne_zero)
          repeat' first
            | (refine Sm.mk ?_; try simp -dsimp only [ZK, rvc, drawF, headN, pureH, stp, dvc, calleeOf, gcall, pev, eff, newB, okd, og, ogs, ogo, ogp, slv, bltv, opd, litv, strip, one, both, putE, St.put, look, gdOf, gdv, picka, pickv, pickw, binv, bini, bins, binb, binp, bina, shp, eqCells, unv, convv, nilv, faddv, addp, idxav, idxp, load1, load1m, loadn, loadnm, loadv, hget, hset, hrep, hdel, slicev, bnd, shift1, lenv, IntKind.bits, extractv, fieldv, indexv, min2v, max2v, mkiv, cellsA, fillA, buildv, stC, oneC, rowMB, intsA, plN, appE, appZ, appC, appNZ, appNC, VwL, srcC, srcZ, srcM, isBoolT, isPtrT, isSliceT, uOk, Value.oneCell', Nat.reducePow, Int.reducePow, Nat.reduceAdd, Nat.reduceMul, Nat.reduceSub, Nat.reduceLT, Nat.reduceLeDiff, Nat.reduceEqDiff, Nat.reduceBEq, Nat.reduceDiv, Nat.reduceMod, ↓reduceIte, reduceCtorEq, Int.reduceToNat, Int.reduceLT, Int.reduceLE, TFRgA, SeqQ, BlkQ, LoopQ, BodyQ, a1, a2, a3, a7, FR])
            | (refine WP.seq fun K hK => ?_)
            | (refine WP.region (rvc_sound _ _ (Sm.out ?_)))
            | (refine WP.drawK rfl mixed (by decide +kernel) (Sm.out ?_))
            | (refine Ob.mk ?_; focus (first | assumption | omega | decide | trivial | (intro hob; simp only [hob, ZF]; done) | (intros; (repeat' refine And.intro ?_ ?_) <;> first | assumption | omega | trivial | decide) | (intros; simp only [ZE] at *; (repeat' refine And.intro ?_ ?_) <;> first | assumption | omega | trivial)))
            | (refine And.intro (Ob.out ?_) ?_)
            | (refine WP.block ?_)
            | (refine WP.cond rfl (fun hc => ?_) (fun hc => ?_) <;> (try simp only [ZC, reduceCtorEq, ZD] at hc) <;> (try (exact absurd hc (by decide))) <;> (try (exfalso; omega)))
            | ((first | refine WP.skip ?_ | refine WP.exit ?_); simp only [SeqQ, BlkQ, LoopQ, BodyQ, ↓reduceIte, Nat.reduceEqDiff, reduceCtorEq, look, true_and])
            | (refine WP.ret (Sm.out ?_))
            | (first | refine ExG.no (Sm.out ?_) | refine Or.inl (ExG.no (Sm.out ?_)) | refine Or.inl (And.intro (fun hg => absurd hg (by decide)) (ExG.no (Sm.out ?_))))
            | (refine Rt.mk ?_; refine And.intro ?_ ?_ <;> (intro hg; first | exact absurd hg (by decide) | refine Sm.out ?_))
            | (refine Nu.mk ?_; first | (fail_if_success (have := nb1)); intro nb1 | (fail_if_success (have := nb2)); intro nb2 | (fail_if_success (have := nb3)); intro nb3 | intro nbz)
            | (refine Fr.mk ?_; intro hfr; replace FR := And.intro hfr FR; clear hfr; refine Sm.out ?_)
            | (refine Two.mk ?_ ?_)
            | (refine Cs.mk ?_; intro hcs; first | exact False.elim hcs | (exfalso; omega) | (refine Sm.out ?_))
            | (refine OutQ.all ?_ ?_; (focus (simp only [resv, ZK, look, loadv, loadn, loadnm, load1, load1m, hget, ↓reduceIte, Nat.reduceEqDiff, Nat.reduceAdd, Nat.reduceMul, Nat.reduceLeDiff, Nat.reduceLT, reduceCtorEq, TFRgA, a1, a2, a3, a7, FR])); (try simp only [resv, resA, Fn, ZK, look, loadv, loadn, loadnm, load1, load1m, hget, ↓reduceIte, Nat.reduceEqDiff, Nat.reduceAdd, Nat.reduceMul, Nat.reduceLeDiff, Nat.reduceLT, reduceCtorEq, TFRgA, a1, a2, a3, a7, FR]); (try simp [resA, Fn, look, a1, a2, a3, a7, FR]); done)
            | go_step
            | omega
            | (simp only [maxLen_eq]; omega)
      · have a2 : decide (G ≤ 86400) = false := by simp; omega
        first | (have FRx := FR; clear FRx) | (have FR : ¬ ((1 : Nat) = 0) := Nat.one_ne_zero)
        repeat' first
          | (refine Sm.mk ?_; try simp -dsimp only [ZK, rvc, drawF, headN, pureH, stp, dvc, calleeOf, gcall, pev, eff, newB, okd, og, ogs, ogo, ogp, slv, bltv, opd, litv, strip, one, both, putE, St.put, look, gdOf, gdv, picka, pickv, pickw, binv, bini, bins, binb, binp, bina, shp, eqCells, unv, convv, nilv, faddv, addp, idxav, idxp, load1, load1m, loadn, loadnm, loadv, hget, hset, hrep, hdel, slicev, bnd, shift1, lenv, IntKind.bits, extractv, fieldv, indexv, min2v, max2v, mkiv, cellsA, fillA, buildv, stC, oneC, rowMB, intsA, plN, appE, appZ, appC, appNZ, appNC, VwL, srcC, srcZ, srcM, isBoolT, isPtrT, isSliceT, uOk, Value.oneCell', Nat.reducePow, Int.reducePow, Nat.reduceAdd, Nat.reduceMul, Nat.reduceSub, Nat.reduceLT, Nat.reduceLeDiff, Nat.reduceEqDiff, Nat.reduceBEq, Nat.reduceDiv, Nat.reduceMod, ↓reduceIte, reduceCtorEq, Int.reduceToNat, Int.reduceLT, Int.reduceLE, TFRgA, SeqQ, BlkQ, LoopQ, BodyQ, a1, a2, a7, FR])
          | (refine WP.seq fun K hK => ?_)
          | (refine WP.region (rvc_sound _ _ (Sm.out ?_)))
          | (refine WP.drawK rfl mixed (by decide +kernel) (Sm.out ?_))
          | (refine Ob.mk ?_; focus (first | assumption | omega | decide | trivial | (intro hob; simp only [hob, ZF]; done) | (intros; (repeat' refine And.intro ?_ ?_) <;> first | assumption | omega | trivial | decide) | (intros; simp only [ZE] at *; (repeat' refine And.intro ?_ ?_) <;> first | assumption | omega | trivial)))
          | (refine And.intro (Ob.out ?_) ?_)
          | (refine WP.block ?_)
          | (refine WP.cond rfl (fun hc => ?_) (fun hc => ?_) <;> (try simp only [ZC, reduceCtorEq, ZD] at hc) <;> (try (exact absurd hc (by decide))) <;> (try (exfalso; omega)))
          | ((first | refine WP.skip ?_ | refine WP.exit ?_); simp only [SeqQ, BlkQ, LoopQ, BodyQ, ↓reduceIte, Nat.reduceEqDiff, reduceCtorEq, look, true_and])
          | (refine WP.ret (Sm.out ?_))
          | (first | refine ExG.no (Sm.out ?_) | refine Or.inl (ExG.no (Sm.out ?_)) | refine Or.inl (And.intro (fun hg => absurd hg (by decide)) (ExG.no (Sm.out ?_))))
          | (refine Rt.mk ?_; refine And.intro ?_ ?_ <;> (intro hg; first | exact absurd hg (by decide) | refine Sm.out ?_))
          | (refine Nu.mk ?_; first | (fail_if_success (have := nb1)); intro nb1 | (fail_if_success (have := nb2)); intro nb2 | (fail_if_success (have := nb3)); intro nb3 | intro nbz)
          | (refine Fr.mk ?_; intro hfr; replace FR := And.intro hfr FR; clear hfr; refine Sm.out ?_)
          | (refine Two.mk ?_ ?_)
          | (refine Cs.mk ?_; intro hcs; first | exact False.elim hcs | (exfalso; omega) | (refine Sm.out ?_))
          | (refine OutQ.all ?_ ?_; (focus (simp only [resv, ZK, look, loadv, loadn, loadnm, load1, load1m, hget, ↓reduceIte, Nat.reduceEqDiff, Nat.reduceAdd, Nat.reduceMul, Nat.reduceLeDiff, Nat.reduceLT, reduceCtorEq, TFRgA, a1, a2, a7, FR])); (try simp only [resv, resA, Fn, ZK, look, loadv, loadn, loadnm, load1, load1m, hget, ↓reduceIte, Nat.reduceEqDiff, Nat.reduceAdd, Nat.reduceMul, Nat.reduceLeDiff, Nat.reduceLT, reduceCtorEq, TFRgA, a1, a2, a7, FR]); (try simp [resA, Fn, look, a1, a2, a7, FR]); done)
          | go_step
          | omega
          | (simp only [maxLen_eq]; omega)
    · have a1 : decide (G ≥ 1) = false := by simp; omega
      first | (have FRx := FR; clear FRx) | (have FR : ¬ ((1 : Nat) = 0) := Nat.one_ne_zero)
      repeat' first
        | (refine Sm.mk ?_; try simp -dsimp only [ZK, rvc, drawF, headN, pureH, stp, dvc, calleeOf, gcall, pev, eff, newB, okd, og, ogs, ogo, ogp, slv, bltv, opd, litv, strip, one, both, putE, St.put, look, gdOf, gdv, picka, pickv, pickw, binv, bini, bins, binb, binp, bina, shp, eqCells, unv, convv, nilv, faddv, addp, idxav, idxp, load1, load1m, loadn, loadnm, loadv, hget, hset, hrep, hdel, slicev, bnd, shift1, lenv, IntKind.bits, extractv, fieldv, indexv, min2v, max2v, mkiv, cellsA, fillA, buildv, stC, oneC, rowMB, intsA, plN, appE, appZ, appC, appNZ, appNC, VwL, srcC, srcZ, srcM, isBoolT, isPtrT, isSliceT, uOk, Value.oneCell', Nat.reducePow, Int.reducePow, Nat.reduceAdd, Nat.reduceMul, Nat.reduceSub, Nat.reduceLT, Nat.reduceLeDiff, Nat.reduceEqDiff, Nat.reduceBEq, Nat.reduceDiv, Nat.reduceMod, ↓reduceIte, reduceCtorEq, Int.reduceToNat, Int.reduceLT, Int.reduceLE, TFRgA, SeqQ, BlkQ, LoopQ, BodyQ, a1, FR])
        | (refine WP.seq fun K hK => ?_)
        | (refine WP.region (rvc_sound _ _ (Sm.out ?_)))
        | (refine WP.drawK rfl mixed (by decide +kernel) (Sm.out ?_))
        | (refine Ob.mk ?_; focus (first | assumption | omega | decide | trivial | (intro hob; simp only [hob, ZF]; done) | (intros; (repeat' refine And.intro ?_ ?_) <;> first | assumption | omega | trivial | decide) | (intros; simp only [ZE] at *; (repeat' refine And.intro ?_ ?_) <;> first | assumption | omega | trivial)))
        | (refine And.intro (Ob.out ?_) ?_)
        | (refine WP.block ?_)
        | (refine WP.cond rfl (fun hc => ?_) (fun hc => ?_) <;> (try simp only [ZC, reduceCtorEq, ZD] at hc) <;> (try (exact absurd hc (by decide))) <;> (try (exfalso; omega)))
        | ((first | refine WP.skip ?_ | refine WP.exit ?_); simp only [SeqQ, BlkQ, LoopQ, BodyQ, ↓reduceIte, Nat.reduceEqDiff, reduceCtorEq, look, true_and])
        | (refine WP.ret (Sm.out ?_))
        | (first | refine ExG.no (Sm.out ?_) | refine Or.inl (ExG.no (Sm.out ?_)) | refine Or.inl (And.intro (fun hg => absurd hg (by decide)) (ExG.no (Sm.out ?_))))
        | (refine Rt.mk ?_; refine And.intro ?_ ?_ <;> (intro hg; first | exact absurd hg (by decide) | refine Sm.out ?_))
        | (refine Nu.mk ?_; first | (fail_if_success (have := nb1)); intro nb1 | (fail_if_success (have := nb2)); intro nb2 | (fail_if_success (have := nb3)); intro nb3 | intro nbz)
        | (refine Fr.mk ?_; intro hfr; replace FR := And.intro hfr FR; clear hfr; refine Sm.out ?_)
        | (refine Two.mk ?_ ?_)
        | (refine Cs.mk ?_; intro hcs; first | exact False.elim hcs | (exfalso; omega) | (refine Sm.out ?_))
        | (refine OutQ.all ?_ ?_; (focus (simp only [resv, ZK, look, loadv, loadn, loadnm, load1, load1m, hget, ↓reduceIte, Nat.reduceEqDiff, Nat.reduceAdd, Nat.reduceMul, Nat.reduceLeDiff, Nat.reduceLT, reduceCtorEq, TFRgA, a1, FR])); (try simp only [resv, resA, Fn, ZK, look, loadv, loadn, loadnm, load1, load1m, hget, ↓reduceIte, Nat.reduceEqDiff, Nat.reduceAdd, Nat.reduceMul, Nat.reduceLeDiff, Nat.reduceLT, reduceCtorEq, TFRgA, a1, FR]); (try simp [resA, Fn, look, a1, FR]); done)
        | go_step
        | omega
        | (simp only [maxLen_eq]; omega)
end Go.Proofs.Ytbnkmhlnoaebcaa
namespace Go.Proofs.Ytbnkmhlnoaebcaa
open Go
set_option linter.unusedVariables false
set_option linter.unusedSimpArgs false
theorem TFRgB : ((((type_of% tyc2) ∧ ((type_of% zmb2) ∧ (type_of% tyc3))) ∧ ((type_of% zmb3) ∧ ((type_of% tyc4) ∧ (type_of% zmb4)))) ∧ (((type_of% tyc23) ∧ ((type_of% zmb23) ∧ (type_of% Try.underlying2))) ∧ ((type_of% Try.underlying3) ∧ ((type_of% Try.underlying4) ∧ (type_of% Try.underlying23))))) :=
  ⟨⟨⟨tyc2, ⟨zmb2, tyc3⟩⟩, ⟨zmb3, ⟨tyc4, zmb4⟩⟩⟩, ⟨⟨tyc23, ⟨zmb23, Try.underlying2⟩⟩, ⟨Try.underlying3, ⟨Try.underlying4, Try.underlying23⟩⟩⟩⟩
structure KG where
  k : Nat
theorem dn_down {q j : Nat} (h : q % (j + 1) ≠ 0) : dn q (j + 1) = dn q j := by simp [dn, h]
theorem Shape_ok (W G : Nat) (hg : goP W G) : ACt Try.prog 9 [iv .i64 W, iv .i64 G] [] (Fn (.tup [iv .i64 (bkN W G : Int), iv .i64 ((W / bkN W G : Nat) : Int), iv .i64 0])) := by
  have hG := goOk hg
  obtain ⟨b1, b2, b3, b4, b5⟩ := hg
  refine ACt.intro Try.func9 rfl (by kernel_rfl) (by simp [Try.ntmps9]) (fun cx => ?_)
  simp only [argE, Try.ntmps9, Try.results9]
  have a1 : decide ((G : Int) < 1) = false := by simp; omega
  have a7 : ¬ (G : Int) = 0 := by omega
  have a2 : decide ((G : Int) > 86400) = false := by simp; omega
  have a3 : decide ((W : Int) < 1) = false := by simp; omega
  have a4 : decide ((W : Int) > 34560000) = false := by simp; omega
  have a5 : IntKind.i64.wrap ((W : Int).tmod (G : Int)) = 0 := by rw [b5]; decide
  have a6 : ((0 : Int) != 0) = false := by decide
  obtain ⟨Q, hQ⟩ : ∃ Q, Q = W / G := ⟨_, rfl⟩
  have hq : Q ≤ W := by rw [hQ]; exact Nat.div_le_self _ _
  have e1 : (W : Int).tdiv (G : Int) = (Q : Int) := by rw [hQ, Int.tdiv_eq_ediv_of_nonneg (by omega)]; simp
  have e2 : IntKind.i64.wrap (Q : Int) = (Q : Int) := wrap_i64_nat (by omega)
  have hbk : bkN W G = dn Q 60 := by rw [hQ]
  first | (have FRx := FR; clear FRx) | (have FR : ¬ ((1 : Nat) = 0) := Nat.one_ne_zero)
  repeat' first
    | (refine Sm.mk ?_; try simp -dsimp only [ZK, rvc, drawF, headN, pureH, stp, dvc, calleeOf, gcall, pev, eff, newB, okd, og, ogs, ogo, ogp, slv, bltv, opd, litv, strip, one, both, putE, St.put, look, gdOf, gdv, picka, pickv, pickw, binv, bini, bins, binb, binp, bina, shp, eqCells, unv, convv, nilv, faddv, addp, idxav, idxp, load1, load1m, loadn, loadnm, loadv, hget, hset, hrep, hdel, slicev, bnd, shift1, lenv, IntKind.bits, extractv, fieldv, indexv, min2v, max2v, mkiv, cellsA, fillA, buildv, stC, oneC, rowMB, intsA, plN, appE, appZ, appC, appNZ, appNC, VwL, srcC, srcZ, srcM, isBoolT, isPtrT, isSliceT, uOk, Value.oneCell', Nat.reducePow, Int.reducePow, Nat.reduceAdd, Nat.reduceMul, Nat.reduceSub, Nat.reduceLT, Nat.reduceLeDiff, Nat.reduceEqDiff, Nat.reduceBEq, Nat.reduceDiv, Nat.reduceMod, ↓reduceIte, reduceCtorEq, Int.reduceToNat, Int.reduceLT, Int.reduceLE, TFRgB, SeqQ, BlkQ, LoopQ, BodyQ, a1, a2, a3, a4, a5, a6, a7, FR])
    | (refine WP.seq fun K hK => ?_)
    | (refine WP.region (rvc_sound _ _ (Sm.out ?_)))
    | (refine WP.drawK rfl mixed (by decide +kernel) (Sm.out ?_))
    | (refine Ob.mk ?_; focus (first | assumption | omega | decide | trivial | (intro hob; simp only [hob, ZF]; done) | (intros; (repeat' refine And.intro ?_ ?_) <;> first | assumption | omega | trivial | decide) | (intros; simp only [ZE] at *; (repeat' refine And.intro ?_ ?_) <;> first | assumption | omega | trivial)))
    | (refine And.intro (Ob.out ?_) ?_)
    | (refine WP.block ?_)
    | (refine WP.cond rfl (fun hc => ?_) (fun hc => ?_) <;> (try simp only [ZC, reduceCtorEq, ZD] at hc) <;> (try (exact absurd hc (by decide))) <;> (try (exfalso; omega)))
    | ((first | refine WP.skip ?_ | refine WP.exit ?_); simp only [SeqQ, BlkQ, LoopQ, BodyQ, ↓reduceIte, Nat.reduceEqDiff, reduceCtorEq, look, true_and])
    | (refine WP.ret (Sm.out ?_))
    | (first | refine ExG.no (Sm.out ?_) | refine Or.inl (ExG.no (Sm.out ?_)) | refine Or.inl (And.intro (fun hg => absurd hg (by decide)) (ExG.no (Sm.out ?_))))
    | (refine Rt.mk ?_; refine And.intro ?_ ?_ <;> (intro hg; first | exact absurd hg (by decide) | refine Sm.out ?_))
    | (refine Nu.mk ?_; first | (fail_if_success (have := nb1)); intro nb1 | (fail_if_success (have := nb2)); intro nb2 | (fail_if_success (have := nb3)); intro nb3 | intro nbz)
    | (refine Fr.mk ?_; intro hfr; replace FR := And.intro hfr FR; clear hfr; refine Sm.out ?_)
    | (refine Two.mk ?_ ?_)
    | (refine Cs.mk ?_; intro hcs; first | exact False.elim hcs | (exfalso; omega) | (refine Sm.out ?_))
    | go_step
    | omega
    | (simp only [maxLen_eq]; omega)
  refine WP.loop (Γ := KG) (fun g => ⟨[(7, iv .i64 g.k), (0, iv .i64 W), (1, iv .i64 G)], []⟩) (fun g => dn (Q) g.k = bkN W G ∧ 1 ≤ g.k ∧ g.k ≤ 60) (fun g => g.k) ⟨60⟩ ⟨hbk.symm, by simp, by simp⟩ (Sub.pick (by simp [pickB, hget, hdel, FR]) (by simp [look])) ?_
  intro ⟨k⟩ ⟨g1, g2, g3⟩
  simp only at g1 g2 g3 ⊢
  have n1 : ¬ (k : Int) = 0 := by omega
  have e3 : ((Q : Nat) : Int).tmod (k : Int) = ((Q % k : Nat) : Int) := by rw [Int.tmod_eq_emod_of_nonneg (by omega)]; simp
  have e4 : IntKind.i64.wrap ((Q % k : Nat) : Int) = ((Q % k : Nat) : Int) := wrap_i64_nat (Nat.le_trans (Nat.le_of_lt (Nat.mod_lt Q (show k > 0 by omega))) (by omega))
  by_cases hk : Q % k = 0
  · have hk2 : dn (Q) k = k := by obtain ⟨j, rfl⟩ : ∃ j, k = j + 1 := ⟨k - 1, by omega⟩; simp [dn, hk]
    have hkk : bkN W G = k := by rw [← g1, hk2]
    have c : (((Q % k : Nat) : Int) != 0) = false := by rw [hk]; decide
    have f1 : (W : Int).tdiv (k : Int) = ((W / k : Nat) : Int) := by rw [Int.tdiv_eq_ediv_of_nonneg (by omega)]; simp
    have f2 : IntKind.i64.wrap ((W / k : Nat) : Int) = ((W / k : Nat) : Int) := wrap_i64_nat (Nat.le_trans (Nat.div_le_self W k) (by omega))
    first | (have FRx := FR; clear FRx) | (have FR : ¬ ((1 : Nat) = 0) := Nat.one_ne_zero)
    repeat' first
      | (refine Sm.mk ?_; try simp -dsimp only [ZK, rvc, drawF, headN, pureH, stp, dvc, calleeOf, gcall, pev, eff, newB, okd, og, ogs, ogo, ogp, slv, bltv, opd, litv, strip, one, both, putE, St.put, look, gdOf, gdv, picka, pickv, pickw, binv, bini, bins, binb, binp, bina, shp, eqCells, unv, convv, nilv, faddv, addp, idxav, idxp, load1, load1m, loadn, loadnm, loadv, hget, hset, hrep, hdel, slicev, bnd, shift1, lenv, IntKind.bits, extractv, fieldv, indexv, min2v, max2v, mkiv, cellsA, fillA, buildv, stC, oneC, rowMB, intsA, plN, appE, appZ, appC, appNZ, appNC, VwL, srcC, srcZ, srcM, isBoolT, isPtrT, isSliceT, uOk, Value.oneCell', Nat.reducePow, Int.reducePow, Nat.reduceAdd, Nat.reduceMul, Nat.reduceSub, Nat.reduceLT, Nat.reduceLeDiff, Nat.reduceEqDiff, Nat.reduceBEq, Nat.reduceDiv, Nat.reduceMod, ↓reduceIte, reduceCtorEq, Int.reduceToNat, Int.reduceLT, Int.reduceLE, TFRgB, SeqQ, BlkQ, LoopQ, BodyQ, hkk, e1, e2, e3, e4, n1, a7, c, f1, f2, FR])
      | (refine WP.seq fun K hK => ?_)
      | (refine WP.region (rvc_sound _ _ (Sm.out ?_)))
      | (refine WP.drawK rfl mixed (by decide +kernel) (Sm.out ?_))
      | (refine Ob.mk ?_; focus (first | assumption | omega | decide | trivial | (intro hob; simp only [hob, ZF]; done) | (intros; (repeat' refine And.intro ?_ ?_) <;> first | assumption | omega | trivial | decide) | (intros; simp only [ZE] at *; (repeat' refine And.intro ?_ ?_) <;> first | assumption | omega | trivial)))
      | (refine And.intro (Ob.out ?_) ?_)
      | (refine WP.block ?_)
      | (refine WP.cond rfl (fun hc => ?_) (fun hc => ?_) <;> (try simp only [ZC, reduceCtorEq, ZD] at hc) <;> (try (exact absurd hc (by decide))) <;> (try (exfalso; omega)))
      | ((first | refine WP.skip ?_ | refine WP.exit ?_); simp only [SeqQ, BlkQ, LoopQ, BodyQ, ↓reduceIte, Nat.reduceEqDiff, reduceCtorEq, look, true_and])
      | (refine WP.ret (Sm.out ?_))
      | (first | refine ExG.no (Sm.out ?_) | refine Or.inl (ExG.no (Sm.out ?_)) | refine Or.inl (And.intro (fun hg => absurd hg (by decide)) (ExG.no (Sm.out ?_))))
      | (refine Rt.mk ?_; refine And.intro ?_ ?_ <;> (intro hg; first | exact absurd hg (by decide) | refine Sm.out ?_))
      | (refine Nu.mk ?_; first | (fail_if_success (have := nb1)); intro nb1 | (fail_if_success (have := nb2)); intro nb2 | (fail_if_success (have := nb3)); intro nb3 | intro nbz)
      | (refine Fr.mk ?_; intro hfr; replace FR := And.intro hfr FR; clear hfr; refine Sm.out ?_)
      | (refine Two.mk ?_ ?_)
      | (refine Cs.mk ?_; intro hcs; first | exact False.elim hcs | (exfalso; omega) | (refine Sm.out ?_))
      | (refine OutQ.all ?_ ?_; (focus (simp only [resv, ZK, look, loadv, loadn, loadnm, load1, load1m, hget, ↓reduceIte, Nat.reduceEqDiff, Nat.reduceAdd, Nat.reduceMul, Nat.reduceLeDiff, Nat.reduceLT, reduceCtorEq, TFRgB, hkk, e1, e2, e3, e4, n1, a7, c, f1, f2, FR])); (try simp only [resv, resA, Fn, ZK, look, loadv, loadn, loadnm, load1, load1m, hget, ↓reduceIte, Nat.reduceEqDiff, Nat.reduceAdd, Nat.reduceMul, Nat.reduceLeDiff, Nat.reduceLT, reduceCtorEq, TFRgB, hkk, e1, e2, e3, e4, n1, a7, c, f1, f2, FR]); (try simp [resA, Fn, look, hkk, e1, e2, e3, e4, n1, a7, c, f1, f2, FR]); done)
      | go_step
      | omega
      | (simp only [maxLen_eq]; omega)
  · have c : (((Q % k : Nat) : Int) != 0) = true := by rw [bne_iff_ne]; intro h0; exact hk (by exact_mod_cast h0)
    obtain ⟨j, rfl⟩ : ∃ j, k = j + 1 := ⟨k - 1, by omega⟩
    have hj : j ≠ 0 := by rintro rfl; exact hk (by simp; omega)
    have f1 : IntKind.i64.wrap (((j + 1 : Nat) : Int) - 1) = (j : Int) := by rw [wrap_i64 (by omega) (by omega)]; omega
    first | (have FRx := FR; clear FRx) | (have FR : ¬ ((1 : Nat) = 0) := Nat.one_ne_zero)
    repeat' first
      | (refine Sm.mk ?_; try simp -dsimp only [ZK, rvc, drawF, headN, pureH, stp, dvc, calleeOf, gcall, pev, eff, newB, okd, og, ogs, ogo, ogp, slv, bltv, opd, litv, strip, one, both, putE, St.put, look, gdOf, gdv, picka, pickv, pickw, binv, bini, bins, binb, binp, bina, shp, eqCells, unv, convv, nilv, faddv, addp, idxav, idxp, load1, load1m, loadn, loadnm, loadv, hget, hset, hrep, hdel, slicev, bnd, shift1, lenv, IntKind.bits, extractv, fieldv, indexv, min2v, max2v, mkiv, cellsA, fillA, buildv, stC, oneC, rowMB, intsA, plN, appE, appZ, appC, appNZ, appNC, VwL, srcC, srcZ, srcM, isBoolT, isPtrT, isSliceT, uOk, Value.oneCell', Nat.reducePow, Int.reducePow, Nat.reduceAdd, Nat.reduceMul, Nat.reduceSub, Nat.reduceLT, Nat.reduceLeDiff, Nat.reduceEqDiff, Nat.reduceBEq, Nat.reduceDiv, Nat.reduceMod, ↓reduceIte, reduceCtorEq, Int.reduceToNat, Int.reduceLT, Int.reduceLE, TFRgB, SeqQ, BlkQ, LoopQ, BodyQ, e1, e2, e3, e4, n1, a7, c, f1, FR])
      | (refine WP.seq fun K hK => ?_)
      | (refine WP.region (rvc_sound _ _ (Sm.out ?_)))
      | (refine WP.drawK rfl mixed (by decide +kernel) (Sm.out ?_))
      | (refine Ob.mk ?_; focus (first | assumption | omega | decide | trivial | (intro hob; simp only [hob, ZF]; done) | (intros; (repeat' refine And.intro ?_ ?_) <;> first | assumption | omega | trivial | decide) | (intros; simp only [ZE] at *; (repeat' refine And.intro ?_ ?_) <;> first | assumption | omega | trivial)))
      | (refine And.intro (Ob.out ?_) ?_)
      | (refine WP.block ?_)
      | (refine WP.cond rfl (fun hc => ?_) (fun hc => ?_) <;> (try simp only [ZC, reduceCtorEq, ZD] at hc) <;> (try (exact absurd hc (by decide))) <;> (try (exfalso; omega)))
      | ((first | refine WP.skip ?_ | refine WP.exit ?_); simp only [SeqQ, BlkQ, LoopQ, BodyQ, ↓reduceIte, Nat.reduceEqDiff, reduceCtorEq, look, true_and])
      | (refine WP.ret (Sm.out ?_))
      | (first | refine ExG.no (Sm.out ?_) | refine Or.inl (ExG.no (Sm.out ?_)) | refine Or.inl (And.intro (fun hg => absurd hg (by decide)) (ExG.no (Sm.out ?_))))
      | (refine Rt.mk ?_; refine And.intro ?_ ?_ <;> (intro hg; first | exact absurd hg (by decide) | refine Sm.out ?_))
      | (refine Nu.mk ?_; first | (fail_if_success (have := nb1)); intro nb1 | (fail_if_success (have := nb2)); intro nb2 | (fail_if_success (have := nb3)); intro nb3 | intro nbz)
      | (refine Fr.mk ?_; intro hfr; replace FR := And.intro hfr FR; clear hfr; refine Sm.out ?_)
      | (refine Two.mk ?_ ?_)
      | (refine Cs.mk ?_; intro hcs; first | exact False.elim hcs | (exfalso; omega) | (refine Sm.out ?_))
      | go_step
      | omega
      | (simp only [maxLen_eq]; omega)
    exact ⟨⟨j⟩, ⟨by simp only; rw [← g1, dn_down hk], by simp only; omega, by simp only; omega⟩, by simp only; omega, (Sub.pick (by simp [pickB, hget, hdel, FR]) (by simp [look]))⟩
theorem Buckets_ct (W G : Nat) (hg : goP W G) : ACt Try.prog 12 [iv .i64 W, iv .i64 G] [] (Fn (iv .i64 (bkN W G : Int))) := by
  obtain ⟨b1, b2, b3, b4, b5⟩ := hg
  refine ACt.intro Try.func12 rfl (by kernel_rfl) (by simp [Try.ntmps12]) (fun cx => ?_)
  simp only [argE, Try.ntmps12, Try.results12]
  have a7 : ¬ (G : Int) = 0 := by omega
  obtain ⟨Q, hQ⟩ : ∃ Q, Q = W / G := ⟨_, rfl⟩
  have hq : Q ≤ W := by rw [hQ]; exact Nat.div_le_self _ _
  have e1 : (W : Int).tdiv (G : Int) = (Q : Int) := by rw [hQ, Int.tdiv_eq_ediv_of_nonneg (by omega)]; simp
  have e2 : IntKind.i64.wrap (Q : Int) = (Q : Int) := wrap_i64_nat (by omega)
  have hbk : bkN W G = dn Q 60 := by rw [hQ]
  first | (have FRx := FR; clear FRx) | (have FR : ¬ ((1 : Nat) = 0) := Nat.one_ne_zero)
  repeat' first
    | (refine Sm.mk ?_; try simp -dsimp only [ZK, rvc, drawF, headN, pureH, stp, dvc, calleeOf, gcall, pev, eff, newB, okd, og, ogs, ogo, ogp, slv, bltv, opd, litv, strip, one, both, putE, St.put, look, gdOf, gdv, picka, pickv, pickw, binv, bini, bins, binb, binp, bina, shp, eqCells, unv, convv, nilv, faddv, addp, idxav, idxp, load1, load1m, loadn, loadnm, loadv, hget, hset, hrep, hdel, slicev, bnd, shift1, lenv, IntKind.bits, extractv, fieldv, indexv, min2v, max2v, mkiv, cellsA, fillA, buildv, stC, oneC, rowMB, intsA, plN, appE, appZ, appC, appNZ, appNC, VwL, srcC, srcZ, srcM, isBoolT, isPtrT, isSliceT, uOk, Value.oneCell', Nat.reducePow, Int.reducePow, Nat.reduceAdd, Nat.reduceMul, Nat.reduceSub, Nat.reduceLT, Nat.reduceLeDiff, Nat.reduceEqDiff, Nat.reduceBEq, Nat.reduceDiv, Nat.reduceMod, ↓reduceIte, reduceCtorEq, Int.reduceToNat, Int.reduceLT, Int.reduceLE, TFRgB, SeqQ, BlkQ, LoopQ, BodyQ, FR])
    | (refine WP.seq fun K hK => ?_)
    | (refine WP.region (rvc_sound _ _ (Sm.out ?_)))
    | (refine WP.drawK rfl mixed (by decide +kernel) (Sm.out ?_))
    | (refine Ob.mk ?_; focus (first | assumption | omega | decide | trivial | (intro hob; simp only [hob, ZF]; done) | (intros; (repeat' refine And.intro ?_ ?_) <;> first | assumption | omega | trivial | decide) | (intros; simp only [ZE] at *; (repeat' refine And.intro ?_ ?_) <;> first | assumption | omega | trivial)))
    | (refine And.intro (Ob.out ?_) ?_)
    | (refine WP.block ?_)
    | (refine WP.cond rfl (fun hc => ?_) (fun hc => ?_) <;> (try simp only [ZC, reduceCtorEq, ZD] at hc) <;> (try (exact absurd hc (by decide))) <;> (try (exfalso; omega)))
    | ((first | refine WP.skip ?_ | refine WP.exit ?_); simp only [SeqQ, BlkQ, LoopQ, BodyQ, ↓reduceIte, Nat.reduceEqDiff, reduceCtorEq, look, true_and])
    | (refine WP.ret (Sm.out ?_))
    | (first | refine ExG.no (Sm.out ?_) | refine Or.inl (ExG.no (Sm.out ?_)) | refine Or.inl (And.intro (fun hg => absurd hg (by decide)) (ExG.no (Sm.out ?_))))
    | (refine Rt.mk ?_; refine And.intro ?_ ?_ <;> (intro hg; first | exact absurd hg (by decide) | refine Sm.out ?_))
    | (refine Nu.mk ?_; first | (fail_if_success (have := nb1)); intro nb1 | (fail_if_success (have := nb2)); intro nb2 | (fail_if_success (have := nb3)); intro nb3 | intro nbz)
    | (refine Fr.mk ?_; intro hfr; replace FR := And.intro hfr FR; clear hfr; refine Sm.out ?_)
    | (refine Two.mk ?_ ?_)
    | (refine Cs.mk ?_; intro hcs; first | exact False.elim hcs | (exfalso; omega) | (refine Sm.out ?_))
    | go_step
    | omega
    | (simp only [maxLen_eq]; omega)
  refine WP.loop (Γ := KG) (fun g => ⟨[(6, iv .i64 ((g.k + 1 : Nat) : Int)), (5, iv .i64 (dn (Q) g.k : Int)), (0, iv .i64 W), (1, iv .i64 G)], []⟩) (fun g => g.k ≤ 60) (fun g => 60 - g.k) ⟨0⟩ (by simp) (Sub.pick (by simp [pickB, hget, hdel, FR, dn]) (by simp [look, dn])) ?_
  intro ⟨k⟩ g3
  simp only at g3 ⊢
  by_cases hk : k < 60
  · have k1 : decide (((k + 1 : Nat) : Int) ≤ 60) = true := by simp; omega
    have n1 : ¬ ((k + 1 : Nat) : Int) = 0 := by omega
    have e3 : ((Q : Nat) : Int).tmod ((k + 1 : Nat) : Int) = ((Q % (k + 1) : Nat) : Int) := by rw [Int.tmod_eq_emod_of_nonneg (by omega)]; simp
    have e4 : IntKind.i64.wrap ((Q % (k + 1) : Nat) : Int) = ((Q % (k + 1) : Nat) : Int) := wrap_i64_nat (Nat.le_trans (Nat.le_of_lt (Nat.mod_lt Q (show k + 1 > 0 by omega))) (by omega))
    have f1 : IntKind.i64.wrap (((k + 1 : Nat) : Int) + 1) = ((k + 1 + 1 : Nat) : Int) := by rw [wrap_i64 (by omega) (by omega)]; omega
    by_cases hm : Q % (k + 1) = 0
    · have c : (((Q % (k + 1) : Nat) : Int) == 0) = true := by rw [hm]; decide
      have hd : dn (Q) (k + 1) = k + 1 := by simp [dn, hm]
      first | (have FRx := FR; clear FRx) | (have FR : ¬ ((1 : Nat) = 0) := Nat.one_ne_zero)
      repeat' first
        | (refine Sm.mk ?_; try simp -dsimp only [ZK, rvc, drawF, headN, pureH, stp, dvc, calleeOf, gcall, pev, eff, newB, okd, og, ogs, ogo, ogp, slv, bltv, opd, litv, strip, one, both, putE, St.put, look, gdOf, gdv, picka, pickv, pickw, binv, bini, bins, binb, binp, bina, shp, eqCells, unv, convv, nilv, faddv, addp, idxav, idxp, load1, load1m, loadn, loadnm, loadv, hget, hset, hrep, hdel, slicev, bnd, shift1, lenv, IntKind.bits, extractv, fieldv, indexv, min2v, max2v, mkiv, cellsA, fillA, buildv, stC, oneC, rowMB, intsA, plN, appE, appZ, appC, appNZ, appNC, VwL, srcC, srcZ, srcM, isBoolT, isPtrT, isSliceT, uOk, Value.oneCell', Nat.reducePow, Int.reducePow, Nat.reduceAdd, Nat.reduceMul, Nat.reduceSub, Nat.reduceLT, Nat.reduceLeDiff, Nat.reduceEqDiff, Nat.reduceBEq, Nat.reduceDiv, Nat.reduceMod, ↓reduceIte, reduceCtorEq, Int.reduceToNat, Int.reduceLT, Int.reduceLE, TFRgB, SeqQ, BlkQ, LoopQ, BodyQ, k1, e1, e2, e3, e4, n1, a7, c, f1, FR])
        | (refine WP.seq fun K hK => ?_)
        | (refine WP.region (rvc_sound _ _ (Sm.out ?_)))
        | (refine WP.drawK rfl mixed (by decide +kernel) (Sm.out ?_))
        | (refine Ob.mk ?_; focus (first | assumption | omega | decide | trivial | (intro hob; simp only [hob, ZF]; done) | (intros; (repeat' refine And.intro ?_ ?_) <;> first | assumption | omega | trivial | decide) | (intros; simp only [ZE] at *; (repeat' refine And.intro ?_ ?_) <;> first | assumption | omega | trivial)))
        | (refine And.intro (Ob.out ?_) ?_)
        | (refine WP.block ?_)
        | (refine WP.cond rfl (fun hc => ?_) (fun hc => ?_) <;> (try simp only [ZC, reduceCtorEq, ZD] at hc) <;> (try (exact absurd hc (by decide))) <;> (try (exfalso; omega)))
        | ((first | refine WP.skip ?_ | refine WP.exit ?_); simp only [SeqQ, BlkQ, LoopQ, BodyQ, ↓reduceIte, Nat.reduceEqDiff, reduceCtorEq, look, true_and])
        | (refine WP.ret (Sm.out ?_))
        | (first | refine ExG.no (Sm.out ?_) | refine Or.inl (ExG.no (Sm.out ?_)) | refine Or.inl (And.intro (fun hg => absurd hg (by decide)) (ExG.no (Sm.out ?_))))
        | (refine Rt.mk ?_; refine And.intro ?_ ?_ <;> (intro hg; first | exact absurd hg (by decide) | refine Sm.out ?_))
        | (refine Nu.mk ?_; first | (fail_if_success (have := nb1)); intro nb1 | (fail_if_success (have := nb2)); intro nb2 | (fail_if_success (have := nb3)); intro nb3 | intro nbz)
        | (refine Fr.mk ?_; intro hfr; replace FR := And.intro hfr FR; clear hfr; refine Sm.out ?_)
        | (refine Two.mk ?_ ?_)
        | (refine Cs.mk ?_; intro hcs; first | exact False.elim hcs | (exfalso; omega) | (refine Sm.out ?_))
        | go_step
        | omega
        | (simp only [maxLen_eq]; omega)
      exact ⟨⟨k + 1⟩, by simp only; omega, by simp only; omega, (Sub.pick (by simp [pickB, hget, hdel, FR, hd]) (by simp [look, hd]))⟩
    · have c : (((Q % (k + 1) : Nat) : Int) == 0) = false := by rw [beq_eq_false_iff_ne]; intro h0; exact hm (by exact_mod_cast h0)
      have hd : dn (Q) (k + 1) = dn (Q) k := dn_down hm
      first | (have FRx := FR; clear FRx) | (have FR : ¬ ((1 : Nat) = 0) := Nat.one_ne_zero)
      repeat' first
        | (refine Sm.mk ?_; try simp -dsimp only [ZK, rvc, drawF, headN, pureH, stp, dvc, calleeOf, gcall, pev, eff, newB, okd, og, ogs, ogo, ogp, slv, bltv, opd, litv, strip, one, both, putE, St.put, look, gdOf, gdv, picka, pickv, pickw, binv, bini, bins, binb, binp, bina, shp, eqCells, unv, convv, nilv, faddv, addp, idxav, idxp, load1, load1m, loadn, loadnm, loadv, hget, hset, hrep, hdel, slicev, bnd, shift1, lenv, IntKind.bits, extractv, fieldv, indexv, min2v, max2v, mkiv, cellsA, fillA, buildv, stC, oneC, rowMB, intsA, plN, appE, appZ, appC, appNZ, appNC, VwL, srcC, srcZ, srcM, isBoolT, isPtrT, isSliceT, uOk, Value.oneCell', Nat.reducePow, Int.reducePow, Nat.reduceAdd, Nat.reduceMul, Nat.reduceSub, Nat.reduceLT, Nat.reduceLeDiff, Nat.reduceEqDiff, Nat.reduceBEq, Nat.reduceDiv, Nat.reduceMod, ↓reduceIte, reduceCtorEq, Int.reduceToNat, Int.reduceLT, Int.reduceLE, TFRgB, SeqQ, BlkQ, LoopQ, BodyQ, k1, e1, e2, e3, e4, n1, a7, c, f1, FR])
        | (refine WP.seq fun K hK => ?_)
        | (refine WP.region (rvc_sound _ _ (Sm.out ?_)))
        | (refine WP.drawK rfl mixed (by decide +kernel) (Sm.out ?_))
        | (refine Ob.mk ?_; focus (first | assumption | omega | decide | trivial | (intro hob; simp only [hob, ZF]; done) | (intros; (repeat' refine And.intro ?_ ?_) <;> first | assumption | omega | trivial | decide) | (intros; simp only [ZE] at *; (repeat' refine And.intro ?_ ?_) <;> first | assumption | omega | trivial)))
        | (refine And.intro (Ob.out ?_) ?_)
        | (refine WP.block ?_)
        | (refine WP.cond rfl (fun hc => ?_) (fun hc => ?_) <;> (try simp only [ZC, reduceCtorEq, ZD] at hc) <;> (try (exact absurd hc (by decide))) <;> (try (exfalso; omega)))
        | ((first | refine WP.skip ?_ | refine WP.exit ?_); simp only [SeqQ, BlkQ, LoopQ, BodyQ, ↓reduceIte, Nat.reduceEqDiff, reduceCtorEq, look, true_and])
        | (refine WP.ret (Sm.out ?_))
        | (first | refine ExG.no (Sm.out ?_) | refine Or.inl (ExG.no (Sm.out ?_)) | refine Or.inl (And.intro (fun hg => absurd hg (by decide)) (ExG.no (Sm.out ?_))))
        | (refine Rt.mk ?_; refine And.intro ?_ ?_ <;> (intro hg; first | exact absurd hg (by decide) | refine Sm.out ?_))
        | (refine Nu.mk ?_; first | (fail_if_success (have := nb1)); intro nb1 | (fail_if_success (have := nb2)); intro nb2 | (fail_if_success (have := nb3)); intro nb3 | intro nbz)
        | (refine Fr.mk ?_; intro hfr; replace FR := And.intro hfr FR; clear hfr; refine Sm.out ?_)
        | (refine Two.mk ?_ ?_)
        | (refine Cs.mk ?_; intro hcs; first | exact False.elim hcs | (exfalso; omega) | (refine Sm.out ?_))
        | go_step
        | omega
        | (simp only [maxLen_eq]; omega)
      exact ⟨⟨k + 1⟩, by simp only; omega, by simp only; omega, (Sub.pick (by simp [pickB, hget, hdel, FR, hd]) (by simp [look, hd]))⟩
  · obtain rfl : k = 60 := by omega
    have k1 : decide (((60 + 1 : Nat) : Int) ≤ 60) = false := by decide
    obtain ⟨V, hV⟩ : ∃ V, V = dn (Q) 60 := ⟨_, rfl⟩
    have hV' : bkN W G = V := by rw [hbk, hV]
    rw [← hV]
    first | (have FRx := FR; clear FRx) | (have FR : ¬ ((1 : Nat) = 0) := Nat.one_ne_zero)
    repeat' first
      | (refine Sm.mk ?_; try simp -dsimp only [ZK, rvc, drawF, headN, pureH, stp, dvc, calleeOf, gcall, pev, eff, newB, okd, og, ogs, ogo, ogp, slv, bltv, opd, litv, strip, one, both, putE, St.put, look, gdOf, gdv, picka, pickv, pickw, binv, bini, bins, binb, binp, bina, shp, eqCells, unv, convv, nilv, faddv, addp, idxav, idxp, load1, load1m, loadn, loadnm, loadv, hget, hset, hrep, hdel, slicev, bnd, shift1, lenv, IntKind.bits, extractv, fieldv, indexv, min2v, max2v, mkiv, cellsA, fillA, buildv, stC, oneC, rowMB, intsA, plN, appE, appZ, appC, appNZ, appNC, VwL, srcC, srcZ, srcM, isBoolT, isPtrT, isSliceT, uOk, Value.oneCell', Nat.reducePow, Int.reducePow, Nat.reduceAdd, Nat.reduceMul, Nat.reduceSub, Nat.reduceLT, Nat.reduceLeDiff, Nat.reduceEqDiff, Nat.reduceBEq, Nat.reduceDiv, Nat.reduceMod, ↓reduceIte, reduceCtorEq, Int.reduceToNat, Int.reduceLT, Int.reduceLE, TFRgB, SeqQ, BlkQ, LoopQ, BodyQ, k1, hV', FR])
      | (refine WP.seq fun K hK => ?_)
      | (refine WP.region (rvc_sound _ _ (Sm.out ?_)))
      | (refine WP.drawK rfl mixed (by decide +kernel) (Sm.out ?_))
      | (refine Ob.mk ?_; focus (first | assumption | omega | decide | trivial | (intro hob; simp only [hob, ZF]; done) | (intros; (repeat' refine And.intro ?_ ?_) <;> first | assumption | omega | trivial | decide) | (intros; simp only [ZE] at *; (repeat' refine And.intro ?_ ?_) <;> first | assumption | omega | trivial)))
      | (refine And.intro (Ob.out ?_) ?_)
      | (refine WP.block ?_)
      | (refine WP.cond rfl (fun hc => ?_) (fun hc => ?_) <;> (try simp only [ZC, reduceCtorEq, ZD] at hc) <;> (try (exact absurd hc (by decide))) <;> (try (exfalso; omega)))
      | ((first | refine WP.skip ?_ | refine WP.exit ?_); simp only [SeqQ, BlkQ, LoopQ, BodyQ, ↓reduceIte, Nat.reduceEqDiff, reduceCtorEq, look, true_and])
      | (refine WP.ret (Sm.out ?_))
      | (first | refine ExG.no (Sm.out ?_) | refine Or.inl (ExG.no (Sm.out ?_)) | refine Or.inl (And.intro (fun hg => absurd hg (by decide)) (ExG.no (Sm.out ?_))))
      | (refine Rt.mk ?_; refine And.intro ?_ ?_ <;> (intro hg; first | exact absurd hg (by decide) | refine Sm.out ?_))
      | (refine Nu.mk ?_; first | (fail_if_success (have := nb1)); intro nb1 | (fail_if_success (have := nb2)); intro nb2 | (fail_if_success (have := nb3)); intro nb3 | intro nbz)
      | (refine Fr.mk ?_; intro hfr; replace FR := And.intro hfr FR; clear hfr; refine Sm.out ?_)
      | (refine Two.mk ?_ ?_)
      | (refine Cs.mk ?_; intro hcs; first | exact False.elim hcs | (exfalso; omega) | (refine Sm.out ?_))
      | (refine OutQ.all ?_ ?_; (focus (simp only [resv, ZK, look, loadv, loadn, loadnm, load1, load1m, hget, ↓reduceIte, Nat.reduceEqDiff, Nat.reduceAdd, Nat.reduceMul, Nat.reduceLeDiff, Nat.reduceLT, reduceCtorEq, TFRgB, k1, hV', FR])); (try simp only [resv, resA, Fn, ZK, look, loadv, loadn, loadnm, load1, load1m, hget, ↓reduceIte, Nat.reduceEqDiff, Nat.reduceAdd, Nat.reduceMul, Nat.reduceLeDiff, Nat.reduceLT, reduceCtorEq, TFRgB, k1, hV', FR]); (try simp [resA, Fn, look, k1, hV', FR]); done)
      | go_step
      | omega
      | (simp only [maxLen_eq]; omega)
theorem Within_ct (W G k w now at_ : Nat) (hg : goP W G) (h : GoOk W G k w) (hn : now ≤ 253402300799) (ha : at_ ≤ 253402300799) :
    ACt Try.prog 35 [iv .i64 W, iv .i64 G, iv .i64 now, iv .i64 at_] [] (Fn (bv (decide (now / w < at_ / w + k)))) := by
  refine ACt.intro Try.func35 rfl (by kernel_rfl) (by simp [Try.ntmps35]) (fun cx => ?_)
  simp only [argE, Try.ntmps35, Try.results35]
  have c1 := Buckets_ct W G hg
  rw [← h.hk] at c1
  have hk1 := h.k1
  have hk2 := h.k2
  have hw1 := h.w0
  have n1 : ¬ (k : Int) = 0 := by omega
  have n2 : ¬ (w : Int) = 0 := by omega
  have e1 : (W : Int).tdiv (k : Int) = (w : Int) := by rw [h.hw, Int.tdiv_eq_ediv_of_nonneg (by omega)]; simp
  have hwW : w ≤ W := by rw [h.hw]; exact Nat.div_le_self _ _
  have hW := h.w2
  have e2 : IntKind.i64.wrap (w : Int) = (w : Int) := wrap_i64_nat (by omega)
  obtain ⟨A, hA⟩ : ∃ A, A = now / w := ⟨_, rfl⟩
  obtain ⟨B, hB⟩ : ∃ B, B = at_ / w := ⟨_, rfl⟩
  have hn2 : A ≤ now := by rw [hA]; exact Nat.div_le_self now w
  have ha2 : B ≤ at_ := by rw [hB]; exact Nat.div_le_self at_ w
  have e3 : (now : Int).tdiv (w : Int) = (A : Int) := by rw [hA, Int.tdiv_eq_ediv_of_nonneg (by omega)]; simp
  have e4 : IntKind.i64.wrap (A : Int) = (A : Int) := wrap_i64_nat (by omega)
  have e5 : (at_ : Int).tdiv (w : Int) = (B : Int) := by rw [hB, Int.tdiv_eq_ediv_of_nonneg (by omega)]; simp
  have e6 : IntKind.i64.wrap (B : Int) = (B : Int) := wrap_i64_nat (by omega)
  have e7 : IntKind.i64.wrap ((A : Int) - (k : Int)) = (A : Int) - (k : Int) := wrap_i64 (by omega) (by omega)
  have e8 : decide ((B : Int) > (A : Int) - (k : Int)) = decide (A < B + k) := by rw [Bool.eq_iff_iff]; simp only [decide_eq_true_eq]; omega
  rw [← hA, ← hB]
  first | (have FRx := FR; clear FRx) | (have FR : ¬ ((1 : Nat) = 0) := Nat.one_ne_zero)
  repeat' first
    | (refine Sm.mk ?_; try simp -dsimp only [ZK, rvc, drawF, headN, pureH, stp, dvc, calleeOf, gcall, pev, eff, newB, okd, og, ogs, ogo, ogp, slv, bltv, opd, litv, strip, one, both, putE, St.put, look, gdOf, gdv, picka, pickv, pickw, binv, bini, bins, binb, binp, bina, shp, eqCells, unv, convv, nilv, faddv, addp, idxav, idxp, load1, load1m, loadn, loadnm, loadv, hget, hset, hrep, hdel, slicev, bnd, shift1, lenv, IntKind.bits, extractv, fieldv, indexv, min2v, max2v, mkiv, cellsA, fillA, buildv, stC, oneC, rowMB, intsA, plN, appE, appZ, appC, appNZ, appNC, VwL, srcC, srcZ, srcM, isBoolT, isPtrT, isSliceT, uOk, Value.oneCell', Nat.reducePow, Int.reducePow, Nat.reduceAdd, Nat.reduceMul, Nat.reduceSub, Nat.reduceLT, Nat.reduceLeDiff, Nat.reduceEqDiff, Nat.reduceBEq, Nat.reduceDiv, Nat.reduceMod, ↓reduceIte, reduceCtorEq, Int.reduceToNat, Int.reduceLT, Int.reduceLE, TFRgB, SeqQ, BlkQ, LoopQ, BodyQ, n1, n2, e1, e2, e3, e4, e5, e6, e7, e8, FR])
    | (first | refine CallV.fn (c1) (Sm.out ?_) | refine ExF.mk (c1) (Sm.out ?_) | refine ExG.mk (fun _ => c1) (Sm.out ?_) | refine ExG.mkJ (fun _ => c1) (Sm.out ?_) | refine ExG.mkI (Ob.out ?_) (fun _ => c1) (Sm.out ?_))
    | (refine WP.seq fun K hK => ?_)
    | (refine WP.region (rvc_sound _ _ (Sm.out ?_)))
    | (refine WP.drawK rfl mixed (by decide +kernel) (Sm.out ?_))
    | (refine Ob.mk ?_; focus (first | assumption | omega | decide | trivial | (intro hob; simp only [hob, ZF]; done) | (intros; (repeat' refine And.intro ?_ ?_) <;> first | assumption | omega | trivial | decide) | (intros; simp only [ZE] at *; (repeat' refine And.intro ?_ ?_) <;> first | assumption | omega | trivial)))
    | (refine And.intro (Ob.out ?_) ?_)
    | (refine WP.block ?_)
    | (refine WP.cond rfl (fun hc => ?_) (fun hc => ?_) <;> (try simp only [ZC, reduceCtorEq, ZD] at hc) <;> (try (exact absurd hc (by decide))) <;> (try (exfalso; omega)))
    | ((first | refine WP.skip ?_ | refine WP.exit ?_); simp only [SeqQ, BlkQ, LoopQ, BodyQ, ↓reduceIte, Nat.reduceEqDiff, reduceCtorEq, look, true_and])
    | (refine WP.ret (Sm.out ?_))
    | (first | refine ExG.no (Sm.out ?_) | refine Or.inl (ExG.no (Sm.out ?_)) | refine Or.inl (And.intro (fun hg => absurd hg (by decide)) (ExG.no (Sm.out ?_))))
    | (refine Rt.mk ?_; refine And.intro ?_ ?_ <;> (intro hg; first | exact absurd hg (by decide) | refine Sm.out ?_))
    | (refine Nu.mk ?_; first | (fail_if_success (have := nb1)); intro nb1 | (fail_if_success (have := nb2)); intro nb2 | (fail_if_success (have := nb3)); intro nb3 | intro nbz)
    | (refine Fr.mk ?_; intro hfr; replace FR := And.intro hfr FR; clear hfr; refine Sm.out ?_)
    | (refine Two.mk ?_ ?_)
    | (refine Cs.mk ?_; intro hcs; first | exact False.elim hcs | (exfalso; omega) | (refine Sm.out ?_))
    | (refine OutQ.all ?_ ?_; (focus (simp only [resv, ZK, look, loadv, loadn, loadnm, load1, load1m, hget, ↓reduceIte, Nat.reduceEqDiff, Nat.reduceAdd, Nat.reduceMul, Nat.reduceLeDiff, Nat.reduceLT, reduceCtorEq, TFRgB, n1, n2, e1, e2, e3, e4, e5, e6, e7, e8, FR])); (try simp only [resv, resA, Fn, ZK, look, loadv, loadn, loadnm, load1, load1m, hget, ↓reduceIte, Nat.reduceEqDiff, Nat.reduceAdd, Nat.reduceMul, Nat.reduceLeDiff, Nat.reduceLT, reduceCtorEq, TFRgB, n1, n2, e1, e2, e3, e4, e5, e6, e7, e8, FR]); (try simp [resA, Fn, look, n1, n2, e1, e2, e3, e4, e5, e6, e7, e8, FR]); done)
    | go_step
    | omega
    | (simp only [maxLen_eq]; omega)
end Go.Proofs.Ytbnkmhlnoaebcaa
