/- More of the operations that hang on their operands alone: tests for nil, structs held against each other, literals, cuts of slices. -/
import Derived.Test.YthkpgjnibolnhaaAbsD
set_option linter.unusedSimpArgs false
set_option linter.unusedVariables false
namespace Go.Ab

def K1.isTy (P : Program) (k : K1) (t : TypeId) : Bool :=
  match k, P.underlying t with
  | .b, some .bool => true
  | .s, some .string => true
  | .i k, some (.int k') => decide (k = k')
  | _, _ => false

def flatKs (P : Program) : List Field → Nat → List K1 → Bool
  | [], _, [] => true
  | f :: fs, off, k :: ks => f.name != "_" && f.offset == off && k.isTy P f.type && flatKs P fs (off + 1) ks
  | _, _, _ => false

theorem isTy_isAgg {P : Program} {k : K1} {t : TypeId} (h : k.isTy P t = true) (w : World) : (isAgg t).run P w = .ok false w := by
  cases hd : P.underlying t with
  | none => cases k <;> simp [K1.isTy, hd] at h
  | some d =>
    rw [run_isAgg hd, hd]
    cases k <;> cases d <;> simp_all [K1.isTy, isAggD]

theorem keq1_run {P : Program} {w : World} {γ : Gh} {k : K1} {t : TypeId} {c d : AV} {u v : Value} (hk : k.isTy P t = true) (hc : k.fits c = true) (hd : k.fits d = true) (rc : Rep γ w c u) (rd : Rep γ w d v) (n : Nat) :
    (Op.equalIn (n + 1) t u v).run P w = .ok (c.keq1 d) w := by
  cases k with
  | b =>
    have ht : P.underlying t = some .bool := by
      cases hu : P.underlying t with
      | none => simp [K1.isTy, hu] at hk
      | some x => cases x <;> simp_all [K1.isTy]
    cases c <;> simp [K1.fits] at hc
    cases d <;> simp [K1.fits] at hd
    cases rc; cases rd
    rw [run_equalIn_bool' w n t _ _ ht]; rfl
  | s =>
    have ht : P.underlying t = some .string := by
      cases hu : P.underlying t with
      | none => simp [K1.isTy, hu] at hk
      | some x => cases x <;> simp_all [K1.isTy]
    cases c <;> simp [K1.fits] at hc
    cases d <;> simp [K1.fits] at hd
    cases rc; cases rd
    rw [run_equalIn_string w n t _ _ ht, toList_of, toList_of]; rfl
  | i k =>
    have ht : P.underlying t = some (.int k) := by
      cases hu : P.underlying t with
      | none => simp [K1.isTy, hu] at hk
      | some x => cases x <;> simp_all [K1.isTy]
    cases c <;> simp [K1.fits] at hc
    cases d <;> simp [K1.fits] at hd
    subst hc; subst hd
    cases rc; cases rd
    rw [run_equalIn_int w n t _ _ _ _ ht]; rfl

theorem eqFields_run {P : Program} {w : World} {γ : Gh} (n : Nat) (xs ys : Array Value) : ∀ (fs : List Field) (off : Nat) (ks : List K1) (as bs : List AV), flatKs P fs off ks = true → fitsAll ks as = true → fitsAll ks bs = true →
    (∀ i c, as[i]? = some c → ∃ v, xs[off + i]? = some v ∧ Rep γ w c v) → (∀ i c, bs[i]? = some c → ∃ v, ys[off + i]? = some v ∧ Rep γ w c v) →
    (Op.eqFields (n + 1) xs ys fs).run P w = .ok (keqs as bs) w
  | [], _, [], [], [], _, _, _, _, _ => rfl
  | [], _, [], _ :: _, _, _, h, _, _, _ => by simp [fitsAll] at h
  | [], _, [], [], _ :: _, _, _, h, _, _ => by simp [fitsAll] at h
  | [], _, _ :: _, _, _, h, _, _, _, _ => by simp [flatKs] at h
  | _ :: _, _, [], _, _, h, _, _, _, _ => by simp [flatKs] at h
  | _ :: _, _, _ :: _, [], _, _, h, _, _, _ => by simp [fitsAll] at h
  | _ :: _, _, _ :: _, _ :: _, [], _, _, h, _, _ => by simp [fitsAll] at h
  | f :: fs, off, k :: ks, a :: as, b :: bs, hf, ha, hb, hx, hy => by
    simp only [flatKs, Bool.and_eq_true, bne_iff_ne, ne_eq, beq_iff_eq] at hf
    obtain ⟨⟨⟨hname, hoff⟩, hty⟩, hrest⟩ := hf
    simp only [fitsAll, Bool.and_eq_true] at ha hb
    obtain ⟨u, hu, ru⟩ := hx 0 a rfl
    obtain ⟨v, hv, rv⟩ := hy 0 b rfl
    simp only [Nat.add_zero] at hu hv
    have ih := eqFields_run n xs ys fs (off + 1) ks as bs hrest ha.2 hb.2
      (fun i c hc => by have := hx (i + 1) c (by simpa using hc); rwa [show off + (i + 1) = off + 1 + i by omega] at this)
      (fun i c hc => by have := hy (i + 1) c (by simpa using hc); rwa [show off + (i + 1) = off + 1 + i by omega] at this)
    have p1 : (part f.type xs f.offset).run P w = .ok u w := by simp [part, isTy_isAgg hty, hoff, hu]
    have p2 : (part f.type ys f.offset).run P w = .ok v w := by simp [part, isTy_isAgg hty, hoff, hv]
    have e1 := keq1_run hty ha.1 hb.1 ru rv n
    simp only [Op.eqFields, hname, not_false_eq_true, ne_eq, if_true, Sem.run_bind, p1, p2, e1, Result.andThen_ok]
    cases hab : a.keq1 b
    · simp [keqs, hab]
    · simp [keqs, hab, ih]

theorem eqa_ok {P : Program} {o : Oper} {op : BinOp} {neg : Bool} {t u : TypeId} {x y : Operand} {x' y' : Opd} {ks : List K1} {fs : Array Field} (ho : o.op = .binOp op t x y u) (h : chkO x x' = true) (h2 : chkO y y' = true)
    (hop : op = if neg then .neq else .eql) (ht : P.underlying t = some (.struct fs)) (hks : flatKs P fs.toList 0 ks = true) (hp : P.stoodInHeld t = false) (hg : P.eqGuardType P.depth t = false) : PureOk P o (.eqa neg ks x' y') := by
  intro γ w ρ a c he hc
  have r1 := chkO_rep h he
  have r2 := chkO_rep h2 he
  simp only [pev] at hc
  cases hx : x'.ev ρ <;> simp only [hx] at hc r1 <;> try (cases hc; done)
  cases hy : y'.ev ρ <;> simp only [hy] at hc r2 <;> try (cases hc; done)
  rename_i as bs
  split at hc
  · rename_i hk
    obtain ⟨hk1, hk2⟩ := hk
    simp only [Option.some.injEq] at hc
    subst hc
    generalize hv : a.eval x = v at r1
    generalize hu : a.eval y = v' at r2
    cases r1 with
    | agg _ vs hl h1 hr =>
      cases r2 with
      | agg _ us hl' h1' hr' =>
        have hfo : P.fieldsOf t = fs := by simp [Program.fieldsOf, ht]
        have hrun : (Op.equalIn 10000 t (.agg vs.toArray) (.agg us.toArray)).run P w = .ok (keqs as bs) w := by
          rw [run_equalIn_struct w 9999 t _ _ (by rw [hfo]; exact ht) hp, hfo]
          refine eqFields_run (γ := γ) 9998 _ _ fs.toList 0 ks as bs hks hk1 hk2 (fun i c hc => ?_) (fun i c hc => ?_)
          · have hi : i < vs.length := by rw [← hl]; exact (List.getElem?_eq_some_iff.1 hc).1
            exact ⟨vs[i], by simp [hi], hr i c _ hc (List.getElem?_eq_getElem hi)⟩
          · have hi : i < us.length := by rw [← hl']; exact (List.getElem?_eq_some_iff.1 hc).1
            exact ⟨us[i], by simp [hi], hr' i c _ hc (List.getElem?_eq_getElem hi)⟩
        refine pure_same (v := .bool (if neg = true then !keqs as bs else keqs as bs)) ?_ (.bool _)
        cases neg <;> simp only [Bool.false_eq_true, if_false, if_true] at hop ⊢ <;> subst hop <;>
          simp only [execOp, ho, hv, hu, Sem.run_bind, run_eqGuard_agg w _ t x y _ _ hg, Result.andThen_ok, run_eql_struct, run_neq_struct, hrun, Sem.run_pure]
  · cases hc

def nilTy (nk : NK) (d : Option TypeDesc) (y : Operand) : Bool :=
  match nk, d, y with
  | .s, some (.slice _), .const (.slice none 0 0) => true
  | .p, some (.pointer _), .const (.pointer none) => true
  | .m, some (.map _ _), .const (.map none) => true
  | .f, some (.func _ _ _), .const .nilFunc => true
  | _, _, _ => false

theorem isnil_ok {P : Program} {o : Oper} {nk : NK} {t u : TypeId} {x y : Operand} {x' : Opd} (ho : o.op = .binOp .eql t x y u) (h : chkO x x' = true) (ht : nilTy nk (P.underlying t) y = true) : PureOk P o (.isnil nk x') := by
  intro γ w ρ a c he hc
  have r1 := chkO_rep h he
  simp only [pev] at hc
  have fin : ∀ v c b, a.eval x = v → (∀ cs, v ≠ .agg cs) → v ≠ .nilIface → (Op.equalIn 10000 t v (a.eval y)).run P w = .ok b w → (binOp .eql t v (a.eval y) = do pure (.bool (← Op.equal t v (a.eval y)))) → Rep γ w c (.bool b) →
      ∃ v γ' w', (execOp a.eval o).run P w = .ok (.value v) w' ∧ Ext (fun _ => False) γ w γ' w' ∧ Rep γ' w' c v := by
    intro v c b hv hna hni hr hb hrep
    refine pure_same (v := .bool b) ?_ hrep
    simp only [execOp, ho, hv, Sem.run_bind, eqGuard_plain _ t x y v _ hna hni, Result.andThen_ok, hb, Op.equal, Op.maxDepth, hr, Sem.run_pure]
  unfold nilTy at ht
  split at ht
  · rename_i e hu
    cases hx : x'.ev ρ <;> simp only [hx] at hc r1 <;> try (cases hc; done)
    rename_i own sz xs
    generalize hv : a.eval x = v at r1
    have hb : ∀ b : Option Addr, ∀ l k, (Op.equalIn 10000 t (.slice b l k) (.slice none 0 0)).run P w = .ok b.isNone w := fun b l k => by
      rw [Op.equalIn]; cases b <;> simp [run_underlying hu]
    cases r1 with
    | slnil _ _ hown =>
      refine fin _ c true hv (by simp) (by simp) (hb none 0 0) rfl ?_
      cases own <;> simp only [Option.some.injEq] at hc <;> subst hc <;> first | exact .bool _ | exact .ubool _ _ (by simp)
    | sl0 _ _ ad ho0 =>
      refine fin _ c false hv (by simp) (by simp) (hb (some ad) 0 0) rfl ?_
      rcases ho0 with rfl | rfl <;> simp only [Option.some.injEq] at hc <;> subst hc <;> exact .ubool _ _ (by simp)
    | sl _ _ _ b oo cap cv hcap hm huni hcell hr hown =>
      refine fin _ c false hv (by simp) (by simp) (hb (some ⟨b, oo, none⟩) xs.length cap) rfl ?_
      cases own <;> simp only [Option.some.injEq] at hc
      · subst hc; exact .ubool _ _ (by simp)
      · exact hown.elim
      · subst hc; exact .ubool _ _ (by simp)
      · subst hc; exact .ubool _ _ (by simp)
  · rename_i e hu
    have hb : ∀ b : Option Addr, (Op.equalIn 10000 t (.pointer b) (.pointer none)).run P w = .ok b.isNone w := fun b => by
      rw [Op.equalIn]; cases b <;> simp [run_underlying hu]
    cases hx : x'.ev ρ <;> simp only [hx] at hc r1 <;> try (cases hc; done)
    all_goals
      simp only [Option.some.injEq] at hc
      subst hc
      generalize hv : a.eval x = v at r1
      cases r1
      exact fin _ _ _ hv (by simp) (by simp) (hb _) rfl (.bool _)
  · rename_i k e hu
    have hb : ∀ b : Option Nat, (Op.equalIn 10000 t (.map b) (.map none)).run P w = .ok b.isNone w := fun b => by
      rw [Op.equalIn]; cases b <;> simp [run_underlying hu]
    cases hx : x'.ev ρ <;> simp only [hx] at hc r1 <;> try (cases hc; done)
    all_goals
      simp only [Option.some.injEq] at hc
      subst hc
      generalize hv : a.eval x = v at r1
      cases r1
      exact fin _ _ _ hv (by simp) (by simp) (hb _) rfl (.bool _)
  · rename_i p q r hu
    cases hx : x'.ev ρ <;> simp only [hx] at hc r1 <;> try (cases hc; done)
    · simp only [Option.some.injEq] at hc
      subst hc
      generalize hv : a.eval x = v at r1
      cases r1
      refine fin _ _ false hv (by simp) (by simp) ?_ rfl (.bool _)
      show (Op.equalIn 10000 t _ .nilFunc).run P w = _
      rw [Op.equalIn]; simp [run_underlying hu]
    · rename_i v0
      cases v0 <;> simp only [] at hc <;> try (cases hc; done)
      simp only [Option.some.injEq] at hc
      subst hc
      generalize hv : a.eval x = v at r1
      cases r1
      refine fin _ _ true hv (by simp) (by simp) ?_ rfl (.bool _)
      show (Op.equalIn 10000 t _ .nilFunc).run P w = _
      rw [Op.equalIn]; simp [run_underlying hu]
  · cases ht

theorem isnn_ok {P : Program} {o : Oper} {nk : NK} {t u : TypeId} {x y : Operand} {x' : Opd} (ho : o.op = .binOp .neq t x y u) (h : chkO x x' = true) (ht : nilTy nk (P.underlying t) y = true) : PureOk P o (.isnn nk x') := by
  intro γ w ρ a c he hc
  have r1 := chkO_rep h he
  simp only [pev] at hc
  have fin : ∀ v c b, a.eval x = v → (∀ cs, v ≠ .agg cs) → v ≠ .nilIface → (Op.equalIn 10000 t v (a.eval y)).run P w = .ok b w → (binOp .neq t v (a.eval y) = do pure (.bool (!(← Op.equal t v (a.eval y))))) → Rep γ w c (.bool !b) →
      ∃ v γ' w', (execOp a.eval o).run P w = .ok (.value v) w' ∧ Ext (fun _ => False) γ w γ' w' ∧ Rep γ' w' c v := by
    intro v c b hv hna hni hr hb hrep
    refine pure_same (v := .bool !b) ?_ hrep
    simp only [execOp, ho, hv, Sem.run_bind, eqGuard_plain _ t x y v _ hna hni, Result.andThen_ok, hb, Op.equal, Op.maxDepth, hr, Sem.run_pure]
  unfold nilTy at ht
  split at ht
  · rename_i e hu
    cases hx : x'.ev ρ <;> simp only [hx] at hc r1 <;> try (cases hc; done)
  · rename_i e hu
    have hb : ∀ b : Option Addr, (Op.equalIn 10000 t (.pointer b) (.pointer none)).run P w = .ok b.isNone w := fun b => by
      rw [Op.equalIn]; cases b <;> simp [run_underlying hu]
    cases hx : x'.ev ρ <;> simp only [hx] at hc r1 <;> try (cases hc; done)
    all_goals
      simp only [Option.some.injEq] at hc
      subst hc
      generalize hv : a.eval x = v at r1
      cases r1
      exact fin _ _ _ hv (by simp) (by simp) (hb _) rfl (.bool _)
  · rename_i k e hu
    have hb : ∀ b : Option Nat, (Op.equalIn 10000 t (.map b) (.map none)).run P w = .ok b.isNone w := fun b => by
      rw [Op.equalIn]; cases b <;> simp [run_underlying hu]
    cases hx : x'.ev ρ <;> simp only [hx] at hc r1 <;> try (cases hc; done)
    all_goals
      simp only [Option.some.injEq] at hc
      subst hc
      generalize hv : a.eval x = v at r1
      cases r1
      exact fin _ _ _ hv (by simp) (by simp) (hb _) rfl (.bool _)
  · rename_i p q r hu
    cases hx : x'.ev ρ <;> simp only [hx] at hc r1 <;> try (cases hc; done)
    · simp only [Option.some.injEq] at hc
      subst hc
      generalize hv : a.eval x = v at r1
      cases r1
      refine fin _ _ false hv (by simp) (by simp) ?_ rfl (.bool _)
      show (Op.equalIn 10000 t _ .nilFunc).run P w = _
      rw [Op.equalIn]; simp [run_underlying hu]
    · rename_i v0
      cases v0 <;> simp only [] at hc <;> try (cases hc; done)
      simp only [Option.some.injEq] at hc
      subst hc
      generalize hv : a.eval x = v at r1
      cases r1
      refine fin _ _ true hv (by simp) (by simp) ?_ rfl (.bool _)
      show (Op.equalIn 10000 t _ .nilFunc).run P w = _
      rw [Op.equalIn]; simp [run_underlying hu]
  · cases ht

/-- Values laid into cells, one part behind the other. -/
theorem splice_foldl (vs : Array Value) : ∀ (off : Nat) (cs : List Value), off + vs.size ≤ cs.length →
    (vs.zipIdx.foldl (fun cs (c, j) => cs.setIfInBounds (off + j) c) cs.toArray) = (cs.take off ++ vs.toList ++ cs.drop (off + vs.size)).toArray := by
  obtain ⟨l⟩ := vs
  intro off cs h
  simp only [List.size_toArray] at h
  have key : ∀ (l : List Value) (k off : Nat) (cs : List Value), off + k + l.length ≤ cs.length →
      ((l.zipIdx k).foldl (fun (cs : Array Value) (x : Value × Nat) => cs.setIfInBounds (off + x.2) x.1) cs.toArray) = (cs.take (off + k) ++ l ++ cs.drop (off + k + l.length)).toArray := by
    intro l
    induction l with
    | nil => intro k off cs h; simp
    | cons x l ih =>
      intro k off cs h
      simp only [List.length_cons] at h
      simp only [List.zipIdx_cons, List.foldl_cons, List.setIfInBounds_toArray]
      rw [ih (k + 1) off _ (by simp; omega)]
      congr 1
      have h1 : (cs.set (off + k) x).take (off + (k + 1)) = cs.take (off + k) ++ [x] := by
        rw [show off + (k + 1) = off + k + 1 by omega, List.take_succ_eq_append_getElem (by simp; omega)]
        rw [List.take_set_of_le (by omega)]
        simp
      have h2 : (cs.set (off + k) x).drop (off + (k + 1) + l.length) = cs.drop (off + k + (l.length + 1)) := by
        rw [List.drop_set_of_lt (by omega)]
        congr 1
        omega
      rw [h1, h2]
      simp
  have := key l 0 off cs (by omega)
  have hz : (l.toArray.zipIdx) = (l.zipIdx 0).toArray := by simp
  rw [hz, List.foldl_toArray']
  · simpa using this
  · simp

def fillRel (γ : Gh) (w : World) (cs : List AV) (vs : List Value) : Prop :=
  cs.length = vs.length ∧ (∀ (i : Nat) (v : Value), vs[i]? = some v → v.oneCell' = true) ∧ ∀ (i : Nat) (c : AV) (v : Value), cs[i]? = some c → vs[i]? = some v → Rep γ w c v

theorem fillRel.append {γ : Gh} {w : World} {cs ds : List AV} {vs us : List Value} (h : fillRel γ w cs vs) (h' : fillRel γ w ds us) : fillRel γ w (cs ++ ds) (vs ++ us) :=
  ⟨by simp [h.1, h'.1], fun i u hu => by
    rcases Nat.lt_or_ge i vs.length with hi | hi
    · rw [List.getElem?_append_left hi] at hu; exact h.2.1 i u hu
    · rw [List.getElem?_append_right hi] at hu; exact h'.2.1 _ u hu,
   fun i d u hd hu => by
    rcases Nat.lt_or_ge i cs.length with hi | hi
    · rw [List.getElem?_append_left hi] at hd
      rw [List.getElem?_append_left (by rw [← h.1]; exact hi)] at hu
      exact h.2.2 i d u hd hu
    · rw [List.getElem?_append_right hi] at hd
      rw [List.getElem?_append_right (by rw [← h.1]; exact hi), ← h.1] at hu
      exact h'.2.2 _ d u hd hu⟩

theorem fillRel.take {γ : Gh} {w : World} {cs : List AV} {vs : List Value} (h : fillRel γ w cs vs) (n : Nat) : fillRel γ w (cs.take n) (vs.take n) :=
  ⟨by simp [h.1], fun i u hu => (by
    rw [List.getElem?_take] at hu
    split at hu
    · exact h.2.1 i u hu
    · cases hu),
   fun i d u hd hu => by
    rw [List.getElem?_take] at hd hu
    split at hd
    · rename_i hi; rw [if_pos hi] at hu; exact h.2.2 i d u hd hu
    · cases hd⟩

theorem fillRel.drop {γ : Gh} {w : World} {cs : List AV} {vs : List Value} (h : fillRel γ w cs vs) (n : Nat) : fillRel γ w (cs.drop n) (vs.drop n) :=
  ⟨by simp [h.1], fun i u hu => by rw [List.getElem?_drop] at hu; exact h.2.1 _ u hu,
   fun i d u hd hu => by rw [List.getElem?_drop] at hd hu; exact h.2.2 _ d u hd hu⟩

theorem fillRel.splice {γ : Gh} {w : World} {cs ds : List AV} {vs us : List Value} (h : fillRel γ w cs vs) (h' : fillRel γ w ds us) (off : Nat) :
    fillRel γ w (splice cs off ds) (vs.take off ++ us ++ vs.drop (off + us.length)) := by
  unfold Ab.splice
  rw [h'.1]
  exact ((h.take off).append h').append (h.drop _)

/-- The parts of a literal: the program's places against ours. -/
def chkParts (place : Nat → Option (Nat × Nat)) : List (Nat × Operand) → List (Nat × Nat × Opd) → Bool
  | [], [] => true
  | (i, x) :: r, (off, n, y) :: s => decide (place i = some (off, n)) && chkO x y && chkParts place r s
  | _, _ => false

def allBoxable (ρ : Env) : List (Nat × Nat × Opd) → Prop
  | [] => True
  | (_, _, x) :: r => (x.ev ρ).boxable = true ∧ allBoxable ρ r

theorem fill_run {γ : Gh} {w : World} {ρ : Env} {a : Act} (place : Nat → Option (Nat × Nat)) (he : EnvRel γ w ρ a.tmps) : ∀ (ps : List (Nat × Operand)) (qs : List (Nat × Nat × Opd)) (cs : List AV) (vs : List Value) (ds : List AV),
    chkParts place ps qs = true → fillA ρ cs qs = some ds → fillRel γ w cs vs →
    ∃ us, Instr.fill place vs.toArray (ps.map fun (i, x) => (i, a.eval x)) = some us.toArray ∧ fillRel γ w ds us
  | [], [], cs, vs, ds, _, hd, hr => by simp only [fillA, Option.some.injEq] at hd; subst hd; exact ⟨vs, rfl, hr⟩
  | [], _ :: _, _, _, _, h, _, _ => by simp [chkParts] at h
  | _ :: _, [], _, _, _, h, _, _ => by simp [chkParts] at h
  | (i, x) :: ps, (off, n, y) :: qs, cs, vs, ds, h, hd, hr => by
    simp only [chkParts, Bool.and_eq_true, decide_eq_true_eq] at h
    obtain ⟨⟨hp, hxy⟩, hrest⟩ := h
    simp only [fillA] at hd
    split at hd
    · rename_i hc
      obtain ⟨hlen, hle, hbox⟩ := hc
      obtain ⟨hl, h1, h2⟩ := (chkO_rep hxy he).cells hbox
      have hsz : (a.eval x).cells.size = n := by rw [← hlen, hl]; simp
      obtain ⟨us, hu, hru⟩ := fill_run place he ps qs _ _ ds hrest hd (hr.splice ⟨hl, h1, h2⟩ off)
      refine ⟨us, ?_, hru⟩
      simp only [List.map_cons, Instr.fill, hp]
      have hcond : ¬ ((decide ((a.eval x).cells.size ≠ n) || decide (off + (a.eval x).cells.size > vs.toArray.size)) = true) := by
        simp [hsz, ← hr.1]; omega
      rw [if_neg hcond, splice_foldl _ off vs (by rw [hsz, ← hr.1]; omega)]
      simpa using hu
    · cases hd

theorem flatten_length (sz : Nat) : ∀ (xs : List (List AV)), (∀ x ∈ xs, x.length = sz) → xs.flatten.length = xs.length * sz
  | [], _ => by simp
  | x :: xs, h => by
    have ih := flatten_length sz xs fun y hy => h y (List.mem_cons_of_mem _ hy)
    have hx := h x (List.mem_cons_self ..)
    simp only [List.flatten_cons, List.length_append, ih, hx, List.length_cons, Nat.add_mul]
    omega

theorem flatten_get (sz : Nat) : ∀ (xs : List (List AV)) (i j : Nat), (∀ x ∈ xs, x.length = sz) → j < sz → xs.flatten[i * sz + j]? = (xs[i]?).bind (·[j]?)
  | [], i, j, _, _ => by simp
  | x :: xs, 0, j, h, hj => by
    have hx := h x (List.mem_cons_self ..)
    simp only [Nat.zero_mul, Nat.zero_add, List.flatten_cons, List.getElem?_cons_zero, Option.bind_some]
    rw [List.getElem?_append_left (by omega)]
  | x :: xs, i + 1, j, h, hj => by
    have hx := h x (List.mem_cons_self ..)
    have ih := flatten_get sz xs i j (fun y hy => h y (List.mem_cons_of_mem _ hy)) hj
    simp only [List.flatten_cons, List.getElem?_cons_succ]
    rw [List.getElem?_append_right (by rw [hx, Nat.add_mul]; omega), hx, ← ih]
    congr 1
    rw [Nat.add_mul]
    omega

/-- A slice out of a row of cells. -/
theorem Rep.sl_flat {γ : Gh} {w : World} {o : Own} {sz : Nat} {xs : List (List AV)} {us : List Value} {b off cap : Nat} (hu : ∀ x ∈ xs, x.length = sz) (hl : xs.flatten.length = us.length)
    (hrow : ∀ (k : Nat) (u : Value), us[k]? = some u → CellIs γ w b (off + k) u) (hrel : ∀ (k : Nat) (c : AV) (u : Value), xs.flatten[k]? = some c → us[k]? = some u → Rep γ w c u)
    (hc : xs.length ≤ cap) (hm : cap ≤ maxLen) (ho : OwnOk w o ⟨b, off, none⟩ xs.length cap sz) : Rep γ w (.sl o sz xs) (.slice (some ⟨b, off, none⟩) xs.length cap) := by
  have hlen := flatten_length sz xs hu
  have hin : ∀ i x, xs[i]? = some x → ∀ j, j < sz → ∃ u, us[i * sz + j]? = some u := by
    intro i x hx j hj
    have hi : i < xs.length := (List.getElem?_eq_some_iff.1 hx).1
    have h1 : i * sz + j < us.length := by
      rw [← hl, hlen]
      have : (i + 1) * sz ≤ xs.length * sz := Nat.mul_le_mul_right _ hi
      rw [Nat.add_mul] at this
      omega
    exact ⟨us[i * sz + j], List.getElem?_eq_getElem h1⟩
  refine .sl o sz xs b off cap (fun i j => us.getD (i * sz + j) undef) hc hm hu (fun i x hx j hj => ?_) (fun i x hx j c hj => ?_) ho
  · obtain ⟨u, hu'⟩ := hin i x hx j hj
    have := hrow _ u hu'
    simpa [List.getD, hu'] using this
  · have hj' : j < sz := by
      have := (List.getElem?_eq_some_iff.1 hj).1
      rw [hu x (List.mem_of_getElem? hx)] at this
      exact this
    obtain ⟨u, hu'⟩ := hin i x hx j hj'
    have := hrel _ c u (by rw [flatten_get sz xs i j hu hj', hx]; exact hj) hu'
    simpa [List.getD, hu'] using this

/-- A row of cells out of a slice. -/
theorem Rep.flat {γ : Gh} {w : World} {o : Own} {sz : Nat} {xs : List (List AV)} {b off n cap : Nat} (h : Rep γ w (.sl o sz xs) (.slice (some ⟨b, off, none⟩) n cap)) :
    n = xs.length ∧ (∀ x ∈ xs, x.length = sz) ∧ xs.length ≤ cap ∧ cap ≤ maxLen ∧ OwnOk w o ⟨b, off, none⟩ xs.length cap sz ∧
    ∃ us : List Value, xs.flatten.length = us.length ∧ (∀ (k : Nat) (u : Value), us[k]? = some u → CellIs γ w b (off + k) u) ∧
      ∀ (k : Nat) (c : AV) (u : Value), xs.flatten[k]? = some c → us[k]? = some u → Rep γ w c u := by
  cases h with
  | sl0 _ _ _ ho => exact ⟨rfl, by simp, Nat.le_refl _, Nat.zero_le _, by rcases ho with rfl | rfl <;> simp [OwnOk], [], rfl, by simp, by simp⟩
  | sl _ _ _ _ _ _ cv hc hm hu hcell hr ho =>
    have hlen := flatten_length sz xs hu
    refine ⟨rfl, hu, hc, hm, ho, (List.range (xs.length * sz)).map (fun k => cv (k / sz) (k % sz)), by simp [hlen], fun k u hk => ?_, fun k c u hck hk => ?_⟩
    · simp only [List.getElem?_map, Option.map_eq_some_iff] at hk
      obtain ⟨k', hk', rfl⟩ := hk
      obtain ⟨hlt, rfl⟩ : k < xs.length * sz ∧ k = k' := by
        obtain ⟨h1, h2⟩ := List.getElem?_eq_some_iff.1 hk'
        simp at h1 h2
        exact ⟨h1, h2⟩
      have hsz : 0 < sz := by rcases Nat.eq_zero_or_pos sz with h | h; · simp [h] at hlt
                              · exact h
      have hdiv : k / sz < xs.length := (Nat.div_lt_iff_lt_mul hsz).2 hlt
      have := hcell (k / sz) _ (List.getElem?_eq_getElem hdiv) (k % sz) (Nat.mod_lt _ hsz)
      rwa [Nat.mul_comm, Nat.div_add_mod] at this
    · simp only [List.getElem?_map, Option.map_eq_some_iff] at hk
      obtain ⟨k', hk', rfl⟩ := hk
      obtain ⟨hlt, rfl⟩ : k < xs.length * sz ∧ k = k' := by
        obtain ⟨h1, h2⟩ := List.getElem?_eq_some_iff.1 hk'
        simp at h1 h2
        exact ⟨h1, h2⟩
      have hsz : 0 < sz := by rcases Nat.eq_zero_or_pos sz with h | h; · simp [h] at hlt
                              · exact h
      have hdiv : k / sz < xs.length := (Nat.div_lt_iff_lt_mul hsz).2 hlt
      have hg := flatten_get sz xs (k / sz) (k % sz) hu (Nat.mod_lt _ hsz)
      rw [Nat.mul_comm, Nat.div_add_mod, hck, List.getElem?_eq_getElem hdiv] at hg
      exact hr (k / sz) _ (List.getElem?_eq_getElem hdiv) (k % sz) c hg.symm

/-- The parts of a slice's literal. -/
def chkPartsS : List (Nat × Operand) → List (Nat × Opd) → Bool
  | [], [] => true
  | (i, x) :: r, (k, y) :: s => i == k && chkO x y && chkPartsS r s
  | _, _ => false

theorem splice_flatten (sz : Nat) (c : List AV) (hc : c.length = sz) : ∀ (xs : List (List AV)) (i : Nat), (∀ x ∈ xs, x.length = sz) → i < xs.length → splice xs.flatten (i * sz) c = (xs.set i c).flatten
  | [], _, _, h => by simp at h
  | x :: xs, 0, h, _ => by
    have hx := h x (List.mem_cons_self ..)
    simp [splice, hc, ← hx]
  | x :: xs, i + 1, h, hi => by
    have hx := h x (List.mem_cons_self ..)
    have ih := splice_flatten sz c hc xs i (fun y hy => h y (List.mem_cons_of_mem _ hy)) (by simpa using hi)
    simp only [List.flatten_cons, List.set_cons_succ]
    rw [← ih]
    unfold splice
    have e1 : (i + 1) * sz = x.length + i * sz := by rw [Nat.add_mul, hx]; omega
    rw [e1, List.take_length_add_append, show x.length + i * sz + c.length = x.length + (i * sz + c.length) by omega, List.drop_length_add_append]
    simp

theorem strip1_rel {γ : Gh} {w : World} {cs : List AV} {vs : List Value} (h : fillRel γ w cs vs) : fillRel γ w (cs.map AV.strip1) vs :=
  ⟨by simpa using h.1, h.2.1, fun i c v hc hv => by
    rw [List.getElem?_map] at hc
    cases hx : cs[i]? with
    | none => simp [hx] at hc
    | some x => simp only [hx, Option.map_some, Option.some.injEq] at hc; subst hc; exact (h.2.2 i x v hx hv).strip1⟩

theorem fillS_run {γ : Gh} {w : World} {ρ : Env} {a : Act} {sz : Nat} (he : EnvRel γ w ρ a.tmps) : ∀ (ps : List (Nat × Operand)) (qs : List (Nat × Opd)) (xs : List (List AV)) (vs : List Value) (ys : List (List AV)),
    chkPartsS ps qs = true → fillS ρ sz xs qs = some ys → (∀ x ∈ xs, x.length = sz) → fillRel γ w xs.flatten vs →
    ∃ us : List Value, Instr.fill (fun i => some (i * sz, sz)) vs.toArray (ps.map fun (i, x) => (i, a.eval x)) = some us.toArray ∧ fillRel γ w ys.flatten us ∧ (∀ y ∈ ys, y.length = sz) ∧ ys.length = xs.length
  | [], [], xs, vs, ys, _, hd, hu, hr => by simp only [fillS, Option.some.injEq] at hd; subst hd; exact ⟨vs, rfl, hr, hu, rfl⟩
  | [], _ :: _, _, _, _, h, _, _, _ => by simp [chkPartsS] at h
  | _ :: _, [], _, _, _, h, _, _, _ => by simp [chkPartsS] at h
  | (i, x) :: ps, (k, y) :: qs, xs, vs, ys, h, hd, hu, hr => by
    simp only [chkPartsS, Bool.and_eq_true, beq_iff_eq] at h
    obtain ⟨⟨rfl, hxy⟩, hrest⟩ := h
    simp only [fillS] at hd
    split at hd
    · rename_i hc
      obtain ⟨hlen, hlt, hbox⟩ := hc
      have hcells : fillRel γ w ((y.ev ρ).cells.map AV.strip1) (a.eval x).cells.toList := strip1_rel ((chkO_rep hxy he).cells hbox)
      have hlen' : ((y.ev ρ).cells.map AV.strip1).length = sz := by simpa using hlen
      have hsz : (a.eval x).cells.size = sz := by rw [← hlen', hcells.1]; simp
      have hfl := flatten_length sz xs hu
      have hfit : i * sz + sz ≤ vs.length := by
        rw [← hr.1, hfl, ← Nat.succ_mul]
        exact Nat.mul_le_mul_right _ hlt
      have hspl := hr.splice hcells (i * sz)
      rw [splice_flatten sz _ hlen' xs i hu hlt] at hspl
      obtain ⟨us, hus, hru, huy, hly⟩ := fillS_run he ps qs _ _ ys hrest hd (fun z hz => by
        rcases List.mem_or_eq_of_mem_set hz with hz | hz
        · exact hu z hz
        · rw [hz]; exact hlen') hspl
      refine ⟨us, ?_, hru, huy, by rw [hly]; simp⟩
      simp only [List.map_cons, Instr.fill]
      have hcond : ¬ ((decide ((a.eval x).cells.size ≠ sz) || decide (i * sz + (a.eval x).cells.size > vs.toArray.size)) = true) := by
        simp [hsz]; omega
      rw [if_neg hcond, splice_foldl _ (i * sz) vs (by rw [hsz]; exact hfit)]
      simpa using hus
    · cases hd

theorem replicate_flatten (zero : List AV) (n : Nat) : ∀ (k : Nat), k < (List.replicate n zero).flatten.length → (List.replicate n zero).flatten[k]? = zero[k % zero.length]? := by
  induction n with
  | zero => simp
  | succ n ih =>
    intro k hk
    simp only [List.replicate_succ, List.flatten_cons, List.length_append] at hk ⊢
    rcases Nat.lt_or_ge k zero.length with h | h
    · rw [List.getElem?_append_left h, Nat.mod_eq_of_lt h]
    · rw [List.getElem?_append_right h, ih (k - zero.length) (by omega)]
      congr 1
      rw [Nat.mod_eq_sub_mod h]

theorem bls_ok {P : Program} {o : Oper} {t e : TypeId} {n sz : Nat} {parts : Array (Nat × Operand)} {qs : List (Nat × Opd)} {zero : List AV} {ei : TypeInfo} {z : Value} (ho : o.op = .buildSlice t n parts)
    (ht : P.underlying t = some (.slice e)) (hi : P.info? e = some ei) (hz : ei.zero = some z) (hsz : ei.size = sz) (hpos : 0 < sz) (hsmall : n * sz ≤ 2 ^ 24) (hzero : chkCs z.cells.toList zero = true)
    (hparts : chkPartsS parts.toList qs = true) : PureOk P o (.bls sz n zero qs) := by
  intro γ w ρ a c he hc
  simp only [pev] at hc
  split at hc
  · rename_i hzl
    cases hf : fillS ρ sz (List.replicate n zero) qs with
    | none => simp [hf] at hc
    | some ys =>
      simp only [hf, Option.map_some, Option.some.injEq] at hc
      subst hc
      obtain ⟨hz1, hz2, hz3⟩ := chkCs_rep hzero γ w
      have huni : ∀ x ∈ List.replicate n zero, x.length = sz := fun x hx => by rw [(List.mem_replicate.1 hx).2]; exact hzl
      have hfl : (List.replicate n zero).flatten.length = n * sz := by rw [flatten_length sz _ huni]; simp
      have hzs : z.cells.size = sz := by have := hz1; simp at this; omega
      -- the cells that the literal begins with
      have hstart : fillRel γ w (List.replicate n zero).flatten ((List.range (n * sz)).map (fun k => z.cells.toList.getD (k % sz) undef)) := by
        refine ⟨by simp [hfl], fun i v hv => ?_, fun i c v hc hv => ?_⟩
        · simp only [List.getElem?_map, Option.map_eq_some_iff] at hv
          obtain ⟨k, _, rfl⟩ := hv
          have hlt : k % sz < z.cells.toList.length := by simp [hzs]; exact Nat.mod_lt _ hpos
          exact hz2 (k % sz) _ (by rw [List.getD, List.getElem?_eq_getElem hlt]; rfl)
        · simp only [List.getElem?_map, Option.map_eq_some_iff] at hv
          obtain ⟨k, hk, rfl⟩ := hv
          obtain ⟨h1, h2⟩ := List.getElem?_eq_some_iff.1 hk
          simp at h1 h2
          subst h2
          rw [replicate_flatten zero n i (by rw [hfl]; exact h1), hzl] at hc
          have hlt : i % sz < z.cells.toList.length := by simp [hzs]; exact Nat.mod_lt _ hpos
          exact hz3 (i % sz) c _ hc (by rw [List.getD, List.getElem?_eq_getElem hlt]; rfl)
      obtain ⟨us, hus, hru, huy, hly⟩ := fillS_run he parts.toList qs _ _ ys hparts hf huni hstart
      have hlen : ys.length = n := by rw [hly]; simp
      have hext := ext_alloc (fun _ => False) γ w .imm us.toArray e
      have hcells : ∀ f : Nat → Value, ((List.range (n * sz)).map f).toArray = (Array.range (n * sz)).map f := fun f => by apply Array.ext'; simp
      refine ⟨.slice (some ⟨w.heap.size, 0, none⟩) n n, _, _, ?_, hext, ?_⟩
      · have hstart' : (Array.range (n * sz)).map (z.cells[· % z.cells.size]!) = ((List.range (n * sz)).map (fun k => z.cells.toList.getD (k % sz) undef)).toArray := by
          rw [hcells]
          apply Array.map_congr_left
          intro k hk
          have hlt : k % sz < z.cells.size := by rw [hzs]; exact Nat.mod_lt _ hpos
          rw [hzs]
          simp [List.getD, hlt]
        have hmap : (parts.map fun (x : Nat × Operand) => (x.1, a.eval x.2)).toList = parts.toList.map fun (i, x) => (i, a.eval x) := by simp
        have hnot : ¬ n * ei.size > 2 ^ 24 := by rw [hsz]; omega
        simp only [execOp, ho, Instr.buildSlice, Sem.run_bind, run_underlying ht, Result.andThen_ok, sizeOf, typeInfo, run_program, hi, Sem.run_pure, hsz, zeroValue, hz]
        rw [hsz] at hnot
        rw [← hstart'] at hus
        by_cases hn : n * sz = 0
        · have h0 : ∀ f : Nat → Value, (Array.range 0).map f = #[] := fun f => by apply Array.ext'; simp
          rw [hn, h0] at hus
          simp [hn, h0, hus, newRow]
        · simp [hn, hnot, hus, newRow, zeroValue, typeInfo, hi, hz]
      · rw [← hlen]
        refine Rep.sl_flat huy hru.1 (fun k u hk => ?_) (fun k c u hc hk => (hru.2.2 k c u hc hk).mono hext.mono) (by omega) ?_ rfl
        · refine ⟨?_, by simp [Prot], hru.2.1 k u hk⟩
          rw [Nat.zero_add, World.cell?_alloc_new]
          simpa using hk
        · have : n * 1 ≤ n * sz := Nat.mul_le_mul_left _ hpos
          unfold maxLen; omega
  · cases hc

theorem fillRel_of_chk {γ : Gh} {w : World} {vs : List Value} {cs : List AV} (h : chkCs vs cs = true) : fillRel γ w cs vs := let ⟨a, b, c⟩ := chkCs_rep h γ w; ⟨a, b, c⟩

/-- Where the parts of a struct or an array lie. -/
def placesB (P : Program) (t : TypeId) : Option (Nat → Option (Nat × Nat)) :=
  match P.underlying t with
  | some (.array _ e) => (P.info? e).map fun ie => fun i => some (i * ie.size, ie.size)
  | some (.struct fields) => (fields.toList.mapM (fun f => (P.info? f.type).map fun i => (f.offset, i.size))).map fun places => fun i => places.toArray[i]?
  | _ => none

theorem bld_ok {P : Program} {o : Oper} {t : TypeId} {parts : Array (Nat × Operand)} {qs : List (Nat × Nat × Opd)} {zero : List AV} {ti : TypeInfo} {z : Value} {place : Nat → Option (Nat × Nat)} (ho : o.op = .build t parts)
    (hi : P.info? t = some ti) (hz : ti.zero = some z) (hzero : chkCs z.cells.toList zero = true) (hpl : placesB P t = some place) (hparts : chkParts place parts.toList qs = true) : PureOk P o (.bld zero qs) := by
  intro γ w ρ a c he hc
  simp only [pev] at hc
  cases hf : fillA ρ zero qs with
  | none => simp [hf] at hc
  | some ds =>
    simp only [hf, Option.map_some, Option.some.injEq] at hc
    subst hc
    obtain ⟨us, hus, hr⟩ := fill_run place he parts.toList qs zero z.cells.toList ds hparts hf (fillRel_of_chk hzero)
    refine pure_same (v := .agg us.toArray) ?_ (.agg _ _ hr.1 hr.2.1 hr.2.2)
    have hbuilt : P.built t (parts.map fun (x : Nat × Operand) => (x.1, a.eval x.2)).toList = some us.toArray := by
      have hmap : (parts.map fun (x : Nat × Operand) => (x.1, a.eval x.2)).toList = parts.toList.map fun (i, x) => (i, a.eval x) := by simp
      rw [hmap]
      unfold placesB at hpl
      unfold Program.built
      cases hd : P.underlying t with
      | none => simp [hd] at hpl
      | some d =>
        cases d <;> simp only [hd] at hpl <;> try (cases hpl; done)
        · rename_i n e
          cases hie : P.info? e with
          | none => simp [hie] at hpl
          | some ie =>
            simp only [hie, Option.map_some, Option.some.injEq] at hpl
            subst hpl
            simp only [hi, hz, hie]
            simpa using hus
        · rename_i fields
          cases hm : fields.toList.mapM (fun f => (P.info? f.type).map fun i => (f.offset, i.size)) with
          | none => simp [hm] at hpl
          | some places =>
            simp only [hm, Option.map_some, Option.some.injEq] at hpl
            subst hpl
            simp only [hi, hz, hm]
            simpa using hus
    simp only [execOp, ho, Sem.run_bind, run_build w t _ _ hbuilt, Result.andThen_ok, Sem.run_pure]

/-- A cut of a slice. -/
theorem Rep.cut {γ : Gh} {w : World} {o : Own} {sz : Nat} {xs : List (List AV)} {ad : Option Addr} {n cap : Nat} (hr : Rep γ w (.sl o sz xs) (.slice ad n cap)) {l h m : Nat} (h1 : l ≤ h) (h2 : h ≤ xs.length) (h3 : h ≤ m) (h4 : m ≤ cap)
    (o' : Own) (ho' : o' = .no ∨ (o' = .full ∧ m = h) ∨ (o' = o.cut l ∧ h = xs.length ∧ m = cap)) : Rep γ w (.sl o' sz ((xs.take h).drop l)) (.slice (if m = l then ad else ad.map (·.add (l * sz))) (h - l) (m - l)) := by
  cases hr with
  | slnil _ _ hn =>
    simp only [List.length_nil] at h2
    have e1 : m = 0 := by omega
    have e2 : h = 0 := by omega
    have e3 : l = 0 := by omega
    subst e1; subst e2; subst e3
    simp only [List.take_nil, List.drop_nil, if_true, Nat.sub_self]
    exact .slnil o' sz (by
      rcases ho' with rfl | ⟨rfl, _⟩ | ⟨rfl, _⟩
      · simp
      · simp
      · cases o with
        | tip b d => exact absurd rfl (hn b d)
        | _ => simp [Own.cut])
  | sl0 _ _ ad hn =>
    simp only [List.length_nil] at h2
    have e1 : m = 0 := by omega
    have e2 : h = 0 := by omega
    have e3 : l = 0 := by omega
    subst e1; subst e2; subst e3
    simp only [List.take_nil, List.drop_nil, if_true, Nat.sub_self]
    exact .sl0 o' sz ad (by
      rcases ho' with rfl | ⟨rfl, _⟩ | ⟨rfl, _⟩
      · simp
      · simp
      · rcases hn with rfl | rfl <;> simp [Own.cut])
  | sl _ _ _ b off _ cv hc hm hu hcell hrr ho =>
    have hlen : ((xs.take h).drop l).length = h - l := by simp; omega
    have hget : ∀ i x, ((xs.take h).drop l)[i]? = some x → xs[l + i]? = some x ∧ l + i < h := by
      intro i x hx
      rw [List.getElem?_drop, List.getElem?_take] at hx
      split at hx
      · rename_i hlt; exact ⟨hx, hlt⟩
      · cases hx
    have hown : OwnOk w o' ⟨b, off + l * sz, none⟩ ((xs.take h).drop l).length (m - l) sz := by
      rcases ho' with rfl | ⟨rfl, rfl⟩ | ⟨rfl, rfl, rfl⟩
      · trivial
      · simpa [OwnOk] using hlen
      · cases o with
        | no => trivial
        | nil => exact ho.elim
        | full =>
          have : xs.length = m := ho
          show ((xs.take xs.length).drop l).length = m - l
          omega
        | tip b' d =>
          rcases ho with h0 | ⟨ha, arr, E, hb, hs⟩
          · exact .inl (by omega)
          · simp only [Addr.mk.injEq] at ha
            obtain ⟨rfl, rfl, _⟩ := ha
            refine .inr ⟨by rw [Nat.add_mul], arr, E, hb, ?_⟩
            rw [hs]
            congr 1
            omega
    have hown2 : m = l → OwnOk w o' ⟨b, off, none⟩ ((xs.take h).drop l).length (m - l) sz := by
      intro hml
      rcases ho' with rfl | ⟨rfl, rfl⟩ | ⟨rfl, rfl, rfl⟩
      · trivial
      · simpa [OwnOk] using hlen
      · cases o with
        | no => trivial
        | nil => exact ho.elim
        | full =>
          have : xs.length = m := ho
          show ((xs.take xs.length).drop l).length = m - l
          omega
        | tip b' d => exact .inl (by omega)
    rw [← hlen]
    split
    · rename_i hml
      have hnil : (xs.take h).drop l = [] := List.eq_nil_of_length_eq_zero (by omega)
      refine .sl o' sz _ b off (m - l) (fun _ _ => undef) (by omega) (by omega) (fun x hx => by rw [hnil] at hx; cases hx) (fun i x hx => by rw [hnil] at hx; simp at hx) (fun i x hx => by rw [hnil] at hx; simp at hx) (hown2 hml)
    · simp only [Option.map_some, addr_add]
      refine .sl o' sz _ b (off + l * sz) (m - l) (fun i j => cv (l + i) j) (by omega) (by omega) (fun x hx => ?_) (fun i x hx j hj => ?_) (fun i x hx j c hj => ?_) hown
      · exact hu x (List.mem_of_mem_take (List.mem_of_mem_drop hx))
      · obtain ⟨hx', _⟩ := hget i x hx
        have := hcell (l + i) x hx' j hj
        rw [show off + l * sz + (i * sz + j) = off + ((l + i) * sz + j) by rw [Nat.add_mul]; omega]
        exact this
      · obtain ⟨hx', _⟩ := hget i x hx
        exact hrr (l + i) x hx' j c hj

/-- The bounds of s[l:h:m]. -/
theorem bounds3_run {P : Program} {w : World} {γ : Gh} {ρ : Env} {a : Act} (len cap : Nat) {lo hi : Option Operand} {m0 : Operand} {lo' hi' : Option Opd} {m0' : Opd} (hlo : chkOo lo lo' = true) (hhi : chkOo hi hi' = true) (hmx : chkO m0 m0' = true)
    (he : EnvRel γ w ρ a.tmps) {l h m : Int} (hl : bound 0 ρ lo' = some l) (hh : bound len ρ hi' = some h) (hm : bound 0 ρ (some m0') = some m) (hhs : hi'.isSome = true) (h0 : 0 ≤ l) (h1 : l ≤ h) (h2 : h ≤ m) (h3 : m ≤ cap) :
    (Instr.sliceBounds true len cap (lo.map a.eval) (hi.map a.eval) (some (a.eval m0))).run P w = .ok (l.toNat, h.toNat, m.toNat) w := by
  obtain ⟨km, hkm⟩ := bound_run (P := P) (chkO_rep hmx he) hm
  cases hi with
  | none => cases hi' <;> simp [chkOo] at hhi hhs
  | some x =>
    cases hi' with
    | none => cases hhi
    | some y =>
      obtain ⟨kh, hkh⟩ := bound_run (P := P) (chkO_rep hhi he) hh
      have b0 : ∀ k code, (Instr.sliceBound (.int k m) cap code).run P w = .ok m.toNat w := fun k code => sliceBound_run k m cap code (by omega) (by omega)
      have b1 : ∀ k code, (Instr.sliceBound (.int k h) m.toNat code).run P w = .ok h.toNat w := fun k code => sliceBound_run k h _ code (by omega) (by omega)
      have b2 : ∀ k code, (Instr.sliceBound (.int k l) h.toNat code).run P w = .ok l.toNat w := fun k code => sliceBound_run k l _ code h0 (by omega)
      unfold Instr.sliceBounds
      cases lo with
      | none =>
        cases lo' with
        | some y => cases hlo
        | none =>
          have : l = 0 := by simpa [bound] using hl.symm
          subst this
          simp [hkm, hkh, b0, b1]
      | some x2 =>
        cases lo' with
        | none => cases hlo
        | some y2 =>
          obtain ⟨kl, hkl⟩ := bound_run (P := P) (chkO_rep hlo he) hl
          simp [hkm, hkh, hkl, b0, b1, b2]

theorem Rep.slice_form {γ : Gh} {w : World} {o : Own} {sz : Nat} {xs : List (List AV)} {v : Value} (h : Rep γ w (.sl o sz xs) v) : ∃ ad cap, v = .slice ad xs.length cap ∧ xs.length ≤ cap := by
  cases h with
  | slnil _ _ _ => exact ⟨none, 0, rfl, Nat.le_refl _⟩
  | sl0 _ _ ad _ => exact ⟨some ad, 0, rfl, Nat.le_refl _⟩
  | sl _ _ _ b off cap cv hc _ _ _ _ _ => exact ⟨_, cap, rfl, hc⟩

theorem sll_ok {P : Program} {o : Oper} {t e : TypeId} {x : Operand} {lo hi mx : Option Operand} {x' : Opd} {lo' hi' mx' : Option Opd} {sz : Nat} {ei : TypeInfo} (ho : o.op = .slice t x lo hi mx) (h : chkO x x' = true) (hlo : chkOo lo lo' = true)
    (hhi : chkOo hi hi' = true) (hmx : chkOo mx mx' = true) (hsome : mx'.isSome = true → hi'.isSome = true) (ht : P.underlying t = some (.slice e)) (hei : P.info? e = some ei) (hsz : ei.size = sz) : PureOk P o (.sll sz x' lo' hi' mx') := by
  intro γ w ρ a c he hc
  have r1 := chkO_rep h he
  simp only [pev] at hc
  cases hx : x'.ev ρ <;> simp only [hx] at hc r1 <;> try (cases hc; done)
  rename_i own sz' xs
  obtain ⟨ad, cap, hv, hcap⟩ := r1.slice_form
  rw [hv] at r1
  cases hl : bound 0 ρ lo' with
  | none => simp only [hl] at hc; cases hc
  | some l =>
    cases hh : bound xs.length ρ hi' with
    | none => simp only [hl, hh] at hc; cases mx' <;> simp at hc
    | some hb =>
      cases mx' with
      | none =>
        cases mx with
        | some y => cases hmx
        | none =>
          simp only [hl, hh] at hc
          split at hc
          · rename_i hk
            obtain ⟨rfl, h0, h1, h2⟩ := hk
            simp only [Option.some.injEq] at hc
            subst hc
            have hbnd := bounds2_run (P := P) true xs.length cap hlo hhi he hl hh h0 h1 h2 hcap
            refine pure_same ?_ (r1.cut (l := l.toNat) (h := hb.toNat) (m := cap) (by omega) (by omega) (by omega) (Nat.le_refl _) _ (by
              cases hi' with
              | none => simp only [bound, Option.some.injEq] at hh; subst hh; exact .inr (.inr ⟨by simp, by simp, rfl⟩)
              | some _ => exact .inl (by simp)))
            simp only [execOp, ho, hv, Instr.sliceAt, Sem.run_bind, run_underlying ht, Result.andThen_ok, Instr.slice, Option.map_none, hbnd, sizeOf, typeInfo, run_program, hei, Sem.run_pure, hsz]
          · cases hc
      | some m' =>
        cases mx with
        | none => cases hmx
        | some y =>
          simp only [hl, hh] at hc
          cases hm : m'.ev ρ <;> simp only [hm] at hc <;> try (cases hc; done)
          rename_i km m
          split at hc
          · rename_i hk
            obtain ⟨rfl, h0, h1, h2, h3⟩ := hk
            simp only [Option.some.injEq] at hc
            subst hc
            have hbnd := bounds3_run (P := P) xs.length cap hlo hhi hmx he hl hh (m := m) (by simp [bound, hm]) (hsome rfl) h0 h1 h2 (by omega)
            refine pure_same ?_ (r1.cut (l := l.toNat) (h := hb.toNat) (m := m.toNat) (by omega) (by omega) (by omega) (by omega) _ ?_)
            · simp only [execOp, ho, hv, Instr.sliceAt, Sem.run_bind, run_underlying ht, Result.andThen_ok, Instr.slice, Option.map_some, hbnd, sizeOf, typeInfo, run_program, hei, Sem.run_pure, hsz]
            · split
              · rename_i e; exact .inr (.inl ⟨rfl, by rw [e]⟩)
              · exact .inl rfl
          · cases hc

theorem addr_add0 (a : Addr) (sz : Nat) : a.add (0 * sz) = a := by rw [Nat.zero_mul]; cases a; rfl
theorem addr_opt0 (ad : Option Addr) (c sz : Nat) : (if c = 0 then ad else ad.map (·.add (0 * sz))) = ad := by
  split
  · rfl
  · cases ad with
    | none => rfl
    | some a => simp only [Option.map_some, addr_add0]

theorem bounds1_run {P : Program} {w : World} (len cap : Nat) (k : IntKind) (n : Int) (h0 : 0 ≤ n) (h1 : n ≤ cap) : (Instr.sliceBounds true len cap none (some (.int k n)) none).run P w = .ok (0, n.toNat, cap) w := by
  have b1 : ∀ code, (Instr.sliceBound (.int k n) cap code).run P w = .ok n.toNat w := fun code => sliceBound_run k n _ code (by omega) (by omega)
  unfold Instr.sliceBounds
  simp [b1]

/-- s[:h], what lies behind known. -/
theorem sllx_ok {P : Program} {o : Oper} {t e : TypeId} {x y : Operand} {x' y' : Opd} {sz : Nat} {ei : TypeInfo} (ho : o.op = .slice t x none (some y) none) (h : chkO x x' = true) (hy : chkO y y' = true)
    (ht : P.underlying t = some (.slice e)) (hei : P.info? e = some ei) (hsz : ei.size = sz) : PureOk P o (.sllx sz x' y') := by
  intro γ w ρ a c he hc
  have r1 := chkO_rep h he
  simp only [pev] at hc
  have hlo : chkOo (none : Option Operand) (none : Option Opd) = true := rfl
  have hhi : chkOo (some y) (some y') = true := hy
  cases hx : x'.ev ρ <;> simp only [hx] at hc r1 <;> try (cases hc; done)
  · rename_i own sz' xs
    cases hyv : y'.ev ρ <;> simp only [hyv] at hc <;> try (cases hc; done)
    rename_i k n
    split at hc
    · rename_i hk
      obtain ⟨rfl, h0, h1⟩ := hk
      simp only [Option.some.injEq] at hc
      subst hc
      have r2 := r1.strip1
      obtain ⟨ad, cap, hv, hcap⟩ := Rep.slice_form r2
      simp only [AV.strip1] at r2
      rw [hv] at r2
      obtain ⟨ky, hky⟩ := bound_run (P := P) (d := 0) (n := n) (chkO_rep hy he) (by simp [bound, hyv])
      have hbnd := bounds1_run (P := P) (w := w) xs.length cap ky n h0 (by omega)
      have hlen : (xs.take n.toNat).length = n.toNat := by simp; omega
      have hr : Rep γ w (.slx sz' (xs.take n.toNat) (xs.drop n.toNat)) (.slice ad n.toNat cap) := by
        have := Rep.slx (γ := γ) (w := w) sz' (xs.take n.toNat) (xs.drop n.toNat) ad cap (by
          rw [List.take_append_drop]
          have e : (xs.take n.toNat).length + (xs.drop n.toNat).length = xs.length := by simp; omega
          rw [e]; exact r2)
        rwa [hlen] at this
      refine pure_same ?_ hr
      simp only [execOp, ho, hv, Instr.sliceAt, Sem.run_bind, run_underlying ht, Result.andThen_ok, Instr.slice, Option.map_none, Option.map_some, hky, hbnd, sizeOf, typeInfo, run_program, hei, Sem.run_pure, hsz]
      simp only [Nat.sub_zero, addr_opt0]
    · cases hc
  · rename_i sz' xs ys
    cases hyv : y'.ev ρ <;> simp only [hyv] at hc <;> try (cases hc; done)
    rename_i k n
    split at hc
    · rename_i hk
      obtain ⟨rfl, h0, h1⟩ := hk
      simp only [Option.some.injEq] at hc
      subst hc
      generalize hv : a.eval x = v at r1
      cases r1 with
      | slx _ _ _ ad cap r2 =>
        obtain ⟨ad', cap', hv', hcap⟩ := Rep.slice_form r2
        simp only [List.length_append] at hv' hcap
        cases hv'
        obtain ⟨ky, hky⟩ := bound_run (P := P) (d := 0) (n := n) (chkO_rep hy he) (by simp [bound, hyv])
        have hbnd := bounds1_run (P := P) (w := w) xs.length cap ky n h0 (by omega)
        have hlen : ((xs ++ ys).take n.toNat).length = n.toNat := by simp; omega
        have hr : Rep γ w (.sl .no sz' ((xs ++ ys).take n.toNat)) (.slice ad n.toNat cap) := by
          have := Rep.front (xs := (xs ++ ys).take n.toNat) r2 ⟨(xs ++ ys).drop n.toNat, (List.take_append_drop _ _).symm⟩
          rwa [hlen] at this
        refine pure_same ?_ hr
        simp only [execOp, ho, hv, Instr.sliceAt, Sem.run_bind, run_underlying ht, Result.andThen_ok, Instr.slice, Option.map_none, Option.map_some, hky, hbnd, sizeOf, typeInfo, run_program, hei, Sem.run_pure, hsz]
        simp only [Nat.sub_zero, addr_opt0]
    · cases hc

/-- Bytes out of a slice of them. -/
theorem byts_cells {γ : Gh} {w : World} : ∀ (xs : List (List AV)) (s : List UInt8) (us : List Value), byts xs = some s → xs.flatten.length = us.length →
    (∀ (k : Nat) (c : AV) (u : Value), xs.flatten[k]? = some c → us[k]? = some u → Rep γ w c u) → us = s.map fun c => .int .u8 c.toNat
  | [], s, us, hb, hl, _ => by
    simp only [byts, Option.some.injEq] at hb
    subst hb
    simp only [List.flatten_nil, List.length_nil] at hl
    simpa using List.eq_nil_of_length_eq_zero hl.symm
  | x :: xs, s, us, hb, hl, hr => by
    unfold byts at hb
    split at hb
    · rename_i e; cases e
    · rename_i n r e
      simp only [List.cons.injEq] at e
      obtain ⟨rfl, rfl⟩ := e
      split at hb
      · rename_i hn
        cases hs : byts xs with
        | none => simp [hs] at hb
        | some s' =>
          simp only [hs, Option.map_some, Option.some.injEq] at hb
          subst hb
          cases us with
          | nil => simp at hl
          | cons u us =>
            have h0 := hr 0 (.int .u8 n) u (by simp) (by simp)
            have ih := byts_cells xs s' us hs (by simpa using hl) (fun k c v hc hv => hr (k + 1) c v (by simpa using hc) (by simpa using hv))
            cases h0
            subst ih
            simp
            omega
      · cases hb
    · cases hb

theorem byts_fold (s : List UInt8) : (s.map fun c => (c.toNat : Int)).foldl (fun r n => r.push (UInt8.ofNat n.toNat)) ByteArray.empty = ⟨s.toArray⟩ := by
  have key : ∀ (s : List UInt8) (r : ByteArray), (s.map fun c => (c.toNat : Int)).foldl (fun r n => r.push (UInt8.ofNat n.toNat)) r = ⟨(r.data.toList ++ s).toArray⟩ := by
    intro s
    induction s with
    | nil => intro r; simp
    | cons x s ih =>
      intro r
      simp only [List.map_cons, List.foldl_cons, Int.toNat_natCast]
      rw [ih]
      congr 1
      simp [ByteArray.push]
  have := key s ByteArray.empty
  simpa using this

theorem cvb2s_ok {P : Program} {o : Oper} {s d e : TypeId} {x : Operand} {x' : Opd} (ho : o.op = .convert s d x) (h : chkO x x' = true) (hs : P.underlying s = some (.slice e)) (he8 : P.underlying e = some (.int .u8)) (hd : P.underlying d = some .string) :
    PureOk P o (.cvb2s x') := by
  intro γ w ρ a c he hc
  have r1 := chkO_rep h he
  simp only [pev] at hc
  cases hx : x'.ev ρ <;> simp only [hx] at hc r1 <;> try (cases hc; done)
  rename_i own sz xs
  split at hc
  · rename_i own1 sz1 xs1 heq
    simp only [AV.sl.injEq] at heq
    obtain ⟨rfl, rfl, rfl⟩ := heq
    cases hb : byts xs with
    | none => simp [hb] at hc
    | some s =>
      simp only [hb, Option.map_some, Option.some.injEq] at hc
      subst hc
      have pre : ∀ v, a.eval x = v → (∃ ad n k, v = .slice ad n k) → (Conv.bytesToString v).run P w = .ok (.string ⟨s.toArray⟩) w → (execOp a.eval o).run P w = .ok (.value (.string ⟨s.toArray⟩)) w := by
        rintro v hv ⟨ad, n, k, rfl⟩ hr
        cases ad <;> simp [execOp, ho, hv, convert, run_underlying hs, run_underlying hd, run_underlying he8, hr]
      obtain ⟨ad, cap, hv, hcap⟩ := r1.slice_form
      rw [hv] at r1
      refine pure_same (pre _ hv ⟨_, _, _, rfl⟩ ?_) (.str s)
      cases r1 with
      | slnil _ _ _ =>
        simp only [byts, Option.some.injEq] at hb
        subst hb
        simp [Conv.bytesToString]
        rfl
      | sl0 _ _ ad _ =>
        simp only [byts, Option.some.injEq] at hb
        subst hb
        have hld : (loadCells ad 0).run P w = .ok #[] w := run_loadCells_list w ad [] (by simp)
        exact run_bytesToString w ad 0 0 [] (by rw [hld]; rfl)
      | sl _ _ _ b off _ cv hc hm hu hcell hr ho' =>
        obtain ⟨_, _, _, _, _, us, hul, hrow, hrel⟩ := (Rep.sl own 1 xs b off cap cv hc hm hu hcell hr ho').flat
        have hus := byts_cells xs s us hb hul hrel
        have hlen : xs.length = us.length := by rw [← hul, flatten_length 1 xs hu]; omega
        have hld : (loadCells ⟨b, off, none⟩ xs.length).run P w = .ok us.toArray w := by
          rw [hlen]
          exact run_loadCells_list w ⟨b, off, none⟩ us (fun j v hj => by rw [addr_add]; exact (hrow j v hj).1)
        rw [run_bytesToString w ⟨b, off, none⟩ xs.length cap (s.map fun c => (c.toNat : Int)) (by rw [hld, hus]; simp [Function.comp_def]), byts_fold]
  · cases hc

end Go.Ab
