/- The operations that read, make and change memory, and calls. -/
import Derived.Test.YthkpgjnibolnhaaAbsE
set_option linter.unusedSimpArgs false
set_option linter.unusedVariables false
namespace Go.Ab

def NewKeys (H : Heap) (w : World) (H' : Heap) : Prop := ∀ b, (H' b).isSome = true → (H b).isSome = true ∨ w.heap.size ≤ b

def keysOf (H : Heap) : Nat → Prop := fun b => (H b).isSome = true

/-- What it is for an abstract operation to stand for the program's. -/
def OpOk (P : Program) (o : Oper) (ao : AOp) : Prop :=
  ∀ (γ : Gh) (w : World) (H : Heap) (ρ : Env) (a : Act) (K KP : AV → Heap → Prop) (next : Act → World → Prop) (Q : Exit → Act → World → Prop),
    EnvRel γ w ρ a.tmps → StateRel γ w H → aop P KP ao ρ H K →
    (∀ γ' w' H' c v, Ext (keysOf H) γ w γ' w' → StateRel γ' w' H' → NewKeys H w H' → Rep γ' w' c v → K c H' → next (a.put o.dst v) w') →
    (∀ γ' w' H' c v, Ext (keysOf H) γ w γ' w' → StateRel γ' w' H' → NewKeys H w H' → Rep γ' w' c v → KP c H' → Q (.panic [{ v, recovered := false }]) a w') →
    o.wp P a w next Q

theorem NewKeys.refl (H : Heap) (w : World) : NewKeys H w H := fun _ h => .inl h

theorem ok_of_value {P : Program} {o : Oper} {a : Act} {w w' : World} {v : Value} {next : Act → World → Prop} {Q : Exit → Act → World → Prop} (h : (execOp a.eval o).run P w = .ok (.value v) w') (hn : next (a.put o.dst v) w') : o.wp P a w next Q := by
  unfold Oper.wp
  rw [h]
  exact hn

theorem ok_of_skip {P : Program} {o : Oper} {a : Act} {w w' : World} {next : Act → World → Prop} {Q : Exit → Act → World → Prop} (h : (execOp a.eval o).run P w = .ok .skip w') (hn : next (a.put o.dst undef) w') : o.wp P a w next Q := by
  unfold Oper.wp
  rw [h]
  exact hn

theorem ok_of_pure {P : Program} {o : Oper} {ao : AOp} (hcls : ao.cls = .pure) (h : PureOk P o ao) : OpOk P o ao := by
  intro γ w H ρ a K KP next Q he hs hop hn hp
  unfold aop at hop
  rw [hcls] at hop
  simp only at hop
  cases hv : pev ρ ao with
  | none => simp [hv] at hop
  | some c =>
    simp only [hv] at hop
    obtain ⟨v, γ', w', hr, hext, hrep⟩ := h γ w ρ a c he hv
    exact ok_of_value hr (hn γ' w' H c v (hext.weaken fun _ f => f.elim) (hs.kept hext fun _ _ _ f => f) (NewKeys.refl _ _) hrep hop)

/-- Reading. -/
def ReadOk (P : Program) (o : Oper) (ao : AOp) : Prop :=
  ∀ (γ : Gh) (w : World) (H : Heap) (ρ : Env) (a : Act) (c : AV), EnvRel γ w ρ a.tmps → StateRel γ w H → rev ρ H ao = some c →
    ∃ v, (execOp a.eval o).run P w = .ok (.value v) w ∧ Rep γ w c v

theorem ok_of_read {P : Program} {o : Oper} {ao : AOp} (hcls : ao.cls = .read) (h : ReadOk P o ao) : OpOk P o ao := by
  intro γ w H ρ a K KP next Q he hs hop hn hp
  unfold aop at hop
  rw [hcls] at hop
  simp only at hop
  cases hv : rev ρ H ao with
  | none => simp [hv] at hop
  | some c =>
    simp only [hv] at hop
    obtain ⟨v, hr, hrep⟩ := h γ w H ρ a c he hs hv
    exact ok_of_value hr (hn γ w H c v (.refl _ _ _) hs (NewKeys.refl _ _) hrep hop)

theorem run_loadVar_at {P : Program} {w : World} {t : TypeId} {ti : TypeInfo} {d : TypeDesc} {n : Nat} {ag : Bool} (hi : P.info? t = some ti) (hn : ti.size = n) (hd : P.underlying t = some d) (hag : isAggD (P.underlying t) = ag) (h1 : ag = true ∨ n = 1)
    (b off : Nat) (us : List Value) (hlen : us.length = n) (hc : ∀ (j : Nat) (v : Value), us[j]? = some v → w.cell? ⟨b, off + j, none⟩ = some v) :
    (loadVar t ⟨b, off, none⟩).run P w = .ok (if ag then .agg us.toArray else us.headD undef) w := by
  unfold loadVar
  rw [Sem.run_bind, run_isAgg hd, hag]
  cases ag with
  | true =>
    have hl : (loadCells ⟨b, off, none⟩ us.length).run P w = .ok us.toArray w := run_loadCells_list w _ us (fun j v hj => by rw [addr_add]; exact hc j v hj)
    rw [hlen] at hl
    simp [sizeOf, typeInfo, hi, hn, hl]
  | false =>
    have hn1 : n = 1 := by rcases h1 with h | h <;> simp_all
    subst hn1
    cases us with
    | nil => simp at hlen
    | cons u us =>
      have h0 := hc 0 u rfl
      simp only [Nat.add_zero] at h0
      simp [h0]

theorem mk_rep {γ : Gh} {w : World} {cs : List AV} {us : List Value} {n : Nat} {ag : Bool} (h1 : ag = true ∨ n = 1) (hl : cs.length = n) (h : fillRel γ w cs us) : Rep γ w (mk ag cs) (if ag then .agg us.toArray else us.headD undef) := by
  cases ag with
  | true => exact .agg _ _ h.1 h.2.1 h.2.2
  | false =>
    have hn1 : n = 1 := by rcases h1 with h | h <;> simp_all
    subst hn1
    cases cs with
    | nil => simp at hl
    | cons c cs =>
      cases us with
      | nil => simp [fillRel] at h
      | cons u us => exact h.2.2 0 c u rfl rfl

theorem ld_ok {P : Program} {o : Oper} {t : TypeId} {x : Operand} {x' : Opd} {n : Nat} {ag : Bool} {ti : TypeInfo} {d : TypeDesc} (ho : o.op = .load t x) (h : chkO x x' = true) (hi : P.info? t = some ti) (hn : ti.size = n) (hd : P.underlying t = some d)
    (hag : isAggD (P.underlying t) = ag) (h1 : ag = true ∨ n = 1) : ReadOk P o (.ld n ag x') := by
  intro γ w H ρ a c he hs hc
  have r1 := chkO_rep h he
  simp only [rev] at hc
  have fin : ∀ b off us cs, a.eval x = .pointer (some ⟨b, off, none⟩) → cs.length = n → fillRel γ w cs us → (∀ (j : Nat) (v : Value), us[j]? = some v → w.cell? ⟨b, off + j, none⟩ = some v) → c = mk ag cs →
      ∃ v, (execOp a.eval o).run P w = .ok (.value v) w ∧ Rep γ w c v := by
    intro b off us cs hv hl hr hcell hceq
    subst hceq
    refine ⟨_, ?_, mk_rep h1 hl hr⟩
    have hrun := run_loadVar_at hi hn hd hag h1 b off us (by rw [← hr.1]; exact hl) hcell
    simp [execOp, ho, hv, Instr.loadAt, Instr.sureAddr, hrun]
  cases hx : x'.ev ρ <;> simp only [hx] at hc r1 <;> try (cases hc; done)
  · rename_i b off
    cases hb : H b with
    | none => simp [hb] at hc
    | some ob =>
      cases ob <;> simp only [hb] at hc <;> try (cases hc; done)
      rename_i cs
      split at hc
      · rename_i hle
        simp only [Option.some.injEq] at hc
        generalize hv : a.eval x = v at r1
        cases r1
        cases hs b _ hb with
        | cells _ vs E hk hbb hl hone hr =>
          have hfr : fillRel γ w ((cs.drop off).take n) ((vs.drop off).take n) := (fillRel.drop ⟨hl, hone, hr⟩ off).take n
          refine fin b off _ _ hv (by simp; omega) hfr (fun j u hj => ?_) hc.symm
          rw [List.getElem?_take] at hj
          split at hj
          · rw [List.getElem?_drop] at hj
            rw [cell_of_row w b _ _ _ _ hbb]
            simpa using hj
          · cases hj
      · cases hc
  · rename_i cs
    split at hc
    · rename_i hle
      simp only [Option.some.injEq] at hc
      generalize hv : a.eval x = v at r1
      cases r1 with
      | view _ b off cv hcell hr =>
        refine fin b off ((List.range n).map cv) (cs.take n) hv (by simp; omega) ⟨by simp; omega, fun i u hu => ?_, fun i c u hc hu => ?_⟩ (fun j u hj => ?_) hc.symm
        · simp only [List.getElem?_map, Option.map_eq_some_iff] at hu
          obtain ⟨k, hk, rfl⟩ := hu
          obtain ⟨h1, h2⟩ := List.getElem?_eq_some_iff.1 hk
          simp at h1 h2
          exact (hcell k (by omega)).2.2
        · simp only [List.getElem?_map, Option.map_eq_some_iff] at hu
          obtain ⟨k, hk, rfl⟩ := hu
          obtain ⟨h1, h2⟩ := List.getElem?_eq_some_iff.1 hk
          simp at h1 h2
          subst h2
          rw [List.getElem?_take, if_pos h1] at hc
          exact hr i _ hc
        · simp only [List.getElem?_map, Option.map_eq_some_iff] at hj
          obtain ⟨k, hk, rfl⟩ := hj
          obtain ⟨h1, h2⟩ := List.getElem?_eq_some_iff.1 hk
          simp at h1 h2
          subst h2
          exact (hcell j (by omega)).1
    · cases hc

/-- A new object. -/
theorem ext_allocM (F : Nat → Prop) (γ : Gh) (w : World) (k : BK) (es : Array MapEntry) (clock : Nat) :
    Ext F γ w (fun b => if b = w.heap.size then k else γ b) (w.alloc (.map es clock)) := by
  have hne : ∀ b, b < w.heap.size → b ≠ w.heap.size := fun b h => Nat.ne_of_lt h
  have hold : ∀ b, b < w.heap.size → (w.alloc (.map es clock)).heap[b]? = w.heap[b]? := fun b hb => heap_alloc_old w _ hb
  refine ⟨⟨by simp, fun b o v hc hp => ?_, fun b arr E fr hb => ?_⟩, rfl, rfl, fun a _ => ?_, fun b hb _ => ⟨by simp [hne b hb], hold b hb⟩⟩
  · have hlt := World.block_lt_of_cell? w _ hc
    refine ⟨by simpa [Prot, hne b hlt] using hp, ?_⟩
    rw [World.cell?_alloc_lt _ _ _ hlt]; exact hc
  · have hlt := (Array.getElem?_eq_some_iff.1 hb).1
    exact ⟨arr, by rw [hold b hlt]; exact hb, rfl⟩
  · by_cases h : a.block = w.heap.size
    · have e1 : (w.alloc (.map es clock)).heap[a.block]? = some (.map es clock) := by rw [h]; exact heap_alloc_new w _
      have e2 : w.heap[a.block]? = none := by rw [h]; simp
      simp [World.frozen?, e1, e2]
    · exact World.frozen?_alloc_old _ _ _ h

theorem state_alloc {γ γ' : Gh} {w w' : World} {H : Heap} {x : AObj} {F : Nat → Prop} (hs : StateRel γ w H) (hext : Ext (fun _ => False) γ w γ' w') (hx : ObjRel γ' w' w.heap.size x) : StateRel γ' w' (H.upd w.heap.size x) := by
  intro b o hb
  unfold Heap.upd at hb
  split at hb
  · rename_i e; subst e; simp only [Option.some.injEq] at hb; subst hb; exact hx
  · exact hs.kept hext (fun _ _ _ f => f) b o hb

theorem newKeys_upd {H : Heap} {w : World} {x : AObj} : NewKeys H w (H.upd w.heap.size x) := by
  intro b hb
  unfold Heap.upd at hb
  split at hb
  · rename_i e; exact .inr (by omega)
  · exact .inl hb

theorem fresh_none {γ : Gh} {w : World} {H : Heap} (hs : StateRel γ w H) : H w.heap.size = none := by
  cases h : H w.heap.size with
  | none => rfl
  | some o => exact absurd (hs _ _ h).lt (Nat.lt_irrefl _)

theorem not_scarce {γ : Gh} {w : World} {H : Heap} (hs : StateRel γ w H) : ¬ Scarce H := fun ⟨n, h⟩ => by
  cases hb : H (max n w.heap.size) with
  | none => exact h _ (Nat.le_max_left ..) hb
  | some o => have := (hs _ _ hb).lt; omega

theorem alloc_ok {P : Program} {o : Oper} {t : TypeId} {zero : List AV} {ti : TypeInfo} {z : Value} (ho : o.op = .alloc t) (hi : P.info? t = some ti) (hz : ti.zero = some z) (hzero : chkCs z.cells.toList zero = true) : OpOk P o (.alloc zero) := by
  intro γ w H ρ a K KP next Q he hs hop hn hp
  simp only [aop, AOp.cls, oev, optr] at hop
  have hext := ext_alloc (fun _ => False) γ w .own z.cells t
  have hf := fillRel_of_chk (γ := fun b => if b = w.heap.size then BK.own else γ b) (w := w.alloc (.cells z.cells t)) hzero
  refine ok_of_value (v := .pointer (some ⟨w.heap.size, 0, none⟩)) ?_ (hn _ _ _ _ _ (hext.weaken fun _ f => f.elim) (state_alloc (F := fun _ => False) hs hext (.cells zero z.cells.toList t (by simp) ?_ hf.1 hf.2.1 hf.2.2)) newKeys_upd (.ptr _ 0 (by simp)) (hop _ (fresh_none hs)))
  · simp [execOp, ho, Instr.alloc, zeroValue, typeInfo, hi, hz, newVar, newRow]
  · rw [heap_alloc_new]

theorem box_ok {P : Program} {o : Oper} {t : TypeId} {x : Operand} {x' : Opd} (ho : o.op = .box t x) (h : chkO x x' = true) : OpOk P o (.box x') := by
  intro γ w H ρ a K KP next Q he hs hop hn hp
  simp only [aop, AOp.cls, oev, optr] at hop
  split at hop
  · rename_i ob hob
    split at hob
    · rename_i hbox
      simp only [Option.some.injEq] at hob
      subst hob
      have hext := ext_alloc (fun _ => False) γ w .own (a.eval x).cells t
      obtain ⟨hl, h1, hr⟩ := ((chkO_rep h he).mono hext.mono).cells hbox
      refine ok_of_value (v := .pointer (some ⟨w.heap.size, 0, none⟩)) ?_ (hn _ _ _ _ _ (hext.weaken fun _ f => f.elim) (state_alloc (F := fun _ => False) hs hext (.cells _ (a.eval x).cells.toList t (by simp) ?_ hl h1 hr)) newKeys_upd (.ptr _ 0 (by simp)) (hop _ (fresh_none hs)))
      · simp [execOp, ho, Instr.box, newVar, newRow]
      · rw [heap_alloc_new]
    · cases hob
  · exact (not_scarce hs hop).elim

theorem mkm_ok {P : Program} {o : Oper} {t : TypeId} {kt : KT} (ho : o.op = .makeMap t none) : OpOk P o (.mkm kt) := by
  intro γ w H ρ a K KP next Q he hs hop hn hp
  simp only [aop, AOp.cls, oev, optr] at hop
  have hext := ext_allocM (fun _ => False) γ w .own #[] 0
  refine ok_of_value (v := .map (some w.heap.size)) ?_ (hn _ _ _ _ _ (hext.weaken fun _ f => f.elim) (state_alloc (F := fun _ => False) hs hext (.map kt [] [] 0 (by simp) (by simp) ?_ rfl (by simp))) newKeys_upd (.mp _ (by simp)) (hop _ (fresh_none hs)))
  · simp [execOp, ho, Instr.makeMap]
  · rw [heap_alloc_new]

theorem call_ok {P : Program} {o : Oper} {f : FuncId} {args : Array Operand} {args' : List Opd} {ts : Array TypeId} (ho : o.op = .call { callee := .value (.func f), args := args, argTypes := ts }) (h : chkOs args.toList args' = true) (hf : Program.callable P f = true) :
    OpOk P o (.call f args') := by
  intro γ w H ρ a K KP next Q he hs hop hn hp
  simp only [aop, AOp.cls, eff] at hop
  have hargs := chkOs_rep h he
  have hc := hop γ w _ he.tab hs hargs
  unfold Program.callable at hf
  cases hfn : P.funcs[f]? with
  | none => simp [hfn] at hf
  | some fn =>
    simp only [hfn, Bool.and_eq_true, bne_iff_ne, ne_eq] at hf
    obtain ⟨hbody, hname⟩ := hf
    obtain ⟨bd, hb⟩ := Option.isSome_iff_exists.1 hbody
    have hmap : args.map a.eval = (args.toList.map a.eval).toArray := by apply Array.ext'; simp
    have hrun : (execOp a.eval o).run P w = .ok (.enter f (args.toList.map a.eval).toArray) w := by
      simp [execOp, ho, resolve, Act.eval, Deferred.ofValue, invoke, callFunc, hfn, hname, hb, hmap]
    unfold Oper.wp
    rw [hrun]
    refine Calls.mono hc fun e w' ⟨γ', H', r, hext, hst, hnew, hend, hq⟩ => ?_
    cases e with
    | returned v =>
      cases r with
      | ret c => exact hn γ' w' H' c v hext hst hnew hend hq
      | pan c => exact hend.elim
    | panicked ch =>
      cases r with
      | ret c => exact hend.elim
      | pan c =>
        obtain ⟨v, rfl, hrep⟩ := hend
        exact hp γ' w' H' c v hext hst hnew hrep hq
    | outgrown => cases r <;> exact hend.elim

theorem callv_ok {P : Program} {o : Oper} {g : Operand} {g' : Opd} {args : Array Operand} {args' : List Opd} {ts : Array TypeId} (ho : o.op = .call { callee := .value g, args := args, argTypes := ts }) (hg : chkO g g' = true) (h : chkOs args.toList args' = true) :
    OpOk P o (.callv g' args') := by
  intro γ w H ρ a K KP next Q he hs hop hn hp
  simp only [aop, AOp.cls, eff] at hop
  have r1 := chkO_rep hg he
  cases hx : g'.ev ρ <;> simp only [hx] at hop r1 <;> try (exact hop.elim)
  rename_i f first caps
  obtain ⟨hf, hop⟩ := hop
  generalize hv : a.eval g = v at r1
  cases r1 with
  | clo _ _ _ vs us hl hl' hr hr' =>
    have hargs := chkOs_rep h he
    have hall : RepAll γ w (first ++ args'.map (Opd.ev ρ) ++ caps) (vs ++ args.toList.map a.eval ++ us) := (RepAll.append ⟨hl, hr⟩ hargs).append ⟨hl', hr'⟩
    have hc := hop γ w _ he.tab hs hall
    unfold Program.callable at hf
    cases hfn : P.funcs[f]? with
    | none => simp [hfn] at hf
    | some fn =>
      simp only [hfn, Bool.and_eq_true, bne_iff_ne, ne_eq] at hf
      obtain ⟨hbody, hname⟩ := hf
      obtain ⟨bd, hb⟩ := Option.isSome_iff_exists.1 hbody
      have hmap : vs.toArray ++ args.map a.eval ++ us.toArray = (vs ++ args.toList.map a.eval ++ us).toArray := by apply Array.ext'; simp
      have hrun : (execOp a.eval o).run P w = .ok (.enter f (vs ++ args.toList.map a.eval ++ us).toArray) w := by
        rw [← hmap]
        simp only [execOp, ho, resolve, hv, Deferred.ofValue, Sem.run_bind, Sem.run_pure, Result.andThen_ok, invoke, callFunc, run_program, hfn]
        simp [hname, hb]
      unfold Oper.wp
      rw [hrun]
      refine Calls.mono hc fun e w' ⟨γ', H', r, hext, hst, hnew, hend, hq⟩ => ?_
      cases e with
      | returned v =>
        cases r with
        | ret c => exact hn γ' w' H' c v hext hst hnew hend hq
        | pan c => exact hend.elim
      | panicked ch =>
        cases r with
        | ret c => exact hend.elim
        | pan c =>
          obtain ⟨v, rfl, hrep⟩ := hend
          exact hp γ' w' H' c v hext hst hnew hrep hq
      | outgrown => cases r <;> exact hend.elim

theorem pan_ok {P : Program} {o : Oper} {x : Operand} {x' : Opd} (ho : o.op = .panic x) (h : chkO x x' = true) : OpOk P o (.pan x') := by
  intro γ w H ρ a K KP next Q he hs hop hn hp
  simp only [aop, AOp.cls, eff] at hop
  have r1 := chkO_rep h he
  cases hx : x'.ev ρ <;> simp only [hx] at hop r1 <;> try (exact hop.elim)
  rename_i t y
  generalize hv : a.eval x = v at r1
  have r2 := r1
  cases r1 with
  | ifc _ _ u hr =>
    have hrun : (execOp a.eval o).run P w = .halt (.panic (.iface t u)) w := by
      simp [execOp, ho, hv, Instr.panic]
    unfold Oper.wp
    rw [hrun]
    exact hp γ w H _ _ (.refl _ _ _) hs (NewKeys.refl _ _) r2 hop

theorem setRow_get (w : World) (b : Nat) (cs : Array Value) (old : Array Value) (E : TypeId) (fr : Nat × Nat) (h : w.heap[b]? = some (.cells old E fr)) : (w.setRow b cs).heap[b]? = some (.cells cs E fr) := setRow_heap w b old cs E fr h

/-- A row of an owned block is written: what is kept is kept. -/
theorem ext_setRow {F : Nat → Prop} {γ γ' : Gh} {w : World} {b : Nat} {old cs : Array Value} {E : TypeId} (hb : w.heap[b]? = some (.cells old E (0, 0))) (hsz : cs.size = old.size) (hF : F b)
    (hk : ∀ o, Prot γ b o → Prot γ' b o ∧ cs[o]? = old[o]?) (hg : ∀ c, c ≠ b → γ' c = γ c) : Ext F γ w γ' (w.setRow b cs) := by
  have hother : ∀ c, c ≠ b → (w.setRow b cs).heap[c]? = w.heap[c]? := fun c hc => setRow_other w b c cs (by omega)
  have hself : (w.setRow b cs).heap[b]? = some (.cells cs E (0, 0)) := setRow_get w b cs old E _ hb
  refine ⟨⟨by simp, fun c o v hc hp => ?_, fun c arr E' fr hc => ?_⟩, rfl, rfl, fun a _ => ?_, fun c hc hn => ?_⟩
  · by_cases hcb : c = b
    · subst hcb
      obtain ⟨h1, h2⟩ := hk o hp
      refine ⟨h1, ?_⟩
      rw [cell_of_row _ _ _ _ _ _ hself, h2]
      rw [cell_of_row _ _ _ _ _ _ hb] at hc
      exact hc
    · refine ⟨by simpa [Prot, hg c hcb] using hp, ?_⟩
      rw [World.cell?_of_block (w := w) (hother c hcb)]
      exact hc
  · by_cases hcb : c = b
    · subst hcb
      rw [hb] at hc
      simp only [Option.some.injEq, Obj.cells.injEq] at hc
      obtain ⟨rfl, rfl, rfl⟩ := hc
      exact ⟨cs, hself, hsz⟩
    · exact ⟨arr, (hother c hcb).trans hc, rfl⟩
  · by_cases hcb : a.block = b
    · simp [World.frozen?, hcb, hself, hb]
    · exact World.frozen?_of_block (hother _ hcb)
  · have hcb : c ≠ b := fun e => hn (e ▸ hF)
    exact ⟨hg c hcb, hother c hcb⟩

/-- Other objects when one block changes. -/
theorem state_upd {γ γ' : Gh} {w w' : World} {H : Heap} {b : Nat} {x : AObj} (hs : StateRel γ w H) (hext : Ext (fun c => c = b) γ w γ' w') (hx : ObjRel γ' w' b x) : StateRel γ' w' (H.upd b x) := by
  intro c o hc
  unfold Heap.upd at hc
  split at hc
  · rename_i e; subst e; simp only [Option.some.injEq] at hc; subst hc; exact hx
  · rename_i hne
    have ho := hs c o hc
    obtain ⟨g, k⟩ := hext.frame c ho.lt hne
    exact ho.kept hext.mono g k

theorem newKeys_upd' {H : Heap} {w : World} {b : Nat} {x : AObj} (hb : (H b).isSome = true) : NewKeys H w (H.upd b x) := by
  intro c hc
  unfold Heap.upd at hc
  split at hc
  · rename_i e; subst e; exact .inl hb
  · exact .inl hc

theorem st_ok {P : Program} {o : Oper} {t : TypeId} {x y : Operand} {x' y' : Opd} {n : Nat} {ti : TypeInfo} (ho : o.op = .store t x y) (h : chkO x x' = true) (h2 : chkO y y' = true) (hi : P.info? t = some ti) (hn0 : ti.size = n) : OpOk P o (.st n x' y') := by
  intro γ w H ρ a K KP next Q he hs hop hn hp
  simp only [aop, AOp.cls, eff] at hop
  have r1 := chkO_rep h he
  have r2 := chkO_rep h2 he
  cases hx : x'.ev ρ <;> simp only [hx] at hop r1 <;> try (exact hop.elim)
  rename_i b off
  cases hb : H b with
  | none => simp [hb] at hop
  | some ob =>
    cases ob <;> simp only [hb] at hop <;> try (exact hop.elim)
    rename_i cs
    obtain ⟨hlen, hle, hbox, hK⟩ := hop
    generalize hv : a.eval x = v at r1
    cases r1
    cases hs b _ hb with
    | cells _ vs E hk hbb hl hone hr =>
      obtain ⟨cl, c1, c2⟩ := r2.cells hbox
      have hsz : (a.eval y).cells.size = n := by rw [← hlen, cl]; simp
      have hst := run_storeCells_at P b off E (a.eval y).cells.toList 0 vs.toArray w hbb (by simp [hsz]; omega) (fun u hu => by
        obtain ⟨i, hi⟩ := List.mem_iff_getElem?.1 hu
        exact c1 i u hi)
      simp only [Nat.add_zero] at hst
      have hrun : (execOp a.eval o).run P w = .ok .skip (w.setRow b (vs.take off ++ (a.eval y).cells.toList ++ vs.drop (off + (a.eval y).cells.toList.length)).toArray) := by
        simp [execOp, ho, hv, Instr.storeAt, Instr.sureAddr, storeVar, sizeOf, typeInfo, hi, hn0, hsz, hst]
      have hext : Ext (fun c => c = b) γ w γ (w.setRow b (vs.take off ++ (a.eval y).cells.toList ++ vs.drop (off + (a.eval y).cells.toList.length)).toArray) :=
        ext_setRow hbb (by simp [hsz]; omega) rfl (fun q hq => by simp [Prot, hk] at hq) (fun _ _ => rfl)
      have hf : fillRel γ w (splice cs off (y'.ev ρ).cells) (vs.take off ++ (a.eval y).cells.toList ++ vs.drop (off + (a.eval y).cells.toList.length)) := fillRel.splice ⟨hl, hone, hr⟩ ⟨cl, c1, c2⟩ off
      refine ok_of_skip hrun (hn γ _ _ _ _ (hext.weaken fun c e => by subst e; simp [keysOf, hb]) (state_upd hs hext (.cells _ _ E hk (setRow_get w b _ _ E _ hbb) hf.1 hf.2.1 fun i c v hc hv => (hf.2.2 i c v hc hv).mono hext.mono))
        (newKeys_upd' (by simp [hb])) (.tup [] [] rfl (by simp)) hK)

end Go.Ab
