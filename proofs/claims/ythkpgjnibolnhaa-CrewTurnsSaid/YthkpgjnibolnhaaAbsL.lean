/- Functions: the contract out of the abstract code; how contracts are used. -/
import Derived.Test.YthkpgjnibolnhaaAbsK
import Derived.RangeFuncLeaves
set_option linter.unusedSimpArgs false
set_option linter.unusedVariables false
namespace Go.Ab

inductive ARes where
  | t (n : Nat)
  | c (n sz : Nat) (ag : Bool)

structure AFn where
  N : Nat
  np : Nat
  res : List ARes
  body : AC

def resv (ρ : Env) (H : Heap) : ARes → Option AV
  | .t n => some (ρ n)
  | .c n sz ag => rev ρ H (.ld sz ag (.t n))

def resvs (ρ : Env) (H : Heap) : List ARes → Option (List AV)
  | [] => some []
  | r :: rs => match resv ρ H r, resvs ρ H rs with
    | some v, some vs => some (v :: vs)
    | _, _ => none

def tupOf : List AV → AV
  | [v] => v
  | vs => .tup vs

def chkRes (P : Program) : List ResultVar → List ARes → Bool
  | [], [] => true
  | .tmp t :: rs, .t n :: as => t == n && chkRes P rs as
  | .cell a t :: rs, .c n sz ag :: as => a == n && ((P.info? t).any fun ti => decide (ti.size = sz)) && (P.underlying t).isSome && decide (isAggD (P.underlying t) = ag) && (ag || decide (sz = 1)) && chkRes P rs as
  | _, _ => false

def chkFn (P : Program) (f : FuncId) (af : AFn) : Bool :=
  match P.funcs[f]? with
  | some fn => match fn.body with
    | some code => decide (fn.ntmps = af.N) && decide (af.np ≤ af.N) && chkRes P fn.results.toList af.res && chkCode P af.N 0 code af.body
    | none => false
  | none => false

def Sub (A B : Heap) : Prop := ∀ b o, A b = some o → B b = some o

theorem Sub.refl (A : Heap) : Sub A A := fun _ _ h => h

/-- A memory that says less. -/
structure Low (B A : Heap) : Prop where
  keys : ∀ b, (B b).isSome = true → (A b).isSome = true
  st : ∀ γ w, StateRel γ w A → StateRel γ w B

theorem Low.of_sub {A B : Heap} (h : Sub B A) : Low B A := ⟨fun b hb => by
  cases hx : B b with
  | none => simp [hx] at hb
  | some o => simp [h b o hx], fun γ w hs => hs.sub h⟩
theorem Low.refl (A : Heap) : Low A A := Low.of_sub (Sub.refl A)
theorem Low.trans {A B C : Heap} (h : Low A B) (h' : Low B C) : Low A C := ⟨fun b hb => h'.keys b (h.keys b hb), fun γ w hs => h.st γ w (h'.st γ w hs)⟩
theorem Low.upd {A B : Heap} (h : Low B A) {b : Nat} {o : AObj} (hb : A b = none) : Low B (A.upd b o) :=
  h.trans (Low.of_sub fun c x hc => by
    have hne : c ≠ b := fun e => by subst e; rw [hb] at hc; cases hc
    simp only [Heap.upd, hne, if_false]; exact hc)

/-- The ownership of what lies in memory is let go. -/
theorem Low.cells {A : Heap} {b : Nat} {cs : List AV} (hb : A b = some (.cells cs)) : Low (A.upd b (.cells (cs.map AV.strip1))) A := by
  refine ⟨fun c hc => ?_, fun γ w hs c o hc => ?_⟩
  · unfold Heap.upd at hc
    split at hc
    · rename_i e; subst e; simp [hb]
    · exact hc
  · unfold Heap.upd at hc
    split at hc
    · rename_i e
      subst e
      simp only [Option.some.injEq] at hc
      subst hc
      cases hs _ _ hb with
      | cells _ vs E hk hb' hl h1 hr =>
        refine .cells _ vs E hk hb' (by simpa using hl) h1 fun i c v hc hv => ?_
        rw [List.getElem?_map] at hc
        cases hx : cs[i]? with
        | none => simp [hx] at hc
        | some x => simp only [hx, Option.map_some, Option.some.injEq] at hc; subst hc; exact (hr i x v hx hv).strip1
    · exact hs c o hc

def mkArgs : Nat → List AV → List (Nat × AV)
  | _, [] => []
  | k, c :: cs => (k, c) :: mkArgs (k + 1) cs

/-- How a body's end is held against the contract's. -/
def finQ (res : List ARes) (Q : AEnd → Heap → Prop) : AExit → Env → Heap → Prop
  | .exit _, _, _ => False
  | _, ρ, H => match resvs ρ H res with
    | some vs => ∃ H', Low H' H ∧ Q (.ret (tupOf vs)) H'
    | none => False

def finP (Q : AEnd → Heap → Prop) : AV → Heap → Prop := fun v H => ∃ H', Low H' H ∧ Q (.pan v) H'

theorem finP_wide (Q : AEnd → Heap → Prop) : Wide (finP Q) := fun v H b o hb ⟨H', hs, hq⟩ => ⟨H', hs.upd hb, hq⟩

theorem mkArgs_get : ∀ (args : List AV) (k n : Nat), envOf (mkArgs k args) n = if k ≤ n then args.getD (n - k) .any else .any
  | [], k, n => by simp [mkArgs, envOf]
  | c :: cs, k, n => by
    simp only [mkArgs, envOf, mkArgs_get cs (k + 1) n]
    by_cases h : n = k
    · subst h; simp
    · simp only [h, if_false]
      by_cases h2 : k ≤ n
      · have h3 : k + 1 ≤ n := by omega
        simp only [h2, h3, if_true]
        rw [show n - k = (n - (k + 1)) + 1 by omega]
        simp
      · have h3 : ¬ k + 1 ≤ n := by omega
        simp [h2, h3]

theorem entry_env {γ : Gh} {w : World} {args : List AV} {vs : List Value} (ht : TabOk γ w) (h : RepAll γ w args vs) (m : Nat) : EnvRel γ w (envOf (mkArgs 0 args)) (vs.toArray ++ Array.replicate m undef) := by
  refine ⟨ht, fun n => ?_⟩
  rw [mkArgs_get]
  simp only [Nat.zero_le, if_true, Nat.sub_zero]
  by_cases hn : n < args.length
  · have hv : n < vs.length := by rw [← h.1]; exact hn
    have e1 : args.getD n .any = args[n] := by simp [List.getD, hn]
    have e2 : (vs.toArray ++ Array.replicate m undef).getD n undef = vs[n] := by
      simp only [Array.getD_eq_getD_getElem?]
      rw [Array.getElem?_append_left (by simpa using hv)]
      simp [hv]
    rw [e1, e2]
    exact h.2 n _ _ (List.getElem?_eq_getElem hn) (List.getElem?_eq_getElem hv)
  · have e1 : args.getD n .any = .any := by simp [List.getD, hn]
    rw [e1]
    exact .any _

theorem res_run {P : Program} {γ : Gh} {w : World} {H : Heap} {ρ : Env} {a : Act} (he : EnvRel γ w ρ a.tmps) (hs : StateRel γ w H) : ∀ (rs : List ResultVar) (as : List ARes) (cs : List AV), chkRes P rs as = true → resvs ρ H as = some cs →
    ∃ vs, (rs.mapM (m := Sem) fun
      | .tmp t => pure (a.tmps.getD t undef)
      | .cell x t => do loadVar t (← asAddr (a.tmps.getD x undef))).run P w = .ok vs w ∧ RepAll γ w cs vs
  | [], [], cs, _, h => by simp only [resvs, Option.some.injEq] at h; subst h; exact ⟨[], rfl, RepAll.nil⟩
  | [], _ :: _, _, h, _ => by simp [chkRes] at h
  | .tmp t :: _, [], _, h, _ => by simp [chkRes] at h
  | .cell x t :: _, [], _, h, _ => by simp [chkRes] at h
  | .tmp t :: rs, .c n sz ag :: as, _, h, _ => by simp [chkRes] at h
  | .cell x t :: rs, .t n :: as, _, h, _ => by simp [chkRes] at h
  | .tmp t :: rs, .t n :: as, cs, hc, h => by
    simp only [chkRes, Bool.and_eq_true, beq_iff_eq] at hc
    obtain ⟨rfl, hc⟩ := hc
    simp only [resvs, resv] at h
    cases hr : resvs ρ H as with
    | none => simp [hr] at h
    | some ds =>
      simp only [hr, Option.some.injEq] at h
      subst h
      obtain ⟨vs, hv, hrep⟩ := res_run he hs rs as ds hc hr
      exact ⟨a.tmps.getD t undef :: vs, by simp only [List.mapM_cons, Sem.run_bind, Sem.run_pure, Result.andThen_ok, hv], RepAll.cons (he.rep t) hrep⟩
  | .cell x t :: rs, .c n sz ag :: as, cs, hc, h => by
    simp only [chkRes, Bool.and_eq_true, beq_iff_eq, decide_eq_true_eq, Bool.or_eq_true] at hc
    obtain ⟨⟨⟨⟨⟨rfl, h1⟩, h2⟩, h3⟩, h4⟩, hc⟩ := hc
    obtain ⟨ti, hti, h1⟩ := any_some h1
    obtain ⟨d, hd⟩ := Option.isSome_iff_exists.1 h2
    simp only [resvs, resv] at h
    cases hv0 : rev ρ H (.ld sz ag (.t x)) with
    | none => simp [hv0] at h
    | some v0 =>
      cases hr : resvs ρ H as with
      | none => simp [hv0, hr] at h
      | some ds =>
        simp only [hv0, hr, Option.some.injEq] at h
        subst h
        obtain ⟨vs, hv, hrep⟩ := res_run he hs rs as ds hc hr
        have hread := ld_ok (P := P) (o := { dst := none, op := .load t (.tmp x), type := 0, pos := "", after := #[], guard := none }) (x' := .t x) rfl (by simp [chkO]) hti (by simpa using h1) hd h3 h4 γ w H ρ a v0 he hs hv0
        obtain ⟨u, hu, hru⟩ := hread
        have hex : (do loadVar t (← asAddr (a.tmps.getD x undef)) : Sem Value).run P w = .ok u w := by
          have hr1 := he.rep x
          simp only [rev, Opd.ev] at hv0
          simp only [execOp, Instr.loadAt, Act.eval, Sem.run_bind] at hu
          cases hx : ρ x <;> simp only [hx] at hv0 hr1 <;> try (cases hv0; done)
          all_goals
            generalize hg : a.tmps.getD x undef = g at hr1 hu ⊢
            cases hr1
            simp only [Instr.sureAddr, asAddr, Sem.run_bind, Sem.run_pure, Result.andThen_ok] at hu ⊢
            generalize (loadVar t _).run P w = r at hu ⊢
            cases r with
            | ok v w' => simp only [Result.andThen_ok, Result.ok.injEq, Next.value.injEq] at hu; rw [hu.1, hu.2]
            | halt x w' => simp [Result.andThen] at hu
        exact ⟨u :: vs, by simp only [List.mapM_cons, Sem.run_bind] at hex ⊢; rw [hex]; simp only [Result.andThen_ok, hv, Sem.run_pure], RepAll.cons hru hrep⟩

theorem results_run {P : Program} {γ : Gh} {w : World} {H : Heap} {ρ : Env} {a : Act} {fn : Func} {as : List ARes} {cs : List AV} (he : EnvRel γ w ρ a.tmps) (hs : StateRel γ w H) (hc : chkRes P fn.results.toList as = true) (h : resvs ρ H as = some cs) :
    ∃ v, (results fn a.tmps).run P w = .ok v w ∧ Rep γ w (tupOf cs) v := by
  obtain ⟨vs, hv, hrep⟩ := res_run (P := P) he hs fn.results.toList as cs hc h
  have hm : (fn.results.mapM (m := Sem) fun
      | .tmp t => pure (a.tmps.getD t undef)
      | .cell x t => do loadVar t (← asAddr (a.tmps.getD x undef))).run P w = .ok vs.toArray w := by
    rw [Array.mapM_eq_mapM_toList]
    simp only [Sem.run_map]
    have e : ∀ r : Result (List Value), r = .ok vs w → (r.andThen fun a w' => Result.ok a.toArray w') = .ok vs.toArray w := fun r hr => by subst hr; rfl
    exact e _ hv
  unfold results
  rw [Sem.run_bind]
  have e : ∀ r : Result (Array Value), r = .ok vs.toArray w → (r.andThen fun vs w' => (pure (if h : vs.size = 1 then vs[0] else .tuple vs) : Sem Value).run P w') = .ok (if h : vs.toArray.size = 1 then vs.toArray[0] else .tuple vs.toArray) w := fun r hr => by subst hr; rfl
  refine ⟨_, e _ hm, ?_⟩
  match cs, vs, hrep with
  | [], [], _ => exact .tup [] [] rfl (by simp)
  | [c], [v], h => exact h.2 0 c v rfl rfl
  | c1 :: c2 :: cs, v1 :: v2 :: vs, h => exact .tup _ _ h.1 h.2
  | [], _ :: _, h => exact absurd h.1 (by simp)
  | _ :: _, [], h => exact absurd h.1 (by simp)
  | [_], _ :: _ :: _, h => exact absurd h.1 (by simp)
  | _ :: _ :: _, [_], h => exact absurd h.1 (by simp)

/-- The marks are taken: their blocks are shut. -/
theorem leaves_marks {P : Program} {fn : Func} {tmps : Array Value} {R : Ending → World → Prop} {u : FrameMode} {γ : Gh} (hu : u ≠ .run) : ∀ (bs : List Nat) (w : World) (H : Heap), bs.Nodup → (∀ b ∈ bs, H b = none ∧ w.heap[b]? = some (.deferred (some []))) → StateRel γ w H →
    (∀ w', Ext (fun b => b ∈ bs) γ w γ w' → StateRel γ w' H → LeavesIn Fence.wide 0 P fn tmps R [] u w') → LeavesInM Fence.wide 0 P fn tmps R (bs.map coll) u w
  | [], w, H, _, _, hs, h => h w (.refl _ _ _) hs
  | b :: bs, w, H, hnd, hb, hs, h => by
    have h1 := hb b (List.mem_cons_self ..)
    obtain ⟨hnb, hnd'⟩ := List.nodup_cons.1 hnd
    have hE := ext_put γ (o' := .deferred none) h1.2 (fun _ _ _ h => by cases h) (fun _ _ _ h => by cases h)
    refine ⟨hu, .inl ⟨b, w.putObj b (.deferred none), rfl, run_takeDeferred h1.2, ?_⟩⟩
    have hs' : StateRel γ (w.putObj b (.deferred none)) H := hs.kept hE (fun c o hc e => by subst e; rw [h1.1] at hc; cases hc)
    refine leaves_marks hu bs _ H hnd' (fun c hc => ?_) hs' fun w' he hs2 => h w' ((hE.weaken fun c hc => by subst hc; exact List.mem_cons_self ..).trans he fun c _ hc => List.mem_cons_of_mem _ hc) hs2
    have h2 := hb c (List.mem_cons_of_mem _ hc)
    exact ⟨h2.1, (World.putObj_heap_other (fun e => by subst e; exact hnb hc)).trans h2.2⟩

/-- A CONTRACT OUT OF THE ABSTRACT CODE. -/
theorem ACalls.of_fn {P : Program} {f : FuncId} (af : AFn) (hc : chkFn P f af = true) {args : List AV} {H : Heap} {Q : AEnd → Heap → Prop} (hnp : args.length ≤ af.np)
    (h : awp P (finP Q) af.body (finQ af.res Q) (envOf (mkArgs 0 args)) H) : ACalls P f args H Q := by
  intro γ w vs ht hs hv
  unfold chkFn at hc
  cases hfn : P.funcs[f]? with
  | none => simp [hfn] at hc
  | some fn =>
    simp only [hfn] at hc
    cases hbody : fn.body with
    | none => simp [hbody] at hc
    | some code =>
      simp only [hbody, Bool.and_eq_true, decide_eq_true_eq] at hc
      obtain ⟨⟨⟨hN, hnpN⟩, hres⟩, hcode⟩ := hc
      refine (callsIn_wide (n := 0)).1 (callsIn_of_wp_marks hfn hbody trivial (wpIn_wide.2 ?_))
      have hlen : vs.toArray.size ≤ af.N := by simp only [List.size_toArray]; rw [← hv.1]; omega
      have hinv : SInv γ w H (Fx.marks af.N w.heap.size) γ w H (envOf (mkArgs 0 args)) { tmps := vs.toArray ++ Array.replicate (fn.ntmps - vs.toArray.size) undef, defers := [] } :=
        ⟨.refl _ _ _, hs, NewKeys.refl _ _, entry_env ht hv _, by show _ = af.N; rw [hN, Array.size_append, Array.size_replicate]; omega, fun n hn => absurd hn (Nat.not_lt_zero n), DfOk.init rfl⟩
      refine wp_mono (code_sound (F := Fx.marks af.N w.heap.size) (finP_wide Q) af.body code _ (.inr ⟨rfl, rfl, Nat.le_refl _⟩) hcode γ w H _ _ hinv h) fun e a' w' he => ?_
      have old : ∀ (H' : Heap) (bs : List Nat), (∀ b ∈ bs, w.heap.size ≤ b ∧ H' b = none ∧ w'.heap[b]? = some (.deferred (some []))) → ∀ b, b < w.heap.size → b ∈ bs → keysOf H b :=
        fun H' bs h b hb hm => absurd (h b hm).1 (by omega)
      have fin : ∀ γ' H' ρ', SInv γ w H (Fx.marks af.N w.heap.size) γ' w' H' ρ' a' → (match resvs ρ' H' af.res with | some vs => ∃ H'', Low H'' H' ∧ Q (.ret (tupOf vs)) H'' | none => False) →
          LeavesInM Fence.wide 0 P fn a'.tmps (fun e w' => ∃ γ' H' r, Ext (fun b => (H b).isSome = true) γ w γ' w' ∧ StateRel γ' w' H' ∧
            (∀ b, (H' b).isSome = true → (H b).isSome = true ∨ w.heap.size ≤ b) ∧ EndRel γ' w' e r ∧ Q r H') a'.defers .returning w' := by
        intro γ' H' ρ' h1 h2
        cases hr : resvs ρ' H' af.res with
        | none => simp [hr] at h2
        | some cs =>
          simp only [hr] at h2
          obtain ⟨H'', hsub, hq⟩ := h2
          obtain ⟨bs, hbs, hnd, _, hbk⟩ := h1.df.eq
          rw [hbs, show (Fx.marks af.N w.heap.size).D = [] from rfl, List.append_nil]
          refine leaves_marks (γ := γ') (by simp) bs w' H' hnd (fun b hb => (hbk b hb).2) h1.st fun w2 he hs2 => ?_
          obtain ⟨v, hrun, hrep⟩ := results_run (P := P) (h1.env.mono he.mono) hs2 hres hr
          refine ⟨v, hrun, γ', H'', .ret (tupOf cs), h1.ext.trans he (old H' bs hbk), hsub.st _ _ hs2, fun b hb => ?_, hrep, hq⟩
          exact h1.keys b (hsub.keys b hb)
      cases e with
      | normal => obtain ⟨γ', H', ρ', h1, h2⟩ := he; exact fin γ' H' ρ' h1 h2
      | ret => obtain ⟨γ', H', ρ', h1, h2⟩ := he; exact fin γ' H' ρ' h1 h2
      | exit id => obtain ⟨γ', H', ρ', h1, h2⟩ := he; exact h2.elim
      | goto l => exact he.elim
      | outgrown => exact he.elim
      | panic ch =>
        obtain ⟨γ', H', c, v, rfl, hext, hst, hk, hrep, ⟨H'', hsub, hq⟩, _, _, _, hdf⟩ := he
        obtain ⟨bs, hbs, hnd, _, hbk⟩ := hdf.eq
        show LeavesInM Fence.wide 0 P fn a'.tmps _ a'.defers _ w'
        rw [hbs, show (Fx.marks af.N w.heap.size).D = [] from rfl, List.append_nil]
        refine leaves_marks (γ := γ') (by simp) bs w' H' hnd (fun b hb => (hbk b hb).2) hst fun w2 he hs2 => ?_
        exact ⟨γ', H'', .pan c, hext.trans he (old H' bs hbk), hsub.st _ _ hs2, fun b hb => hk b (hsub.keys b hb), ⟨v, rfl, hrep.mono he.mono⟩, hq⟩

/-! ### contracts in use -/

/-- A function that computes: from data to data, all memory as it was. -/
def Pure (P : Program) (f : FuncId) (args : List AV) (r : AV) : Prop := ACalls P f args Heap.emp fun e H' => e = .ret r ∧ H' = Heap.emp

theorem union_emp (H : Heap) : Heap.union Heap.emp H = H := by funext n; simp [Heap.union, Heap.emp]

theorem disj_emp (H : Heap) : Heap.Disj Heap.emp H := fun _ => .inl rfl

theorem Pure.use {P : Program} {f : FuncId} {args : List AV} {r : AV} (h : Pure P f args r) {H : Heap} {K KP : AV → Heap → Prop} (hk : K r H) : ACalls P f args H (endK K KP) := by
  have := h.frame (disj_emp H)
  rw [union_emp] at this
  refine this.mono fun e H' ⟨A', ⟨he, hA⟩, _, hH⟩ => ?_
  subst he; subst hA; subst hH
  rw [union_emp]
  exact hk

/-- Ownership of what is handed back is let go. -/
theorem ACalls.strip {P : Program} {f : FuncId} {args : List AV} {H : Heap} {Q : AEnd → Heap → Prop} (h : ACalls P f args H fun e H' => match e with | .ret v => Q (.ret v.strip) H' | .pan v => Q (.pan v) H') : ACalls P f args H Q :=
  fun γ w vs ht hs hv => (h γ w vs ht hs hv).mono fun e w' ⟨γ', H', r, a, b, c, d, q⟩ => by
    cases r with
    | ret v =>
      refine ⟨γ', H', .ret v.strip, a, b, c, ?_, q⟩
      cases e with
      | returned u => exact Rep.strip d
      | panicked ch => exact d
      | outgrown => exact d
    | pan v => exact ⟨γ', H', .pan v, a, b, c, d, q⟩

def pureQ (r : AV) : AEnd → Heap → Prop
  | .ret v, H => v.strip = r ∧ H = Heap.emp
  | .pan _, _ => False

/-- A contract for a function that computes. -/
theorem Pure.of_fn {P : Program} {f : FuncId} (af : AFn) (hc : chkFn P f af = true) {args : List AV} {r : AV} (hnp : args.length ≤ af.np)
    (h : awp P (finP (pureQ r)) af.body (finQ af.res (pureQ r)) (envOf (mkArgs 0 args)) Heap.emp) : Pure P f args r := by
  unfold Pure
  refine ACalls.strip ((ACalls.of_fn af hc hnp h).mono fun e H' hq => ?_)
  cases e with
  | ret v => exact ⟨by rw [hq.1], hq.2⟩
  | pan v => exact hq.elim

theorem fin_pure {res : List ARes} {r : AV} {ρ : Env} {H : Heap} {vs : List AV} (h : resvs ρ H res = some vs) (hr : (tupOf vs).strip = r) : (∃ ws, resvs ρ H res = some ws ∧ (tupOf ws).strip = r) := ⟨vs, h, hr⟩

theorem finQ_pure {res : List ARes} {r : AV} {e : AExit} {ρ : Env} {H : Heap} (he : ∀ i, e ≠ .exit i) (h : ∃ ws, resvs ρ H res = some ws ∧ (tupOf ws).strip = r) : finQ res (pureQ r) e ρ H := by
  obtain ⟨ws, h1, h2⟩ := h
  cases e with
  | exit i => exact absurd rfl (he i)
  | normal => simp only [finQ, h1]; exact ⟨Heap.emp, Low.of_sub fun b o hb => by simp [Heap.emp] at hb, h2, rfl⟩
  | ret => simp only [finQ, h1]; exact ⟨Heap.emp, Low.of_sub fun b o hb => by simp [Heap.emp] at hb, h2, rfl⟩

theorem finQ_normal {res : List ARes} {r : AV} {ρ : Env} {H : Heap} : finQ res (pureQ r) .normal ρ H = ∃ ws, resvs ρ H res = some ws ∧ (tupOf ws).strip = r :=
  propext ⟨fun h => by
    simp only [finQ] at h
    cases hr : resvs ρ H res with
    | none => simp [hr] at h
    | some ws => simp only [hr] at h; obtain ⟨H', _, h2, _⟩ := h; exact ⟨ws, rfl, h2⟩, finQ_pure (by simp)⟩

theorem finQ_ret {res : List ARes} {r : AV} {ρ : Env} {H : Heap} : finQ res (pureQ r) .ret ρ H = ∃ ws, resvs ρ H res = some ws ∧ (tupOf ws).strip = r :=
  propext ⟨fun h => by
    simp only [finQ] at h
    cases hr : resvs ρ H res with
    | none => simp [hr] at h
    | some ws => simp only [hr] at h; obtain ⟨H', _, h2, _⟩ := h; exact ⟨ws, rfl, h2⟩, finQ_pure (by simp)⟩

end Go.Ab
