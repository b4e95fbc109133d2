/- Deferred calls, and functions that defer one. -/
import Derived.Test.YthkpgjnibolnhaaAbsO
import Derived.Recover
set_option linter.unusedSimpArgs false
set_option linter.unusedVariables false
namespace Go.Ab

/-- What a deferred call meets: a plain end, or a panic. -/
def ModeRel (γ : Gh) (w : World) : Option AV → FrameMode → Prop
  | none, u => u = .returning
  | some c, u => ∃ v, u = .panicking [{ v, recovered := false }] ∧ Rep γ w c v

/-- The mode behind a recover. -/
def recMode : FrameMode → FrameMode
  | .panicking ({ v, recovered := false, goexit := false } :: older) => .panicking ({ v, recovered := true } :: older)
  | u => u

/-- A CONTRACT OF A DEFERRED CALL that recovers: it returns. -/
def ACallsD (P : Program) (f : FuncId) (args : List AV) (rv : Option AV) (H : Heap) (Q : Heap → Prop) : Prop :=
  ∀ (γ : Gh) (w : World) (vs : List Value) (u : FrameMode), TabOk γ w → StateRel γ w H → RepAll γ w args vs → ModeRel γ w rv u →
    CallsD P f vs.toArray u w fun e u' w' => ∃ γ' H' v, e = .returned v ∧ u' = recMode u ∧ Ext (fun b => (H b).isSome = true) γ w γ' w' ∧ StateRel γ' w' H' ∧
      (∀ b, (H' b).isSome = true → (H b).isSome = true ∨ w.heap.size ≤ b) ∧ Q H'

theorem ACallsD.mono {P : Program} {f : FuncId} {args : List AV} {rv : Option AV} {H : Heap} {Q Q' : Heap → Prop} (h : ACallsD P f args rv H Q) (hq : ∀ H', Q H' → Q' H') : ACallsD P f args rv H Q' :=
  fun γ w vs u ht hs hv hu => (h γ w vs u ht hs hv hu).mono fun _ _ _ ⟨γ', H', v, a, b, c, d, e, q⟩ => ⟨γ', H', v, a, b, c, d, e, hq _ q⟩

theorem ACallsD.beside {P : Program} {f : FuncId} {args : List AV} {rv : Option AV} {H : Heap} {Q : Heap → Prop} {b : Nat} {o : AObj} (hb : H b = none) (h : ACallsD P f args rv H Q) :
    ACallsD P f args rv (H.upd b o) (fun H' => ∃ H0, H0 b = none ∧ H' = H0.upd b o ∧ Q H0) := by
  intro γ w vs u ht hs hv hu
  have hne : ∀ c x, H c = some x → c ≠ b := fun c x hc e => by subst e; rw [hb] at hc; cases hc
  have hA : StateRel γ w H := hs.sub fun c x hc => by simp [Heap.upd, hne c x hc, hc]
  have hB : ObjRel γ w b o := hs b o (by simp [Heap.upd])
  refine (h γ w vs u ht hA hv hu).mono fun e u' w' ⟨γ', H', v, he, hu', hext, hst, hk, hq⟩ => ?_
  have hHb : H' b = none := by
    cases hx : H' b with
    | none => rfl
    | some x =>
      rcases hk b (by simp [hx]) with h1 | h1
      · simp [hb] at h1
      · have := hB.lt; omega
  refine ⟨γ', H'.upd b o, v, he, hu', hext.weaken fun c hc => ?_, fun c x hc => ?_, fun c hc => ?_, H', hHb, rfl, hq⟩
  · unfold Heap.upd; split
    · rfl
    · exact hc
  · unfold Heap.upd at hc
    split at hc
    · rename_i e; subst e
      simp only [Option.some.injEq] at hc; subst hc
      obtain ⟨g, k⟩ := hext.frame _ hB.lt (by simp [hb])
      exact hB.kept hext.mono g k
    · exact hst c x hc
  · unfold Heap.upd at hc ⊢
    split at hc
    · rename_i e; subst e; left; simp
    · rename_i e
      simp only [e, if_false]
      exact hk c hc

theorem wpOpsS_of_wpOps {P : Program} {ops : Array Oper} {Q : Exit → Act → List Frame → World → Prop} {cs : List Frame} (hno : ∀ a w, ¬ Q .outgrown a cs w) : ∀ (l : List Nat) (a : Act) (w : World), wpOps P ops (fun e a w => Q e a cs w) l a w → wpOpsS P ops Q l a cs w
  | [], a, w, h => h
  | i :: rest, a, w, h => by
    simp only [wpOps] at h
    simp only [wpOpsS]
    cases ho : ops[i]? with
    | none => simp only [ho] at h ⊢; exact wpOpsS_of_wpOps hno rest a w h
    | some o =>
      simp only [ho] at h ⊢
      by_cases hw : Region.wanted o (yielded ops a.tmps) = true
      · simp only [hw, if_true] at h ⊢
        rcases h with h | ⟨_, a0, w0, h0⟩
        · unfold Oper.wp at h
          generalize (execOp a.eval o).run P w = r at h ⊢
          have ih := wpOpsS_of_wpOps (P := P) (ops := ops) hno rest
          cases r with
          | ok n w' =>
            cases n <;> first | exact ih _ _ h | exact h.elim | skip
            · exact Calls.mono h fun e w2 hq => by cases e <;> first | exact ih _ _ hq | exact hq
            · rename_i row args
              intro c cs'
              obtain ⟨v, w2, hq, hs⟩ := h c cs'
              exact ⟨v, w2, ih _ _ hq, hs⟩
          | halt x w' => cases x <;> first | exact h | exact h.elim
        · exact (hno _ _ h0).elim
      · simp only [hw, if_false, Bool.false_eq_true] at h ⊢
        exact wpOpsS_of_wpOps hno rest _ _ h

/-! ### a deferred function that recovers first -/

structure ADfn where
  N : Nat
  np : Nat
  d : Nat
  items : List AItem
  body : AC

def isRecover (o : Oper) (n : Nat) : Bool :=
  decide (o.dst = some n) && o.guard.isNone && (match o.op with
    | .call c => (match c.callee with | .builtin .recover => true | _ => false) && decide (c.args.size = 0)
    | _ => false)

def chkDfn (P : Program) (f : FuncId) (ad : ADfn) : Bool :=
  match P.funcs[f]? with
  | some fn => match fn.body with
    | some (.seq (.region _ ops false) code) => decide (fn.ntmps = ad.N) && decide (ad.np ≤ ad.N) && decide (ad.d < ad.N) && decide (fn.results.size = 0) &&
        (match ops.toList with | o :: r => isRecover o ad.d && decide (r.length = ad.items.length) && ((r.zip ad.items).all fun x => chkItem ad.N 0 ops P x.1 x.2) | [] => false) && chkCode P ad.N 0 code ad.body && ad.body.plain
    | _ => false
  | none => false

/-- How a deferred body ends. -/
def finD (Q : Heap → Prop) : AExit → Env → Heap → Prop
  | .exit _, _, _ => False
  | _, _, H => Q H

theorem isRecover_spec {o : Oper} {d : Nat} (h : isRecover o d = true) : o.dst = some d ∧ o.guard = none ∧ ∃ c, o.op = .call c ∧ c.callee = .builtin .recover ∧ c.args = #[] := by
  unfold isRecover at h
  simp only [Bool.and_eq_true, decide_eq_true_eq, Option.isNone_iff_eq_none] at h
  obtain ⟨⟨h1, h2⟩, h3⟩ := h
  refine ⟨h1, h2, ?_⟩
  split at h3
  · rename_i c hc
    simp only [Bool.and_eq_true, decide_eq_true_eq] at h3
    obtain ⟨h3, h4⟩ := h3
    split at h3
    · rename_i hcal; exact ⟨c, hc, hcal, by simpa using h4⟩
    · cases h3
  · cases h3

theorem ACallsD.of_fn {P : Program} {f : FuncId} (ad : ADfn) (hc : chkDfn P f ad = true) {args : List AV} {rv : Option AV} {H : Heap} {Q : Heap → Prop} (hnp : args.length ≤ ad.np)
    (h : awpItems P (fun _ _ => False) (annot ad.items) ((envOf (mkArgs 0 args)).set (some ad.d) (rv.getD (.oth .nilIface))) H fun ρ' H' => awp P (fun _ _ => False) ad.body (finD Q) ρ' H') : ACallsD P f args rv H Q := by
  intro γ w vs u ht hs hv hu
  unfold chkDfn at hc
  cases hfn : P.funcs[f]? with
  | none => simp [hfn] at hc
  | some fn =>
    simp only [hfn] at hc
    split at hc
    · rename_i id ops code hbody
      simp only [Bool.and_eq_true, decide_eq_true_eq] at hc
      obtain ⟨⟨⟨⟨⟨⟨hN, hnpN⟩, hd⟩, hres⟩, hops⟩, hcode⟩, hpl⟩ := hc
      split at hops
      · rename_i o r hor
        simp only [Bool.and_eq_true, decide_eq_true_eq] at hops
        obtain ⟨⟨hrec, hlen⟩, hall⟩ := hops
        obtain ⟨hdst, hguard, cl, hop, hcal, hargs⟩ := isRecover_spec hrec
        have hsz : ops.size = ad.items.length + 1 := by
          have := congrArg List.length hor
          simpa [hlen] using this
        have h0 : ops[0]? = some o := by rw [← Array.getElem?_toList, hor]; rfl
        have hk : ∀ k, ops[k + 1]? = r[k]? := fun k => by rw [← Array.getElem?_toList, hor]; rfl
        refine callsD_of_wpS hfn hbody (fun c₀ cs hc0 => wpS_seq (wpS_region ?_))
        rw [hsz, List.range_succ_eq_map]
        simp only [wpOpsS, h0]
        have hw : Region.wanted o (yielded ops (vs.toArray ++ Array.replicate (fn.ntmps - vs.toArray.size) undef)) = true := by simp [Region.wanted, hguard]
        simp only [hw, if_true]
        have hrun : ∀ a : Act, (execOp a.eval o).run P w = .ok .recover w := fun a => by
          simp [execOp, hop, hcal, hargs, resolve, invoke, builtin, Sem.run_bind, Result.andThen]
        rw [hrun]
        have hlen' : vs.toArray.size ≤ ad.N := by simp only [List.size_toArray]; rw [← hv.1]; omega
        -- behind the recover
        have key : ∀ v, Rep γ w (rv.getD (.oth .nilIface)) v → wpOpsS P ops (Exit.thenS (code.wpS P (bodyPostS P fn c₀ cs fun e u' w' => ∃ γ' H' v, e = .returned v ∧ u' = recMode u ∧ Ext (fun b => (H b).isSome = true) γ w γ' w' ∧ StateRel γ' w' H' ∧
            (∀ b, (H' b).isSome = true → (H b).isSome = true ∨ w.heap.size ≤ b) ∧ Q H')) (bodyPostS P fn c₀ cs fun e u' w' => ∃ γ' H' v, e = .returned v ∧ u' = recMode u ∧ Ext (fun b => (H b).isSome = true) γ w γ' w' ∧ StateRel γ' w' H' ∧
            (∀ b, (H' b).isSome = true → (H b).isSome = true ∨ w.heap.size ≤ b) ∧ Q H')) ((List.range ad.items.length).map Nat.succ) (Act.put { tmps := vs.toArray ++ Array.replicate (fn.ntmps - vs.toArray.size) undef, defers := [] } o.dst v) ({ c₀ with mode := recMode u } :: cs) w := by
          intro v hrep
          have hinv0 : SInv γ w H (Fx.plain ad.N) γ w H (envOf (mkArgs 0 args)) { tmps := vs.toArray ++ Array.replicate (fn.ntmps - vs.toArray.size) undef, defers := [] } :=
            ⟨.refl _ _ _, hs, NewKeys.refl _ _, entry_env ht hv _, by show _ = ad.N; rw [hN, Array.size_append, Array.size_replicate]; omega, fun n hn => absurd hn (Nat.not_lt_zero n), DfOk.init rfl⟩
          have hinv : SInv γ w H (Fx.plain ad.N) γ w H ((envOf (mkArgs 0 args)).set (some ad.d) (rv.getD (.oth .nilIface))) (Act.put { tmps := vs.toArray ++ Array.replicate (fn.ntmps - vs.toArray.size) undef, defers := [] } o.dst v) := by
            rw [hdst]
            exact hinv0.step (.refl _ _ _) hs (NewKeys.refl _ _) (fun x hx => by cases hx; exact ⟨Nat.zero_le _, hd⟩) hrep
          refine wpOpsS_of_wpOps (fun a w' hq => ?_) _ _ _ ?_
          · obtain ⟨u', _, _, _, he, _⟩ := hq
            cases he
          · have endp : ∀ (e : Exit) γ' w' H' ρ' a', (e = .normal ∨ e = .ret) → SInv γ w H (Fx.plain ad.N) γ' w' H' ρ' a' → Q H' → bodyPostS P fn c₀ cs (fun e u' w' => ∃ γ' H' v, e = .returned v ∧ u' = recMode u ∧ Ext (fun b => (H b).isSome = true) γ w γ' w' ∧ StateRel γ' w' H' ∧
                (∀ b, (H' b).isSome = true → (H b).isSome = true ∨ w.heap.size ≤ b) ∧ Q H') e a' ({ c₀ with mode := recMode u } :: cs) w' := by
              intro e γ' w' H' ρ' a' he hi hq
              have hr : (results fn a'.tmps).run P w' = .ok (.tuple #[]) w' := by
                have : fn.results = #[] := by simpa using hres
                simp [results, this, Sem.run_bind]
              rcases he with rfl | rfl <;> exact ⟨hi.df.plain rfl, _, rfl, _, hr, γ', H', _, rfl, rfl, hi.ext, hi.st, hi.keys, hq⟩
            refine items_sound (F := Fx.plain ad.N) (KP := fun _ _ => False) (K := fun ρ' H' => awp P (fun _ _ => False) ad.body (finD Q) ρ' H') (fun ch a w' hp => ?_) (fun γ' w' H' ρ' a' hi hawp => ?_) _ (annot ad.items) (by simp [annot]) (fun k i it hki hit => ?_) γ w H _ _ hinv h
            · obtain ⟨_, _, _, _, _, _, _, _, _, hf, _⟩ := hp; exact hf.elim
            · refine wpS_of_wp (wp_mono (code_sound (F := Fx.plain ad.N) (KP := fun _ _ => False) (fun _ _ _ _ _ hf => hf) ad.body code (finD Q) (.inl hpl) hcode γ' w' H' ρ' a' hi hawp) fun e a2 w2 he => ?_)
              cases e with
              | normal => obtain ⟨g, hh, rr, h1, h2⟩ := he; exact endp .normal g w2 hh rr a2 (.inl rfl) h1 h2
              | ret => obtain ⟨g, hh, rr, h1, h2⟩ := he; exact endp .ret g w2 hh rr a2 (.inr rfl) h1 h2
              | exit id => obtain ⟨g, hh, rr, h1, h2⟩ := he; exact h2.elim
              | goto l => exact he.elim
              | outgrown => exact he.elim
              | panic ch => obtain ⟨_, _, _, _, _, _, _, _, _, hf, _⟩ := he; exact hf.elim
            · rw [List.getElem?_map, Option.map_eq_some_iff] at hki
              obtain ⟨k', hk', rfl⟩ := hki
              obtain ⟨h1, h2⟩ := List.getElem?_eq_some_iff.1 hk'
              simp at h1 h2
              subst h2
              simp only [annot, List.getElem?_map, Option.map_eq_some_iff] at hit
              obtain ⟨x, hx, rfl⟩ := hit
              have hkr : k < r.length := by omega
              refine ⟨r[k], by show ops[k + 1]? = _; rw [hk, List.getElem?_eq_getElem hkr], ?_⟩
              have hz : (r.zip ad.items)[k]? = some (r[k], x) := by
                rw [List.getElem?_zip_eq_some]
                exact ⟨List.getElem?_eq_getElem hkr, hx⟩
              exact List.all_eq_true.1 hall _ (List.mem_of_getElem? hz)
        cases rv with
        | none =>
          have hu' : u = .returning := hu
          subst hu'
          have hrd : recoverD (c₀ :: cs) = none := by simp [recoverD, hc0]
          have e0 : ({ c₀ with mode := recMode .returning } : Frame) = c₀ := by
            have : recMode .returning = c₀.mode := by rw [hc0]; rfl
            rw [this]
          simp only [hrd]
          have := key .nilIface (.oth _)
          rwa [e0] at this
        | some c =>
          obtain ⟨v, rfl, hrep⟩ := hu
          have hrd : recoverD (c₀ :: cs) = some (v, { c₀ with mode := recMode (.panicking [{ v, recovered := false }]) } :: cs) := by
            simp [recoverD, hc0, recMode]
          simp only [hrd]
          exact key v hrep
      · cases hops
    · cases hc

/-- More equations of the stepping, in one. -/
theorem st2 : type_of% (And.intro @o_callv <| And.intro @goW_clo <| And.intro @o_apps <| And.intro @goX_str <| And.intro @o_pan <| And.intro @goN_ifc <| And.intro @o_mup <| And.intro @goM0_mp <| And.intro @goM_map <| And.intro @List.append_nil.{0} <| And.intro @setAll_nil <| And.intro @setAll_cons <| And.intro @splice_cons <| And.intro @splice_succ <| And.intro @splice_zero <| And.intro @decide_true <| And.intro @decide_false <| And.intro @List.take_succ_cons.{0} <| And.intro @List.take_zero.{0} <| And.intro @List.drop_succ_cons.{0} <| And.intro @List.drop_zero.{0} <| And.intro @List.length_cons.{0} <| And.intro @List.length_nil.{0} <| And.intro @List.take_length.{0} <| And.intro @List.headD_cons.{0} <| And.intro @List.cons_append.{0} <| And.intro @List.nil_append.{0} <| And.intro @Option.map_some.{0, 0} <| And.intro @Bool.not_true <| And.intro @Bool.not_false <| And.intro @Bool.false_eq_true <| And.intro @eq_self.{1} <| And.intro @List.replicate_zero.{0} <| And.intro @List.replicate_succ.{0} <| And.intro @List.set_cons_zero.{0} <| And.intro @List.set_cons_succ.{0} <| And.intro @Nat.lt_add_one <| And.intro @Nat.zero_lt_succ <| And.intro @Nat.le_refl <| And.intro @if_pos.{1} <| And.intro @upd_ne <| And.intro @List.getElem?_cons_succ.{0} <| And.intro @List.getElem?_cons_zero.{0} <| And.intro @Option.some.injEq.{0} <| And.intro @Int.cast_ofNat_Int <| And.intro @List.getD_cons_zero.{0} <| And.intro @List.getD_cons_succ.{0} <| And.intro @Int.toNat_natCast <| And.intro @Int.natCast_zero <| And.intro @Int.natCast_eq_zero <| And.intro @Int.zero_add <| And.intro @Int.natCast_nonneg <| And.intro @true_and <| And.intro @and_true <| And.intro @not_false_eq_true <| And.intro @not_true_eq_false <| And.intro @ne_eq.{1} <| And.intro @List.map_nil.{0, 0} <| And.intro @List.map_cons.{0, 0} <| And.intro @beq_self_eq_true.{0} <| And.intro @implies_true.{0} <| @Bool.true_eq_false) :=
  And.intro @o_callv <| And.intro @goW_clo <| And.intro @o_apps <| And.intro @goX_str <| And.intro @o_pan <| And.intro @goN_ifc <| And.intro @o_mup <| And.intro @goM0_mp <| And.intro @goM_map <| And.intro @List.append_nil.{0} <| And.intro @setAll_nil <| And.intro @setAll_cons <| And.intro @splice_cons <| And.intro @splice_succ <| And.intro @splice_zero <| And.intro @decide_true <| And.intro @decide_false <| And.intro @List.take_succ_cons.{0} <| And.intro @List.take_zero.{0} <| And.intro @List.drop_succ_cons.{0} <| And.intro @List.drop_zero.{0} <| And.intro @List.length_cons.{0} <| And.intro @List.length_nil.{0} <| And.intro @List.take_length.{0} <| And.intro @List.headD_cons.{0} <| And.intro @List.cons_append.{0} <| And.intro @List.nil_append.{0} <| And.intro @Option.map_some.{0, 0} <| And.intro @Bool.not_true <| And.intro @Bool.not_false <| And.intro @Bool.false_eq_true <| And.intro @eq_self.{1} <| And.intro @List.replicate_zero.{0} <| And.intro @List.replicate_succ.{0} <| And.intro @List.set_cons_zero.{0} <| And.intro @List.set_cons_succ.{0} <| And.intro @Nat.lt_add_one <| And.intro @Nat.zero_lt_succ <| And.intro @Nat.le_refl <| And.intro @if_pos.{1} <| And.intro @upd_ne <| And.intro @List.getElem?_cons_succ.{0} <| And.intro @List.getElem?_cons_zero.{0} <| And.intro @Option.some.injEq.{0} <| And.intro @Int.cast_ofNat_Int <| And.intro @List.getD_cons_zero.{0} <| And.intro @List.getD_cons_succ.{0} <| And.intro @Int.toNat_natCast <| And.intro @Int.natCast_zero <| And.intro @Int.natCast_eq_zero <| And.intro @Int.zero_add <| And.intro @Int.natCast_nonneg <| And.intro @true_and <| And.intro @and_true <| And.intro @not_false_eq_true <| And.intro @not_true_eq_false <| And.intro @ne_eq.{1} <| And.intro @List.map_nil.{0, 0} <| And.intro @List.map_cons.{0, 0} <| And.intro @beq_self_eq_true.{0} <| And.intro @implies_true.{0} <| @Bool.true_eq_false

end Go.Ab
