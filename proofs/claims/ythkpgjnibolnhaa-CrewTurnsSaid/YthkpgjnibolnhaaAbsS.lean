/- The contract of an iterator that hands over one value a round, out of its abstract code. -/
import Derived.Test.YthkpgjnibolnhaaAbsP
import Derived.OrdersIn
set_option linter.unusedSimpArgs false
set_option linter.unusedVariables false
namespace Go.Ab

/-- 'pre; for { test; { mid; items; yield; items2; if c { return } }; post }' -/
structure AIt where
  N : Nat
  b0 : Nat
  b1 : Nat
  pre : AC
  test : AC
  mid : AC
  items : List AItem
  g : Nat
  x : Nat
  d : Nat
  it2 : AItem
  c : Nat
  post : AC

def isYield (o : Oper) (g x d : Nat) : Bool :=
  decide (o.dst = some d) && o.guard.isNone && (match o.op with
    | .call c => (match c.callee with | .value (.tmp t) => decide (t = g) | _ => false) && (match c.args.toList with | [.tmp t] => decide (t = x) | _ => false)
    | _ => false)

def chkIt (P : Program) (f : FuncId) (it : AIt) : Bool :=
  match P.funcs[f]? with
  | some fn => match fn.body with
    | some (.seq c0 (.block b0 (.loop (.seq ct (.seq (.block b1 (.seq cm (.seq (.region _ ops false) (.cond (.tmp c) .ret .skip)))) cp))))) =>
      decide (fn.ntmps = it.N) && decide (0 < it.N) && decide (fn.results.size = 0) && decide (b0 = it.b0) && decide (b1 = it.b1) && decide (c = it.c) && decide (it.d < it.N) && chkCode P it.N 0 c0 it.pre && chkCode P it.N 0 ct it.test && chkCode P it.N 0 cm it.mid && chkCode P it.N 0 cp it.post &&
      decide (ops.size = it.items.length + 2) && ((ops.toList.zip it.items).all fun x => chkItem it.N 0 ops P x.1 x.2) && (match ops[it.items.length]? with | some o => isYield o it.g it.x it.d | none => false) &&
      (match ops[it.items.length + 1]? with | some o => chkItem it.N 0 ops P o it.it2 | none => false) && it.pre.plain && it.test.plain && it.mid.plain && it.post.plain
    | _ => false
  | none => false

theorem wpOpsIn_append {P : Program} {F : Fence} {n : Nat} {ops : Array Oper} {Q : Exit → Act → World → Prop} (l2 : List Nat) : ∀ (l1 : List Nat) (a : Act) (w : World),
    wpOpsIn F n P ops (fun e => match e with | .normal => wpOpsIn F n P ops Q l2 | e => Q e) l1 a w → wpOpsIn F n P ops Q (l1 ++ l2) a w
  | [], a, w, h => h
  | i :: l, a, w, h => by
    rw [List.cons_append]
    simp only [wpOpsIn] at h ⊢
    have ih := wpOpsIn_append (P := P) (F := F) (n := n) (ops := ops) (Q := Q) l2 l
    cases ho : ops[i]? with
    | none => simp only [ho] at h; exact ih _ _ h
    | some o =>
      simp only [ho] at h
      by_cases hw : Region.wanted o (yielded ops a.tmps) = true
      · simp only [hw, if_true] at h ⊢
        refine ⟨h.1, ?_⟩
        have h := h.2
        generalize (o.semAt F.round a.eval).run P w = r at h ⊢
        cases r with
        | ok m w' =>
          cases m <;> simp only [Oper.uponIn] at h ⊢ <;>
            first
              | exact ih _ _ h
              | exact ⟨h.1, CallsIn.mono h.2 (fun e w'' he => by cases e <;> first | exact ih _ _ he | exact he)⟩
              | exact ⟨h.1, RowsIn.mono h.2 (fun _ _ he => ih _ _ he)⟩
              | exact ⟨h.1, RoundIn.mono h.2 (fun e w'' he => by cases e <;> first | exact ih _ _ he | exact he)⟩
        | halt x w' => cases x <;> simp only [Oper.uponIn] at h ⊢ <;> exact h
      · simp only [hw, Bool.false_eq_true, if_false] at h ⊢
        exact ⟨h.1, ih _ _ h.2⟩

theorem wpOps_wide {P : Program} {ops : Array Oper} {Q : Exit → Act → World → Prop} (hno : ∀ a w, ¬ Q .outgrown a w) : ∀ (idx : List Nat) (a : Act) (w : World), wpOps P ops Q idx a w → wpOpsIn Fence.wide 0 P ops Q idx a w
  | [], a, w, h => h
  | i :: rest, a, w, h => by
    simp only [wpOps] at h
    simp only [wpOpsIn]
    have ih := wpOps_wide (P := P) hno (ops := ops) rest
    cases ho : ops[i]? with
    | none => simp only [ho] at h ⊢; exact ih a w h
    | some o =>
      simp only [ho] at h ⊢
      by_cases hw : Region.wanted o (yielded ops a.tmps) = true
      · simp only [hw, if_true] at h ⊢
        rcases h with h | ⟨_, a0, w0, h0⟩
        · refine ⟨fun _ _ => trivial, ?_⟩
          rw [show Fence.wide.round = none from rfl, Oper.semAt_none]
          unfold Oper.wp at h
          generalize (execOp a.eval o).run P w = r at h ⊢
          cases r with
          | ok n w' =>
            cases n <;> first | exact ih _ _ h | exact h.elim | skip
            · rename_i f args
              refine ⟨fun h => by simp [Fence.wide] at h, ?_⟩
              have h2 : CallsIn Fence.wide (0 - 1) P f args w' _ := callsIn_wide.2 h
              refine h2.mono fun e w2 hq => ?_
              cases e with
              | returned v => exact ih _ _ hq
              | panicked ch => exact hq
              | outgrown => obtain ⟨a0, w0, h0⟩ := hq; exact (hno _ _ h0).elim
            · rename_i row args
              refine ⟨fun h => by simp [Fence.wide] at h, fun c cs hroom => ?_⟩
              obtain ⟨v, w2, hq, hs⟩ := h c cs
              exact ⟨v, w2, ih _ _ hq, stepsIn_wide.2 hs⟩
          | halt x w' => cases x <;> first | exact h | exact h.elim
        · exact (hno _ _ h0).elim
      · simp only [hw, if_false, Bool.false_eq_true] at h ⊢
        exact ⟨fun _ _ => trivial, ih _ _ h⟩

theorem wpIn_loop_n {F : Fence} {k : Nat} {P : Program} {Q : Exit → Act → World → Prop} {c : Code} (J : Nat → Act → World → Prop) {a : Act} {w : World} {n : Nat} (h0 : J n a w)
    (round : ∀ n a w, J n a w → c.wpIn F k P (Exit.then (fun a' w' => ∃ m, m < n ∧ J m a' w') Q) a w) : (Code.loop c).wpIn F k P Q a w := by
  classical
  refine wpIn_loop (fun a w => ∃ n, J n a w) (fun a w => if h : ∃ n, J n a w then Classical.choose (least h) else 0) ⟨n, h0⟩ (fun a w hI => ?_)
  have hs := Classical.choose_spec (least hI)
  refine wpIn_mono (round _ a w hs.1) (fun e a' w' hq => ?_)
  cases e <;> first | exact hq | skip
  obtain ⟨m, hm, hJ⟩ := hq
  refine ⟨⟨m, hJ⟩, ?_⟩
  have hI' : ∃ n, J n a' w' := ⟨m, hJ⟩
  have hle := (Classical.choose_spec (least hI')).2 m hJ
  simp only [hI, hI', dif_pos]
  omega

theorem isYield_spec {o : Oper} {g x d : Nat} (h : isYield o g x d = true) : o.dst = some d ∧ o.guard = none ∧ ∃ c, o.op = .call c ∧ c.callee = .value (.tmp g) ∧ c.args = #[.tmp x] := by
  unfold isYield at h
  simp only [Bool.and_eq_true, decide_eq_true_eq, Option.isNone_iff_eq_none] at h
  obtain ⟨⟨h1, h2⟩, h3⟩ := h
  refine ⟨h1, h2, ?_⟩
  split at h3
  · rename_i c hc
    simp only [Bool.and_eq_true] at h3
    obtain ⟨h3, h4⟩ := h3
    split at h3
    · rename_i t hcal
      split at h4
      · rename_i t' hargs
        simp only [decide_eq_true_eq] at h3 h4
        subst h3; subst h4
        exact ⟨c, hc, hcal, Array.toList_inj.1 hargs⟩
      · cases h4
    · cases h3
  · cases h3

def KF : AV → Heap → Prop := fun _ _ => False

/-- What is to be shown of the code: 'Inv k' holds when k values have been handed over. -/
structure ItOk (P : Program) (it : AIt) (caps : List AV) (X : List (List AV)) (y : Value) (keep : List Nat) (Inv : Nat → Env → Prop) : Prop where
  pre : awp P KF it.pre (onlyN fun ρ H => H = Heap.emp ∧ Inv 0 (ρ.keep keep)) (envOf (mkArgs 0 (.oth y :: caps))) Heap.emp
  round : ∀ k ρ, Inv k ρ → awp P KF it.test (fun e ρ H => match e with
    | .normal => ∃ x, H = Heap.emp ∧ X[k]? = some [x] ∧ awp P KF it.mid (onlyN fun ρ H => H = Heap.emp ∧ awpItems P KF (annot it.items) ρ H fun ρ H => H = Heap.emp ∧ ρ it.g = .oth y ∧ ρ it.x = x ∧
        awpItems P KF (annot [it.it2]) (ρ.set (some it.d) (.bool true)) Heap.emp fun ρ H => H = Heap.emp ∧ ρ it.c = .bool false ∧ awp P KF it.post (onlyN fun ρ H => H = Heap.emp ∧ Inv (k + 1) (ρ.keep keep)) ρ H) ρ H
    | .exit i => i = it.b0 ∧ k = X.length
    | .ret => False) ρ Heap.emp

theorem SeqC.of_it {P : Program} {f : FuncId} (it : AIt) (hc : chkIt P f it = true) {caps : List AV} {X : List (List AV)} (hcl : caps.length + 1 ≤ it.N) (hok : ∀ y, ∃ keep Inv, ItOk P it caps X y keep Inv) : SeqC P f caps X := by
  intro l J hJ hround γ w us ht hcaps h0
  obtain ⟨keep, Inv, hpre, hloop⟩ := hok (.func (.yield l) #[] #[])
  unfold chkIt at hc
  split at hc
  · rename_i fn hfn
    split at hc
    · rename_i c0 b0 ct b1 cm id ops c cp hbody
      simp only [Bool.and_eq_true, decide_eq_true_eq] at hc
      obtain ⟨⟨⟨⟨⟨⟨⟨⟨⟨⟨⟨⟨⟨⟨⟨⟨⟨⟨hN, hN0⟩, hres⟩, rfl⟩, rfl⟩, rfl⟩, hd⟩, hc0⟩, hct⟩, hcm⟩, hcp⟩, hops⟩, hall⟩, hy⟩, h2⟩, hp1⟩, hp2⟩, hp3⟩, hp4⟩ := hc
      refine callsIn_of_wp hfn hbody trivial ?_
      have hKF : Wide KF := fun _ _ _ _ _ h => h
      -- a stretch of plain code, from where things stand
      obtain ⟨St, hSt⟩ : ∃ St : Nat → Gh → World → Env → Act → Prop, St = fun k γ w ρ a => J k γ w ∧ EnvRel γ w ρ a.tmps ∧ a.tmps.size = it.N ∧ a.defers = [] := ⟨_, rfl⟩
      have sinv : ∀ {k γ w ρ a}, St k γ w ρ a → SInv γ w Heap.emp (Fx.plain it.N) γ w Heap.emp ρ a := fun {k γ w ρ a} h => by
        rw [hSt] at h
        obtain ⟨h1, h2, h3, h4⟩ := h
        exact ⟨.refl _ _ _, (fun b o hb => by cases hb), NewKeys.refl _ _, h2, h3, (fun n hn => absurd hn (Nat.not_lt_zero n)), (by rw [h4]; exact DfOk.init (F := Fx.plain it.N) rfl)⟩
      have back : ∀ {k γ w γ' w' H ρ' a'} , J k γ w → SInv γ w Heap.emp (Fx.plain it.N) γ' w' H ρ' a' → St k γ' w' ρ' a' := fun {k γ w γ' w' H ρ' a'} h h' => by
        rw [hSt]
        exact ⟨hJ _ _ _ _ _ h (h'.ext.weaken fun b hb => by simp [keysOf, Heap.emp] at hb), h'.env, h'.sz, h'.df.plain rfl⟩
      have keepSt : ∀ {k γ w ρ a}, St k γ w ρ a → St k γ w (ρ.keep keep) a := fun {k γ w ρ a} h => by
        rw [hSt] at h ⊢
        exact ⟨h.1, keep_rel h.2.1 keep, h.2.2⟩
      have hnp : ∀ ch γ w a' w', PanOk γ w Heap.emp (Fx.plain it.N) KF ch a' w' → False := fun ch γ w a' w' ⟨_, _, _, _, _, _, _, _, _, hf, _⟩ => hf
      have run : ∀ {ac : AC} {code : Code} {Q : AExit → Env → Heap → Prop} {k γ w ρ a}, ac.plain = true → chkCode P it.N 0 code ac = true → St k γ w ρ a → awp P KF ac Q ρ Heap.emp →
          code.wpIn Fence.wide 0 P (lift γ w Heap.emp (Fx.plain it.N) KF Q) a w := fun hpl hck hst hawp =>
        wpIn_wide.2 (code_sound (F := Fx.plain it.N) hKF _ _ _ (.inl hpl) hck _ _ _ _ _ (sinv hst) hawp)
      have hlen : us.length + 1 ≤ it.N := by rw [← hcaps.1]; exact hcl
      have hst0 : St 0 γ w (envOf (mkArgs 0 (.oth (.func (.yield l) #[] #[]) :: caps))) { tmps := (#[.func (.yield l) #[] #[]] ++ us.toArray) ++ Array.replicate (fn.ntmps - (#[Value.func (.yield l) #[] #[]] ++ us.toArray).size) undef, defers := [] } := by
        rw [hSt]
        refine ⟨h0, ?_, ?_, rfl⟩
        · have he : (#[Value.func (.yield l) #[] #[]] ++ us.toArray) = (Value.func (.yield l) #[] #[] :: us).toArray := by simp
          rw [he]
          exact entry_env ht (RepAll.cons (.oth _) hcaps) _
        · simp only [Array.size_append, Array.size_replicate, List.size_toArray, List.length_cons, List.length_nil]; omega
      refine wpIn_seq (wpIn_mono (run hp1 hc0 hst0 hpre) fun e a1 w1 he => ?_)
      cases e with
      | exit id => obtain ⟨_, _, _, _, h⟩ := he; exact h.elim
      | ret => obtain ⟨_, _, _, _, h⟩ := he; exact h.elim
      | goto l => exact he.elim
      | outgrown => exact he.elim
      | panic ch => exact (hnp _ _ _ _ _ he).elim
      | normal =>
        obtain ⟨γ1, H1, ρ1, hi1, rfl, hinv1⟩ := he
        refine wpIn_block (wpIn_loop_n (fun n a w => ∃ k γ ρ, St k γ w ρ a ∧ Inv k ρ ∧ k + n = X.length + 1 ∧ k ≤ X.length) (n := X.length + 1) ⟨0, γ1, ρ1.keep keep, keepSt (back h0 hi1), hinv1, by omega, by omega⟩ ?_)
        rintro n a w ⟨k, γ, ρ, hst, hinv, hkn, hkX⟩
        have hJk : J k γ w := by rw [hSt] at hst; exact hst.1
        refine wpIn_seq (wpIn_mono (run hp2 hct hst (hloop k ρ hinv)) fun e a2 w2 he => ?_)
        cases e with
        | ret => obtain ⟨_, _, _, _, h⟩ := he; exact h.elim
        | goto l => exact he.elim
        | outgrown => exact he.elim
        | panic ch => exact (hnp _ _ _ _ _ he).elim
        | exit i =>
          obtain ⟨γ2, H2, ρ2, hi2, rfl, rfl⟩ := he
          have h3 := back hJk hi2
          rw [hSt] at h3
          have hr : (results fn a2.tmps).run P w2 = .ok (.tuple #[]) w2 := by
            have : fn.results = #[] := by simpa using hres
            simp [results, this, Sem.run_bind]
          simp only [Exit.then, Exit.inBlock, if_true]
          exact ⟨h3.2.2.2, _, hr, γ2, _, rfl, h3.1⟩
        | normal =>
          obtain ⟨γ2, H2, ρ2, hi2, x, rfl, hx, hmid⟩ := he
          have hst2 := back hJk hi2
          have hJ2 : J k γ2 w2 := by rw [hSt] at hst2; exact hst2.1
          refine wpIn_seq (wpIn_block (wpIn_seq (wpIn_mono (run hp3 hcm hst2 hmid) fun e a3 w3 he => ?_)))
          cases e with
          | exit id => obtain ⟨_, _, _, _, h⟩ := he; exact h.elim
          | ret => obtain ⟨_, _, _, _, h⟩ := he; exact h.elim
          | goto l => exact he.elim
          | outgrown => exact he.elim
          | panic ch => exact (hnp _ _ _ _ _ he).elim
          | normal =>
            obtain ⟨γ3, H3, ρ3, hi3, rfl, hitems⟩ := he
            have hst3 := back hJ2 hi3
            have hJ3 : J k γ3 w3 := by rw [hSt] at hst3; exact hst3.1
            refine wpIn_seq (wpIn_region ?_)
            have hrange : List.range ops.size = List.range it.items.length ++ [it.items.length, it.items.length + 1] := by rw [hops, List.range_succ, List.range_succ, List.append_assoc]; rfl
            rw [hrange]
            refine wpOpsIn_append _ _ _ _ (wpOps_wide (fun a w h => by obtain ⟨_, _, h, _⟩ := h; cases h) _ _ _ ?_)
            refine items_sound (F := Fx.plain it.N) (KP := KF) (fun ch a w hp => (hnp _ _ _ _ _ hp).elim) (fun γ4 w4 H4 ρ4 a4 hi4 hK4 => ?_) (List.range it.items.length) (annot it.items) (by simp [annot]) (fun k i x hki hit => ?_) γ3 w3 Heap.emp ρ3 a3 (sinv hst3) hitems
            · obtain ⟨rfl, hg, hxx, hit2⟩ := hK4
              have hst4 := back hJ3 hi4
              have hJ4 : J k γ4 w4 := by rw [hSt] at hst4; exact hst4.1
              cases ho : ops[it.items.length]? with
              | none => simp [ho] at hy
              | some o =>
                simp only [ho] at hy
                obtain ⟨hdst, hguard, cl, hop, hcal, hargs⟩ := isYield_spec hy
                have hw : Region.wanted o (yielded ops a4.tmps) = true := by simp [Region.wanted, hguard]
                have hgv : a4.tmps.getD it.g undef = .func (.yield l) #[] #[] := by
                  have hr := hi4.env.rep it.g
                  rw [hg] at hr
                  generalize a4.tmps.getD it.g undef = v at hr
                  cases hr; rfl
                have hxr := hi4.env.rep it.x
                rw [hxx] at hxr
                obtain ⟨fn', tmps', asg, bd, hyr, hR⟩ := hround k [x] γ4 w4 [a4.tmps.getD it.x undef] hx hJ4 (RepAll.cons hxr RepAll.nil)
                dsimp only
                rw [wpOpsIn_cons]
                unfold wpOpIn
                simp only [ho, hw, if_true]
                refine ⟨fun _ _ => trivial, ?_⟩
                have hrun : (o.semAt Fence.wide.round a4.eval).run P w4 = .ok (.round l fn' tmps' asg bd) w4 := by
                  rw [show Fence.wide.round = none from rfl, Oper.semAt_none]
                  have hyr' : Sem.run P (Instr.yield l #[a4.tmps.getD it.x undef]) w4 = .ok (.round l fn' tmps' asg bd) w4 := hyr
                  have e1 : a4.eval (.tmp it.g) = .func (.yield l) #[] #[] := hgv
                  have e2 : a4.eval (.tmp it.x) = a4.tmps.getD it.x undef := rfl
                  simp only [execOp, hop, resolve, hcal, hargs, e1, e2, Deferred.ofValue, Sem.run_bind, Sem.run_pure, Result.andThen_ok, invoke]
                  simpa [e2] using hyr'
                rw [hrun]
                refine ⟨fun h => by simp [Fence.wide] at h, RoundIn.mono hR fun e w5 ⟨γ5, hm, he, hJ5⟩ => ?_⟩
                subst he
                have hst5 : St (k + 1) γ5 w5 (ρ4.set (some it.d) (.bool true)) (a4.put (some it.d) (.bool true)) := by
                  rw [hSt] at hst4 ⊢
                  obtain ⟨_, h2, h3, h4⟩ := hst4
                  exact ⟨hJ5, env_set (h2.mono hm) h3 (fun y hy => by cases hy; exact hd) (.bool true) a4 rfl, by rw [put_size]; exact h3, by rw [put_defers]; exact h4⟩
                rw [hdst]
                show wpOpsIn _ _ _ _ _ [it.items.length + 1] _ _
                refine wpOps_wide (fun a w h => by obtain ⟨_, _, h, _⟩ := h; cases h) _ _ _ ?_
                refine items_sound (F := Fx.plain it.N) (KP := KF) (fun ch a w hp => (hnp _ _ _ _ _ hp).elim) (fun γ6 w6 H6 ρ6 a6 hi6 hK6 => ?_) [it.items.length + 1] (annot [it.it2]) rfl (fun k i x hki hit => ?_) γ5 w5 Heap.emp _ _ (sinv hst5) hit2
                · obtain ⟨rfl, hc6, hpost⟩ := hK6
                  have hst6 := back hJ5 hi6
                  have hJ6 : J (k + 1) γ6 w6 := by rw [hSt] at hst6; exact hst6.1
                  have hcv : a6.eval (.tmp it.c) = .bool false := by
                    have hr := hi6.env.rep it.c
                    rw [hc6] at hr
                    show a6.tmps.getD it.c undef = _
                    generalize a6.tmps.getD it.c undef = v at hr
                    cases hr; rfl
                  refine wpIn_cond_false hcv (wpIn_skip ?_)
                  refine wpIn_mono (run hp4 hcp hst6 hpost) fun e a7 w7 he => ?_
                  cases e with
                  | exit id => obtain ⟨_, _, _, _, h⟩ := he; exact h.elim
                  | ret => obtain ⟨_, _, _, _, h⟩ := he; exact h.elim
                  | goto l => exact he.elim
                  | outgrown => exact he.elim
                  | panic ch => exact (hnp _ _ _ _ _ he).elim
                  | normal =>
                    obtain ⟨γ7, H7, ρ7, hi7, rfl, hinv7⟩ := he
                    have hkl : k < X.length := (List.getElem?_eq_some_iff.1 hx).1
                    exact ⟨n - 1, by omega, k + 1, γ7, ρ7.keep keep, keepSt (back hJ6 hi7), hinv7, by omega, by omega⟩
                · cases k with
                  | zero =>
                    simp only [List.getElem?_cons_zero, Option.some.injEq, annot, List.map_cons, List.map_nil] at hki hit
                    subst hki; subst hit
                    cases ho2 : ops[it.items.length + 1]? with
                    | none => simp [ho2] at h2
                    | some o2 => simp only [ho2] at h2; exact ⟨o2, rfl, h2⟩
                  | succ k => simp at hki
            · have hk : k < it.items.length ∧ i = k := by
                rw [List.getElem?_eq_some_iff] at hki
                obtain ⟨h1, h2⟩ := hki
                simp at h1 h2
                exact ⟨h1, h2.symm⟩
              obtain ⟨hk, rfl⟩ := hk
              simp only [annot, List.getElem?_map, Option.map_eq_some_iff] at hit
              obtain ⟨x, hx, rfl⟩ := hit
              have hko : i < ops.size := by omega
              refine ⟨ops[i], Array.getElem?_eq_getElem hko, ?_⟩
              have hz : (ops.toList.zip it.items)[i]? = some (ops[i], x) := by
                rw [List.getElem?_zip_eq_some]
                exact ⟨by rw [Array.getElem?_toList]; exact Array.getElem?_eq_getElem hko, hx⟩
              exact List.all_eq_true.1 hall _ (List.mem_of_getElem? hz)
    · cases hc
  · cases hc

theorem ItOk.of {P : Program} {it : AIt} {caps : List AV} {X : List (List AV)} {y : Value} {keep : List Nat} {Inv : Nat → Env → Prop} (h1 : ∀ x ∈ X, ∃ c, x = [c]) (hk : ∀ k ρ, Inv k ρ → k ≤ X.length)
    (hpre : ∀ Q, (∀ ρ, Inv 0 (ρ.keep keep) → Q .normal ρ Heap.emp) → goC P KF Q it.pre [] (envOf (mkArgs 0 (.oth y :: caps))) Heap.emp)
    (hlast : ∀ ρ Q, Inv X.length ρ → (∀ ρ', Q (.exit it.b0) ρ' Heap.emp) → goC P KF Q it.test [] ρ Heap.emp)
    (hround : ∀ k x ρ Q Q1 Q2 Q3 Q4, X[k]? = some [x] → Inv k ρ → (∀ ρ', goC P KF Q1 it.mid [] ρ' Heap.emp → Q .normal ρ' Heap.emp) → (∀ ρ', goI P KF Q2 it.items it.items [] ρ' Heap.emp → Q1 .normal ρ' Heap.emp) →
      (∀ ρ', ρ' it.g = .oth y → ρ' it.x = x → goI P KF Q3 [it.it2] [it.it2] [] (ρ'.set (some it.d) (.bool true)) Heap.emp → Q2 .normal ρ' Heap.emp) → (∀ ρ', ρ' it.c = .bool false → goC P KF Q4 it.post [] ρ' Heap.emp → Q3 .normal ρ' Heap.emp) →
      (∀ ρ', Inv (k + 1) (ρ'.keep keep) → Q4 .normal ρ' Heap.emp) → goC P KF Q it.test [] ρ Heap.emp) : ItOk P it caps X y keep Inv := by
  refine ⟨hpre _ fun ρ h => ⟨rfl, h⟩, fun k ρ h => ?_⟩
  rcases Nat.lt_or_ge k X.length with hlt | hge
  · obtain ⟨x, hx⟩ := h1 X[k] (List.getElem_mem hlt)
    have hxk : X[k]? = some [x] := by rw [List.getElem?_eq_getElem hlt, hx]
    let Q4 : AExit → Env → Heap → Prop := onlyN fun ρ H => H = Heap.emp ∧ Inv (k + 1) (ρ.keep keep)
    let Q3 : AExit → Env → Heap → Prop := onlyN fun ρ H => H = Heap.emp ∧ ρ it.c = .bool false ∧ awp P KF it.post Q4 ρ H
    let Q2 : AExit → Env → Heap → Prop := onlyN fun ρ H => H = Heap.emp ∧ ρ it.g = .oth y ∧ ρ it.x = x ∧ awpItems P KF (annot [it.it2]) (ρ.set (some it.d) (.bool true)) Heap.emp fun ρ H => Q3 .normal ρ H
    let Q1 : AExit → Env → Heap → Prop := onlyN fun ρ H => H = Heap.emp ∧ awpItems P KF (annot it.items) ρ H fun ρ H => Q2 .normal ρ H
    exact hround k x ρ _ Q1 Q2 Q3 Q4 hxk h (fun ρ' h' => ⟨x, rfl, hxk, h'⟩) (fun ρ' h' => ⟨rfl, h'⟩) (fun ρ' hg hx h' => ⟨rfl, hg, hx, h'⟩) (fun ρ' hc h' => ⟨rfl, hc, h'⟩) fun ρ' h' => ⟨rfl, h'⟩
  · have hkl : k = X.length := Nat.le_antisymm (hk k ρ h) hge
    subst hkl
    exact hlast ρ _ h fun ρ' => ⟨rfl, rfl⟩

/-- A loop over a function. -/
theorem goC_rfun {P : Program} {KP : AV → Heap → Prop} {Q : AExit → Env → Heap → Prop} {st : List Fr} {ρ : Env} {H : Heap} {g : Opd} {ps : List Nat} {asg body : AC} {f : FuncId} {caps : List AV} {X : List (List AV)} (hs : SeqC P f caps X) (hg : g.ev ρ = .clo f [] caps) (hc : Program.callable P f = true)
    (hl : ∀ x ∈ X, x.length = ps.length) (I : Nat → Heap → Prop) (h0 : I 0 H) (hr : ∀ k x H' Q2, X[k]? = some x → I k H' → (∀ ρ' H'', I (k + 1) H'' → Q2 .normal ρ' H'') → goC P KF Q2 (.seq asg body) [] (setPs ps x ρ) H')
    (hend : ∀ H', I X.length H' → goD P KP Q st ρ H') : goC P KP Q (.rfun g ps asg body) st ρ H := by
  refine ⟨f, caps, X, hg, hc, hs, hl, I, h0, fun k x H' hx hI => ?_, hend⟩
  have := hr k x H' (onlyN fun _ H'' => I (k + 1) H'') hx hI (fun _ _ h => h)
  have e : (thenQ (awp P KF body (onlyN fun _ H'' => I (k + 1) H'')) (onlyN fun _ H'' => I (k + 1) H'')) = onlyN fun ρ' H' => awp P KF body (onlyN fun _ H'' => I (k + 1) H'') ρ' H' := by
    funext e; cases e <;> rfl
  show awp P KF asg (onlyN fun ρ' H' => awp P KF body (onlyN fun _ H'' => I (k + 1) H'') ρ' H') _ H'
  rw [← e]
  exact this

end Go.Ab
