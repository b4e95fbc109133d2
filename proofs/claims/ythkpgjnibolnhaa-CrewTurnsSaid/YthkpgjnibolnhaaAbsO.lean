/- Loops over lists: what turns from round to round is data; the rest of the slots stays. -/
import Derived.Test.YthkpgjnibolnhaaAbsN
set_option linter.unusedSimpArgs false
set_option linter.unusedVariables false
namespace Go.Ab

def setAll (ρ : Env) : List (Nat × AV) → Env
  | [] => ρ
  | (d, v) :: r => (setAll ρ r).set (some d) v
theorem setAll_nil (ρ : Env) : setAll ρ [] = ρ := rfl
theorem setAll_cons (ρ : Env) (d : Nat) (v : AV) (r : List (Nat × AV)) : setAll ρ ((d, v) :: r) = (setAll ρ r).set (some d) v := rfl

section
variable {P : Program} {KP : AV → Heap → Prop} {Q : AExit → Env → Heap → Prop} {st : List Fr} {ρ : Env} {H : Heap} {keep : List Nat} {b : AC}

theorem goJ {J : Env → Heap → Prop} {a b : Env} {H : Heap} (h : J a H) (e : b = a) : J b H := e ▸ h

/-- A loop with a state. -/
theorem goL_st {σ : Type} (m : σ → List (Nat × AV)) (I : σ → Heap → Prop) (meas : σ → Nat) (s0 : σ) (hm : ρ.keep keep = (setAll ρ (m s0)).keep keep) (h0 : I s0 H)
    (hr : ∀ s H' J, I s H' → (∀ s' H'', meas s' < meas s → I s' H'' → J ((setAll ρ (m s')).keep keep) H'') → goC P KP Q b (.rep keep J :: st) ((setAll ρ (m s)).keep keep) H') : goL P KP Q keep b st ρ H := by
  refine goL_rule (fun n ρ' H' => ∃ s, n = meas s ∧ ρ' = (setAll ρ (m s)).keep keep ∧ I s H') (meas s0) ⟨s0, rfl, hm, h0⟩ ?_
  rintro n ρ' H' J ⟨s, rfl, rfl, hs⟩ hJ
  exact hr s H' J hs fun s' H'' h1 h2 => hJ _ _ _ h1 ⟨s', rfl, rfl, h2⟩

/-- A meeting point: what stands at it, whichever way was taken. -/
theorem goU_cut {σ : Type} {keep : List Nat} {a b : AC} (m : σ → List (Nat × AV)) (I : σ → Heap → Prop)
    (ha : ∀ J, (∀ s H', I s H' → J ((setAll ρ (m s)).keep keep) H') → goC P KP Q a (.rep keep J :: st) ρ H)
    (hb : ∀ s H', I s H' → goC P KP Q b st ((setAll ρ (m s)).keep keep) H') : goU P KP Q keep a b st ρ H :=
  ⟨fun ρ' H' => ∃ s, ρ' = (setAll ρ (m s)).keep keep ∧ I s H', ha (fun ρ' H' => ∃ s, ρ' = (setAll ρ (m s)).keep keep ∧ I s H') fun s H' h => ⟨s, rfl, h⟩, fun ρ' H' h => by
    obtain ⟨s, e, h⟩ := h
    rw [e]; exact hb s H' h⟩

/-- A loop over a list, by a counter from 0 on. -/
theorem goL_range {α σ : Type} (l : List α) (ci : Nat) (m : σ → List (Nat × AV)) (I : List α → List α → σ → Heap → Prop) (s0 : σ) (hm : ρ.keep keep = (setAll ρ ((ci, .int .i64 0) :: m s0)).keep keep) (h0 : I [] l s0 H)
    (hend : ∀ s H' J, I l [] s H' → ¬ ((l.length : Int) < l.length) → goC P KP Q b (.rep keep J :: st) ((setAll ρ ((ci, .int .i64 l.length) :: m s)).keep keep) H')
    (hr : ∀ done x rest s H' J, l = done ++ x :: rest → (done.length : Int) < l.length → done.length < l.length → I done (x :: rest) s H' →
      (∀ s' H'', I (done ++ [x]) rest s' H'' → J ((setAll ρ ((ci, .int .i64 ((done.length : Int) + 1)) :: m s')).keep keep) H'') → goC P KP Q b (.rep keep J :: st) ((setAll ρ ((ci, .int .i64 done.length) :: m s)).keep keep) H') : goL P KP Q keep b st ρ H := by
  refine goL_st (σ := List α × List α × σ) (fun s => (ci, .int .i64 s.1.length) :: m s.2.2) (fun s H' => l = s.1 ++ s.2.1 ∧ I s.1 s.2.1 s.2.2 H') (fun s => s.2.1.length) ([], l, s0) (by simpa using hm) ⟨rfl, h0⟩ ?_
  rintro ⟨done, rest, s⟩ H' J ⟨hl, hi⟩ hJ
  cases rest with
  | nil =>
    simp only [List.append_nil] at hl
    subst hl
    exact hend s H' J hi (by omega)
  | cons x rest =>
    have h1 : done.length < l.length := by rw [hl]; simp
    refine hr done x rest s H' J hl (by omega) h1 hi fun s' H'' hi' => ?_
    have := hJ (done ++ [x], rest, s') H'' (by simp) ⟨by simp [hl], hi'⟩
    simpa using this

end

section
variable {P : Program} {KP : AV → Heap → Prop} {Q : AExit → Env → Heap → Prop} {st : List Fr} {ρ : Env} {H : Heap} {all l : List AItem} {d : Option Nat} {R : List Chk}

/-- behind a call of a function value -/
def goW (P : Program) (KP : AV → Heap → Prop) (Q : AExit → Env → Heap → Prop) (all l : List AItem) (st : List Fr) (d : Option Nat) (R : List Chk) (ρ : Env) (v : AV) (args : List AV) (H : Heap) : Prop :=
  match v with
  | .clo f first caps => Program.callable P f = true ∧ goK P KP Q all l st d R ρ f (first ++ args ++ caps) H
  | _ => False
theorem o_callv (g : Opd) (args : List Opd) : goO P KP Q all l st d (.callv g args) R ρ H = goW P KP Q all l st d R ρ (g.ev ρ) (args.map (Opd.ev ρ)) H := by
  simp only [goO, aop, AOp.cls, eff, goW, goK]
  cases g.ev ρ <;> rfl
theorem goW_clo (f : FuncId) (first caps args : List AV) : goW P KP Q all l st d R ρ (.clo f first caps) args H = (Program.callable P f = true ∧ goK P KP Q all l st d R ρ f (first ++ args ++ caps) H) := rfl

/-- behind an append of a string -/
def goX (P : Program) (KP : AV → Heap → Prop) (Q : AExit → Env → Heap → Prop) (all l : List AItem) (st : List Fr) (d : Option Nat) (R : List Chk) (ρ : Env) (x y : AV) (H : Heap) : Prop :=
  match y with
  | .str s => goP P KP Q all l st d R ρ 1 1 x (.sl .no 1 (bytesOf s)) H
  | _ => False
theorem o_apps (x y : Opd) : goO P KP Q all l st d (.apps x y) R ρ H = goX P KP Q all l st d R ρ (x.ev ρ) (y.ev ρ) H := by
  simp only [goO, aop, AOp.cls, eff, goX, goP]
  cases y.ev ρ <;> rfl
theorem goX_str (x : AV) (s : List UInt8) : goX P KP Q all l st d R ρ x (.str s) H = goP P KP Q all l st d R ρ 1 1 x (.sl .no 1 (bytesOf s)) H := rfl

/-- a panic -/
def goN (KP : AV → Heap → Prop) (v : AV) (H : Heap) : Prop :=
  match v with
  | .ifc t y => KP (.ifc t y) H
  | _ => False
theorem o_pan (x : Opd) : goO P KP Q all l st d (.pan x) R ρ H = goN KP (x.ev ρ) H := by
  simp only [goO, aop, AOp.cls, eff, goN]
  cases x.ev ρ <;> rfl
theorem goN_ifc (t : TypeId) (y : AV) : goN KP (.ifc t y) H = KP (.ifc t y) H := rfl

/-- behind a map's store -/
def goM (P : Program) (KP : AV → Heap → Prop) (Q : AExit → Env → Heap → Prop) (all l : List AItem) (st : List Fr) (d : Option Nat) (R : List Chk) (ρ : Env) (kt : KT) (b : Nat) (k v : AV) (H : Heap) (o : Option AObj) : Prop :=
  match o with
  | some (.map kt' es) => kt' = kt ∧ kt.fits k = true ∧ goR P KP Q all l st R (ρ.set d (.tup [])) (H.upd b (.map kt (mset es k v)))
  | _ => False
def goM0 (P : Program) (KP : AV → Heap → Prop) (Q : AExit → Env → Heap → Prop) (all l : List AItem) (st : List Fr) (d : Option Nat) (R : List Chk) (ρ : Env) (kt : KT) (m k v : AV) (H : Heap) : Prop :=
  match m with
  | .mp b => goM P KP Q all l st d R ρ kt b k v H (H b)
  | _ => False
theorem o_mup (kt : KT) (m k v : Opd) : goO P KP Q all l st d (.mup kt m k v) R ρ H = goM0 P KP Q all l st d R ρ kt (m.ev ρ) (k.ev ρ) (v.ev ρ) H := by
  simp only [goO, aop, AOp.cls, eff, goM0, goM]
  cases m.ev ρ <;> rfl
theorem goM0_mp (kt : KT) (b : Nat) (k v : AV) : goM0 P KP Q all l st d R ρ kt (.mp b) k v H = goM P KP Q all l st d R ρ kt b k v H (H b) := rfl
theorem goM_map (kt kt' : KT) (b : Nat) (es : List (AV × AV)) (k v : AV) : goM P KP Q all l st d R ρ kt b k v H (some (.map kt' es)) = (kt' = kt ∧ kt.fits k = true ∧ goR P KP Q all l st R (ρ.set d (.tup [])) (H.upd b (.map kt (mset es k v)))) := rfl

/-- A contract, stepping: how it ends is shut away; what is handed back stays one's own; a panic may leave. -/
theorem ACalls.goO {P : Program} {f : FuncId} (af : AFn) (hc : chkFn P f af = true) {args : List AV} {H : Heap} {R RP : AV → Heap → Prop} (hnp : args.length ≤ af.np)
    (h : ∀ KP Q, (∀ e ρ H1 H2 vs, (∀ i, e ≠ .exit i) → resvs ρ H1 af.res = some vs → Low H2 H1 → R (tupOf vs) H2 → Q e ρ H1) → (∀ v H1 H2, Low H2 H1 → RP v H2 → KP v H1) → goC P KP Q af.body [] (envOf (mkArgs 0 args)) H) :
    ACalls P f args H (fun e H' => match e with | .ret v => R v H' | .pan v => RP v H') := by
  refine ACalls.of_fn (Q := fun e H' => match e with | .ret v => R v H' | .pan v => RP v H') af hc hnp (h _ _ (fun e ρ H1 H2 vs he hv hs hr => ?_) fun v H1 H2 hl hr => ⟨H2, hl, hr⟩)
  cases e with
  | exit i => exact absurd rfl (he i)
  | normal => simp only [finQ, hv]; exact ⟨H2, hs, hr⟩
  | ret => simp only [finQ, hv]; exact ⟨H2, hs, hr⟩

/-- A call that may return or panic. -/
theorem goK_both {f : FuncId} {args : List AV} {X XP : AV → Heap → Prop} (h : ACalls P f args H (fun e H' => match e with | .ret v => X v H' | .pan v => XP v H')) (hk : ∀ v H', X v H' → goR P KP Q all l st R (ρ.set d v) H') (hp : ∀ v H', XP v H' → KP v H') :
    goK P KP Q all l st d R ρ f args H :=
  h.mono fun e H' hx => by cases e with | ret v => exact hk v H' hx | pan v => exact hp v H' hx

end

/-- One's own slice behind a step: what was there stays but for its own block. -/
structure OwnS (H : Heap) (o : Own) (H' : Heap) (o' : Own) (n sz : Nat) : Prop where
  own : Owned H' o' n sz
  kept : Kept H o H'
  new : NewTip H o o'

theorem OwnS.refl {H : Heap} {o : Own} {n sz : Nat} (h : Owned H o n sz) : OwnS H o H o n sz := ⟨h, fun b x hb _ => hb, fun b d e => .inr ⟨d, e⟩⟩
theorem OwnS.trans {H H1 H2 : Heap} {o o1 o2 : Own} {n n2 sz : Nat} (h : OwnS H o H1 o1 n sz) (h' : OwnS H1 o1 H2 o2 n2 sz) : OwnS H o H2 o2 n2 sz := by
  refine ⟨h'.own, fun b x hb hn => h'.kept b x (h.kept b x hb hn) fun d e => ?_, fun b d e => ?_⟩
  · rcases h.new b d e with h1 | ⟨d0, h1⟩
    · rw [hb] at h1; cases h1
    · exact hn d0 h1
  · rcases h'.new b d e with h1 | ⟨d0, h1⟩
    · cases hb : H b with
      | none => exact .inl rfl
      | some x =>
        by_cases hx : ∃ d, o = .tip b d
        · exact .inr hx
        · have := h.kept b x hb (fun d e => hx ⟨d, e⟩); rw [h1] at this; cases this
    · exact h.new b d0 h1
/-- A new object beside it. -/
theorem OwnS.upd {H H1 : Heap} {o o1 : Own} {n sz b : Nat} {x : AObj} (h : OwnS H o H1 o1 n sz) (hb : H1 b = none) : OwnS H o (H1.upd b x) o1 n sz := by
  refine ⟨h.own.upd hb, fun c y hc hn => ?_, h.new⟩
  have := h.kept c y hc hn
  have hne : c ≠ b := fun e => by subst e; rw [hb] at this; cases this
  simp only [Heap.upd, hne, if_false]; exact this
theorem OwnF.stepS {H0 H H' : Heap} {o o' : Own} {n n' sz : Nat} (h : OwnF H0 H o n sz) (h' : OwnS H o H' o' n' sz) : OwnF H0 H' o' n' sz := h.step h'.own h'.kept h'.new
theorem OwnS.of_own {H H' : Heap} {o o' : Own} {n sz : Nat} (h1 : Owned H' o' n sz) (h2 : Kept H o H') (h3 : NewTip H o o') : OwnS H o H' o' n sz := ⟨h1, h2, h3⟩

/-- An append, with what it leaves as one fact. -/
theorem goP_ownS {P : Program} {KP : AV → Heap → Prop} {Q : AExit → Env → Heap → Prop} {st : List Fr} {ρ : Env} {H : Heap} {all l : List AItem} {d : Option Nat} {R : List Chk} {sz bytes : Nat} {o o2 : Own} {xs ys : List (List AV)}
    (how : Owned H o xs.length sz) (h1 : (xs.length + ys.length) * bytes ≤ 140737488355328) (h2 : xs.length + ys.length ≤ maxLen)
    (hk : ∀ o' H', OwnS H o H' o' (xs.length + ys.length) sz → goR P KP Q all l st R (ρ.set d (.sl o' sz (xs ++ ys.map (·.map AV.strip1)))) H') :
    goP P KP Q all l st d R ρ sz bytes (.sl o sz xs) (.sl o2 sz ys) H := goP_own how h1 h2 fun o' H' a b c => hk o' H' ⟨a, b, c⟩

theorem getD_mid {α : Type} (f : α → List AV) (a : List α) (x : α) (b : List α) : (List.map f (a ++ x :: b)).getD a.length [] = f x := by simp
theorem getD_mid' {α : Type} {f : α → List AV} {l a : List α} {x : α} {b : List α} (h : l = a ++ x :: b) : (List.map f l).getD a.length [] = f x := by subst h; simp

/-- A contract of a function that touches nothing, over every memory. -/
theorem Pure.of_calls {P : Program} {f : FuncId} {args : List AV} {r : AV} (h : ∀ (γ : Gh) (w : World) (vs : List Value), TabOk γ w → RepAll γ w args vs → Calls P f vs.toArray w fun e w' => w' = w ∧ ∃ v, e = .returned v ∧ Rep γ w r v) : Pure P f args r := by
  intro γ w vs ht _ hv
  refine (h γ w vs ht hv).mono fun e w' ⟨hw, v, he, hr⟩ => ?_
  subst hw; subst he
  exact ⟨γ, Heap.emp, .ret r, .refl _ _ _, fun b o hb => by simp [Heap.emp] at hb, fun b hb => by simp [Heap.emp] at hb, hr, rfl, rfl⟩

end Go.Ab
