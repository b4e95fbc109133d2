/- Statements and code: what is shown of the abstract code holds of the program's. -/
import Derived.Test.YthkpgjnibolnhaaAbsI
set_option linter.unusedSimpArgs false
set_option linter.unusedVariables false
namespace Go.Ab

/-- What stays within a stretch of a body: how many slots there are, the slots that are not written, the deferred calls. -/
structure Fx where
  N : Nat
  lo : Nat
  T : Array Value
  D : List Deferred
  rf : Bool := false
  keep : List (Nat × Obj) := []
  base : Nat := 0

def Fx.plain (N : Nat) : Fx := ⟨N, 0, #[], [], false, [], 0⟩
def Fx.marks (N base : Nat) : Fx := ⟨N, 0, #[], [], true, [], base⟩

/-- The mark that a loop over a function leaves among the deferred calls. -/
def coll (b : Nat) : Deferred := ⟨.collected b, #[]⟩

/-- The deferred calls, behind marks whose blocks lie as they were laid; and blocks that are kept. -/
structure DfOk (F : Fx) (w : World) (H : Heap) (ds : List Deferred) : Prop where
  eq : ∃ bs : List Nat, ds = bs.map coll ++ F.D ∧ bs.Nodup ∧ (F.rf = false → bs = []) ∧ ∀ b ∈ bs, F.base ≤ b ∧ H b = none ∧ w.heap[b]? = some (.deferred (some []))
  keep : ∀ x ∈ F.keep, H x.1 = none ∧ w.heap[x.1]? = some x.2

theorem kept_step {γ γ' : Gh} {w w' : World} {H H' : Heap} (hext : Ext (keysOf H) γ w γ' w') (hk : NewKeys H w H') {b : Nat} {o : Obj} (h : H b = none ∧ w.heap[b]? = some o) : H' b = none ∧ w'.heap[b]? = some o := by
  have hlt := (Array.getElem?_eq_some_iff.1 h.2).1
  refine ⟨?_, (hext.frame b hlt (by simp [keysOf, h.1])).2.trans h.2⟩
  cases hb : H' b with
  | none => rfl
  | some x =>
    rcases hk b (by simp [hb]) with h1 | h1
    · simp [h.1] at h1
    · omega

theorem DfOk.step {F : Fx} {γ γ' : Gh} {w w' : World} {H H' : Heap} {ds : List Deferred} (h : DfOk F w H ds) (hext : Ext (keysOf H) γ w γ' w') (hk : NewKeys H w H') : DfOk F w' H' ds :=
  ⟨let ⟨bs, h1, h2, h3, h4⟩ := h.eq; ⟨bs, h1, h2, h3, fun b hb => ⟨(h4 b hb).1, kept_step hext hk (h4 b hb).2⟩⟩, fun x hx => kept_step hext hk (h.keep x hx)⟩

theorem DfOk.plain {F : Fx} {w : World} {H : Heap} {ds : List Deferred} (h : DfOk F w H ds) (hf : F.rf = false) : ds = F.D := by
  obtain ⟨bs, h1, _, h3, _⟩ := h.eq
  rw [h1, h3 hf]; rfl

theorem DfOk.init {F : Fx} {w : World} {H : Heap} (hk : F.keep = []) : DfOk F w H F.D :=
  ⟨⟨[], rfl, List.nodup_nil, fun _ => rfl, fun b hb => by cases hb⟩, fun x hx => by rw [hk] at hx; cases hx⟩

/-- How things stand within a call that began in (γ0, w0) over H0. -/
structure SInv (γ0 : Gh) (w0 : World) (H0 : Heap) (F : Fx) (γ : Gh) (w : World) (H : Heap) (ρ : Env) (a : Act) : Prop where
  ext : Ext (keysOf H0) γ0 w0 γ w
  st : StateRel γ w H
  keys : NewKeys H0 w0 H
  env : EnvRel γ w ρ a.tmps
  sz : a.tmps.size = F.N
  fx : ∀ n, n < F.lo → a.tmps.getD n undef = F.T.getD n undef
  df : DfOk F w H a.defers

def chkItem (N lo : Nat) (ops : Array Oper) (P : Program) (o : Oper) (it : AItem) : Bool :=
  decide (o.dst = it.dst) && (match it.dst with | some d => decide (lo ≤ d) && decide (d < N) | none => true) &&
  (match o.guard, it.guard with
   | none, none => true
   | some (j, want), some (s, want') => decide (want = want') && decide ((ops[j]?).bind (·.dst) = some s)
   | _, _ => false) && chkOp P o it.op

theorem gv_wanted {γ : Gh} {w : World} {ρ : Env} {a : Act} {ops : Array Oper} {o : Oper} {it : AItem} (he : EnvRel γ w ρ a.tmps)
    (hg : (match o.guard, it.guard with
      | none, none => true
      | some (j, want), some (s, want') => decide (want = want') && decide ((ops[j]?).bind (·.dst) = some s)
      | _, _ => false) = true) {b : Bool} (h : gv it.guard ρ = some b) : Region.wanted o (yielded ops a.tmps) = b := by
  cases hog : o.guard with
  | none =>
    cases hig : it.guard with
    | some p => simp [hog, hig] at hg
    | none => rw [hig] at h; simp only [gv, Option.some.injEq] at h; subst h; simp [Region.wanted, hog]
  | some jw =>
    obtain ⟨j, want⟩ := jw
    cases hig : it.guard with
    | none => simp [hog, hig] at hg
    | some p =>
      obtain ⟨s, want'⟩ := p
      simp only [hog, hig, Bool.and_eq_true, decide_eq_true_eq] at hg
      obtain ⟨rfl, hd⟩ := hg
      rw [hig] at h
      simp only [gv] at h
      have hr := he.rep s
      have hy : ∀ v, a.tmps.getD s undef = v → v ≠ undef → a.tmps[s]? = some v := by
        intro v hv hne
        cases hs : a.tmps[s]? with
        | none => simp [Array.getD_eq_getD_getElem?, hs] at hv; exact absurd hv.symm hne
        | some u => simp [Array.getD_eq_getD_getElem?, hs] at hv; rw [hv]
      cases hρ : ρ s <;> simp only [hρ] at h hr <;> try (cases h; done)
      · rename_i b'
        simp only [Option.some.injEq] at h
        subst h
        generalize hv : a.tmps.getD s undef = v at hr
        cases hr
        have := hy _ hv (by simp [undef])
        simp [Region.wanted, hog, yielded, hd, this]
      · rename_i vs
        cases vs with
        | cons c r => simp at h
        | nil =>
          simp only [Option.some.injEq] at h
          subst h
          generalize hv : a.tmps.getD s undef = v at hr
          cases hr with
          | tup _ us hl _ =>
            cases us with
            | cons u r => simp at hl
            | nil =>
              have : yielded ops a.tmps j = none := by
                unfold yielded
                rw [hd]
                simp only [Option.bind_some]
                cases hs : a.tmps[s]? with
                | none => rfl
                | some u => simp [Array.getD_eq_getD_getElem?, hs] at hv; rw [hv]
              simp [Region.wanted, hog, this]

theorem env_set {γ : Gh} {w : World} {ρ : Env} {tmps : Array Value} {N : Nat} (he : EnvRel γ w ρ tmps) (hs : tmps.size = N) {d : Option Nat} (hd : ∀ x, d = some x → x < N) {c : AV} {v : Value} (hr : Rep γ w c v) (a : Act) (ha : a.tmps = tmps) :
    EnvRel γ w (ρ.set d c) (a.put d v).tmps := by
  cases d with
  | none => subst ha; exact he
  | some x =>
    subst ha
    refine ⟨he.tab, fun n => ?_⟩
    simp only [Env.set, Act.put]
    have hx := hd x rfl
    by_cases hn : n = x
    · subst hn
      simp only [if_true]
      have : (a.tmps.setIfInBounds n v).getD n undef = v := by
        simp [Array.getD_eq_getD_getElem?, hs, hx]
      rw [this]; exact hr
    · simp only [hn, if_false]
      have : (a.tmps.setIfInBounds x v).getD n undef = a.tmps.getD n undef := by
        simp only [Array.getD_eq_getD_getElem?, Array.getElem?_setIfInBounds_ne (Ne.symm hn)]
      rw [this]; exact he.rep n

theorem put_size (a : Act) (d : Option Nat) (v : Value) : (a.put d v).tmps.size = a.tmps.size := by cases d <;> simp [Act.put]
theorem put_fx {F : Fx} {a : Act} (h : ∀ n, n < F.lo → a.tmps.getD n undef = F.T.getD n undef) {d : Option Nat} (hd : ∀ x, d = some x → F.lo ≤ x ∧ x < F.N) (v : Value) : ∀ n, n < F.lo → (a.put d v).tmps.getD n undef = F.T.getD n undef := by
  intro n hn
  cases d with
  | none => exact h n hn
  | some x =>
    have hx := (hd x rfl).1
    have : (a.tmps.setIfInBounds x v).getD n undef = a.tmps.getD n undef := by
      simp only [Array.getD_eq_getD_getElem?, Array.getElem?_setIfInBounds_ne (show x ≠ n by omega)]
    simp only [Act.put]
    rw [this]; exact h n hn

theorem put_defers (a : Act) (d : Option Nat) (v : Value) : (a.put d v).defers = a.defers := by cases d <;> rfl

theorem newKeys_trans {H0 H H' : Heap} {w0 w : World} (h : NewKeys H0 w0 H) (hs : w0.heap.size ≤ w.heap.size) (h' : NewKeys H w H') : NewKeys H0 w0 H' := fun b hb => by
  rcases h' b hb with h1 | h1
  · exact h b h1
  · exact .inr (by omega)

theorem SInv.step {γ0 : Gh} {w0 : World} {H0 : Heap} {F : Fx} {γ γ' : Gh} {w w' : World} {H H' : Heap} {ρ : Env} {a : Act} (h : SInv γ0 w0 H0 F γ w H ρ a) (hext : Ext (keysOf H) γ w γ' w') (hst : StateRel γ' w' H') (hk : NewKeys H w H')
    {d : Option Nat} (hd : ∀ x, d = some x → F.lo ≤ x ∧ x < F.N) {c : AV} {v : Value} (hr : Rep γ' w' c v) : SInv γ0 w0 H0 F γ' w' H' (ρ.set d c) (a.put d v) :=
  ⟨h.ext.trans hext (fun b hb hb' => by
      rcases h.keys b hb' with h1 | h1
      · exact h1
      · omega), hst, newKeys_trans h.keys h.ext.mono.size hk, env_set (h.env.mono hext.mono) h.sz (fun x hx => (hd x hx).2) hr a rfl, by rw [put_size]; exact h.sz, put_fx h.fx hd v, by rw [put_defers]; exact h.df.step hext hk⟩

/-- The panic that leaves: as the contract's end has it. -/
def PanOk (γ0 : Gh) (w0 : World) (H0 : Heap) (F : Fx) (KP : AV → Heap → Prop) (ch : List PanicEntry) (a : Act) (w : World) : Prop :=
  ∃ γ H c v, ch = [{ v, recovered := false }] ∧ Ext (keysOf H0) γ0 w0 γ w ∧ StateRel γ w H ∧ NewKeys H0 w0 H ∧ Rep γ w c v ∧ KP c H ∧ TabOk γ w ∧ a.tmps.size = F.N ∧ (∀ n, n < F.lo → a.tmps.getD n undef = F.T.getD n undef) ∧ DfOk F w H a.defers

theorem item_sound {P : Program} {γ0 : Gh} {w0 : World} {H0 : Heap} {F : Fx} {KP : AV → Heap → Prop} {ops : Array Oper} {i : Nat} {o : Oper} {it : AItem} {R : List Chk} {K : Env → Heap → Prop} {next : Act → World → Prop} {Q : Exit → Act → World → Prop}
    (hQ : ∀ ch a w, PanOk γ0 w0 H0 F KP ch a w → Q (.panic ch) a w) (hi : ops[i]? = some o) (hc : chkItem F.N F.lo ops P o it = true) {γ : Gh} {w : World} {H : Heap} {ρ : Env} {a : Act} (h : SInv γ0 w0 H0 F γ w H ρ a) (hs : istepR P KP it R ρ H K)
    (hn : ∀ γ' w' H' ρ' a', SInv γ0 w0 H0 F γ' w' H' ρ' a' → K ρ' H' → next a' w') : wpOp P ops Q i next a w := by
  simp only [chkItem, Bool.and_eq_true, decide_eq_true_eq] at hc
  obtain ⟨⟨⟨hd, hb⟩, hg⟩, hop⟩ := hc
  have hdN : ∀ x, it.dst = some x → F.lo ≤ x ∧ x < F.N := fun x hx => by rw [hx] at hb; simpa using hb
  unfold wpOp
  simp only [hi]
  unfold istepR at hs
  cases hgv : gv it.guard ρ with
  | none => simp [hgv] at hs
  | some b =>
    have hw := gv_wanted (ops := ops) (o := o) h.env hg hgv
    rw [hw]
    cases b with
    | false =>
      simp only [hgv] at hs
      simp only [Bool.false_eq_true, if_false]
      rw [hd]
      exact hn _ _ _ _ _ (h.step (.refl _ _ _) h.st (NewKeys.refl _ _) hdN (.tup [] [] rfl (by simp))) hs
    | true =>
      simp only [hgv] at hs
      simp only [if_true]
      refine .inl (chkOp_sound hop γ w H ρ a _ KP next Q h.env h.st hs (fun γ' w' H' c v hext hst hk hr hK => ?_) (fun γ' w' H' c v hext hst hk hr hK => hQ _ _ _ ⟨γ', H', c, v, rfl, ?_, hst, newKeys_trans h.keys h.ext.mono.size hk, hr, hK, h.env.tab.mono hext.mono, h.sz, h.fx, h.df.step hext hk⟩))
      · rw [hd]
        exact hn _ _ _ _ _ (h.step hext hst hk hdN hr) hK.2
      · exact h.ext.trans hext (fun b hb hb' => by
          rcases h.keys b hb' with h1 | h1
          · exact h1
          · omega)

/-- One behind the other. -/
theorem items_sound {P : Program} {γ0 : Gh} {w0 : World} {H0 : Heap} {F : Fx} {KP : AV → Heap → Prop} {ops : Array Oper} {Q : Exit → Act → World → Prop} {K : Env → Heap → Prop}
    (hQ : ∀ ch a w, PanOk γ0 w0 H0 F KP ch a w → Q (.panic ch) a w) (hK : ∀ γ w H ρ a, SInv γ0 w0 H0 F γ w H ρ a → K ρ H → Q .normal a w) :
    ∀ (l : List Nat) (its : List (AItem × List Chk)), l.length = its.length → (∀ (k i : Nat) (it : AItem × List Chk), l[k]? = some i → its[k]? = some it → ∃ o, ops[i]? = some o ∧ chkItem F.N F.lo ops P o it.1 = true) →
    ∀ (γ : Gh) (w : World) (H : Heap) (ρ : Env) (a : Act), SInv γ0 w0 H0 F γ w H ρ a → awpItems P KP its ρ H K → wpOps P ops Q l a w
  | [], [], _, _, γ, w, H, ρ, a, h, hs => hK γ w H ρ a h hs
  | [], _ :: _, hl, _, _, _, _, _, _, _, _ => by simp at hl
  | _ :: _, [], hl, _, _, _, _, _, _, _, _ => by simp at hl
  | i :: l, it :: its, hl, hc, γ, w, H, ρ, a, h, hs => by
    rw [wpOps_cons]
    obtain ⟨o, ho, hco⟩ := hc 0 i it rfl rfl
    unfold awpItems at hs
    exact item_sound hQ ho hco h hs fun γ' w' H' ρ' a' h' hs' => items_sound hQ hK l its (by simpa using hl) (fun k i it hk hit => hc (k + 1) i it (by simpa using hk) (by simpa using hit)) γ' w' H' ρ' a' h' hs'

/-! ### whatever order -/

/-- x stands ahead of i in our order and is not bound to: i may be taken first. -/
def pairB (x i : AItem × List Chk) : Bool :=
  x.1.apart i.1 && canSwap x.1 i.1 && (x.1.op.cls != .read || (match x.1.dst with | some d => !x.1.looks.contains d | none => false)) && (x.1.op.cls == .eff || x.2.isEmpty) &&
  (match i.1.dst with | some d => x.2.all fun c => !(chkSlots c).contains d | none => true) && (i.1.op.cls == .eff || i.2.isEmpty)

def needOk (x i : AItem × List Chk) : Prop := ∀ c ∈ need x.1 i.1, c ∈ i.2

theorem recheck_sub {ρ : Env} {H : Heap} {A : List Chk} (h : recheck ρ H A) : ∀ {B : List Chk}, (∀ c ∈ B, c ∈ A) → recheck ρ H B := by
  have mem : ∀ {A : List Chk}, recheck ρ H A → ∀ c ∈ A, (gv c.2.1 ρ = some true → rev ρ H c.2.2 = some (ρ c.1)) := by
    intro A
    induction A with
    | nil => intro _ c hc; cases hc
    | cons x A ih =>
      obtain ⟨d, g, o⟩ := x
      intro h c hc
      rcases List.mem_cons.1 hc with e | e
      · subst e; exact h.1
      · exact ih h.2 c e
  intro B
  induction B with
  | nil => intro _; trivial
  | cons x B ih =>
    obtain ⟨d, g, o⟩ := x
    intro hB
    exact ⟨mem h (d, g, o) (hB _ (List.mem_cons_self ..)), ih fun c hc => hB c (List.mem_cons_of_mem _ hc)⟩

theorem entry_slots {x y : AItem} (h : x.apart y = true ∨ True) : ∀ c ∈ entry x, ∀ n ∈ chkSlots c, x.dst = some n ∨ n ∈ x.looks := by
  intro c hc n hn
  unfold entry at hc
  split at hc
  · rename_i d hd
    simp only [List.mem_singleton] at hc
    subst hc
    simp only [chkSlots, List.mem_cons, List.mem_append] at hn
    rcases hn with (rfl | hn) | hn
    · exact .inl hd
    · exact .inr (List.mem_append_left _ hn)
    · exact .inr (List.mem_append_right _ hn)
  · cases hc

theorem front {P : Program} {KP : AV → Heap → Prop} (hKP : Wide KP) (i : AItem × List Chk) {K : Env → Heap → Prop} {q : List (AItem × List Chk)} : ∀ (p : List (AItem × List Chk)),
    (∀ x ∈ p, pairB x i = true ∧ needOk x i) → (∀ (k l : Nat) (x y : AItem × List Chk), k < l → p[k]? = some x → p[l]? = some y → need x.1 i.1 ≠ [] → ∀ d, y.1.dst = some d → x.1.dst ≠ some d ∧ d ∉ x.1.looks) →
    ∀ (R : List Chk), (∀ c ∈ R, c ∈ i.2) → (∀ c ∈ R, ∀ x ∈ p, ∀ d, x.1.dst = some d → d ∉ chkSlots c) → ∀ (ρ : Env) (H : Heap),
    awpItems P KP (p ++ i :: q) ρ H K → istepR P KP i.1 R ρ H (fun ρ' H' => awpItems P KP (p ++ q) ρ' H' K)
  | [], _, _, R, hRi, _, ρ, H, h => by
    simp only [List.nil_append] at h ⊢
    unfold awpItems at h
    exact istepR_mono (fun _ _ hr => recheck_sub hr hRi) (fun _ _ h => h) h
  | x :: p, hp, hw, R, hRi, hRp, ρ, H, h => by
    obtain ⟨hx, hnx⟩ := hp x (List.mem_cons_self ..)
    simp only [pairB, Bool.and_eq_true, Bool.or_eq_true] at hx
    obtain ⟨⟨⟨⟨⟨hap, hsw⟩, hself⟩, hchk⟩, hchk2⟩, hie⟩ := hx
    simp only [List.cons_append] at h ⊢
    unfold awpItems at h
    have ih := fun (ρ : Env) (H : Heap) (h' : awpItems P KP (p ++ i :: q) ρ H K) => front (P := P) hKP i (K := K) (q := q) p (fun y hy => hp y (List.mem_cons_of_mem _ hy)) (fun k l y z hkl hk hl => hw (k + 1) (l + 1) y z (by omega) (by simpa using hk) (by simpa using hl)) (need x.1 i.1 ++ R)
      (fun c hc => by
        rcases List.mem_append.1 hc with h1 | h1
        · exact hnx c h1
        · exact hRi c h1)
      (fun c hc y hy d hd => by
        rcases List.mem_append.1 hc with h1 | h1
        · have hcls : need x.1 i.1 ≠ [] := List.ne_nil_of_mem h1
          have h2 : c ∈ entry x.1 := by
            unfold need at h1
            split at h1
            · exact h1
            · cases h1
          obtain ⟨l, hl⟩ := List.mem_iff_getElem?.1 hy
          obtain ⟨n1, n2⟩ := hw 0 (l + 1) x y (by omega) rfl (by simpa using hl) hcls d hd
          intro hn
          rcases entry_slots (y := x.1) (.inr trivial) c h2 d hn with h3 | h3
          · exact n1 h3
          · exact n2 h3
        · exact hRp c h1 y (List.mem_cons_of_mem _ hy) d hd) ρ H h'
    have h1 := istepR_mono (P := P) (KP := KP) (fun _ _ hr => hr) (fun ρ' H' h' => ih ρ' H' h') h
    have h2 := swap hKP (x := x.1) (i := i.1) (cx := x.2) hap hsw (fun e => by
        rcases hself with h | h
        · rw [e] at h; simp [bne, BEq.beq] at h
        · split at h
          · rename_i d hd; exact ⟨d, hd, by simpa using h⟩
          · cases h)
      (fun e => by
        rcases hchk with h | h
        · exact absurd (of_decide_eq_true h) e
        · simpa using h)
      (fun c hc d hd => by rw [hd] at hchk2; have := List.all_eq_true.1 hchk2 c hc; simpa using this)
      (R := R) (fun c hc d hd => hRp c hc x (List.mem_cons_self ..) d hd)
      (fun e => by
        rcases hie with h | h
        · exact absurd (of_decide_eq_true h) e
        · have : i.2 = [] := by simpa using h
          cases R with
          | nil => rfl
          | cons c r => have := hRi c (List.mem_cons_self ..); simp_all) h1
    exact istepR_mono (fun _ _ hr => hr) (fun ρ' H' h' => by unfold awpItems; exact h') h2

/-- One operation of a statement, at its place in the program's list. -/
abbrev Placed := Nat × AItem × List Chk

def readySafe (ops : Array Oper) (pre : Nat → List Nat) (r : List Placed) (x : Placed) : Prop :=
  (∀ i ∈ r, x.1 ∈ pre i.1 ∨ (pairB x.2 i.2 = true ∧ needOk x.2 i.2 ∧ (need x.2.1 i.2.1 ≠ [] → ∀ y ∈ r, ∀ d, y.2.1.dst = some d → x.2.1.dst ≠ some d ∧ d ∉ x.2.1.looks))) ∧
  (∀ o, ops[x.1]? = some o → ∀ e ∈ o.after, Region.binds .any e = true → e.on < ops.size ∧ e.on ≠ x.1 ∧ ∀ y ∈ r, y.1 ≠ e.on) ∧ (∀ y ∈ r, y.1 ≠ x.1)

def POK (ops : Array Oper) (pre : Nat → List Nat) : List Placed → Prop
  | [] => True
  | x :: r => readySafe ops pre r x ∧ POK ops pre r

theorem POK.drop {ops : Array Oper} {pre : Nat → List Nat} {i : Placed} {q : List Placed} : ∀ {p : List Placed}, POK ops pre (p ++ i :: q) → POK ops pre (p ++ q)
  | [], h => h.2
  | x :: p, h => by
    obtain ⟨⟨h1, h2, h3⟩, h4⟩ := h
    have sub : ∀ y ∈ p ++ q, y ∈ p ++ i :: q := fun y hy => by
      rcases List.mem_append.1 hy with h | h
      · exact List.mem_append_left _ h
      · exact List.mem_append_right _ (List.mem_cons_of_mem _ h)
    refine ⟨⟨fun j hj => ?_, fun o ho e he hbe => ?_, fun y hy => h3 y (sub y hy)⟩, POK.drop h4⟩
    · rcases h1 j (sub j hj) with h | ⟨ha, hb, hc⟩
      · exact .inl h
      · exact .inr ⟨ha, hb, fun hn y hy => hc hn y (sub y hy)⟩
    · obtain ⟨ha, hne, hb⟩ := h2 o ho e he hbe
      exact ⟨ha, hne, fun y hy => hb y (sub y hy)⟩

theorem POK.before {ops : Array Oper} {pre : Nat → List Nat} {i : Placed} {q : List Placed} : ∀ {p : List Placed}, POK ops pre (p ++ i :: q) → (∀ x ∈ p, x.1 ∉ pre i.1) →
    (∀ x ∈ p.map (·.2), pairB x i.2 = true ∧ needOk x i.2) ∧
    (∀ (k l : Nat) (x y : AItem × List Chk), k < l → (p.map (·.2))[k]? = some x → (p.map (·.2))[l]? = some y → need x.1 i.2.1 ≠ [] → ∀ d, y.1.dst = some d → x.1.dst ≠ some d ∧ d ∉ x.1.looks)
  | [], _, _ => ⟨by simp, by simp⟩
  | x :: p, h, hn => by
    obtain ⟨⟨h1, _, _⟩, h4⟩ := h
    obtain ⟨ih1, ih2⟩ := POK.before h4 (fun y hy => hn y (List.mem_cons_of_mem _ hy))
    have hx := (h1 i (by simp)).resolve_left (hn x (List.mem_cons_self ..))
    refine ⟨fun y hy => ?_, fun k l y z hkl hk hl hne d hd => ?_⟩
    · simp only [List.map_cons, List.mem_cons] at hy
      rcases hy with rfl | hy
      · exact ⟨hx.1, hx.2.1⟩
      · exact ih1 y hy
    · cases l with
      | zero => omega
      | succ l =>
        simp only [List.map_cons, List.getElem?_cons_succ] at hl
        cases k with
        | zero =>
          simp only [List.map_cons, List.getElem?_cons_zero, Option.some.injEq] at hk
          subst hk
          rw [List.getElem?_map] at hl
          cases hz : p[l]? with
          | none => simp [hz] at hl
          | some z' =>
            simp only [hz, Option.map_some, Option.some.injEq] at hl
            subst hl
            exact hx.2.2 hne z' (List.mem_append_left _ (List.mem_of_getElem? hz)) d hd
        | succ k =>
          simp only [List.map_cons, List.getElem?_cons_succ] at hk
          exact ih2 k l y z (by omega) hk hl hne d hd

theorem POK.fresh {ops : Array Oper} {pre : Nat → List Nat} {i : Placed} {q : List Placed} : ∀ {p : List Placed}, POK ops pre (p ++ i :: q) → ∀ y ∈ p ++ q, y.1 ≠ i.1
  | [], h, y, hy => h.1.2.2 y hy
  | x :: p, h, y, hy => by
    simp only [List.cons_append, List.mem_cons] at hy
    rcases hy with rfl | hy
    · exact fun e => h.1.2.2 i (by simp) e.symm
    · exact POK.fresh h.2 y hy

/-- ONE ORDER SERVES ALL. -/
theorem any_sound {P : Program} {γ0 : Gh} {w0 : World} {H0 : Heap} {F : Fx} {KP : AV → Heap → Prop} (hKP : Wide KP) {ops : Array Oper} {pre : Nat → List Nat} {Q : Exit → Act → World → Prop} {K : Env → Heap → Prop}
    (hQ : ∀ ch a w, PanOk γ0 w0 H0 F KP ch a w → Q (.panic ch) a w) (hK : ∀ γ w H ρ a, SInv γ0 w0 H0 F γ w H ρ a → K ρ H → Q .normal a w)
    (hpre : ∀ (i : Nat) (o : Oper), ops[i]? = some o → ∀ k ∈ pre i, ∃ e ∈ o.after, Region.binds .any e = true ∧ (e.on = k ∨ k ∈ pre e.on)) :
    ∀ (fuel : Nat) (r : List Placed) (listed : Array Bool) (γ : Gh) (w : World) (H : Heap) (ρ : Env) (a : Act), listed.size = ops.size → r.length ≤ fuel → POK ops pre r → (∀ x ∈ r, ∃ o, ops[x.1]? = some o ∧ chkItem F.N F.lo ops P o x.2.1 = true) →
      (∀ i, i < ops.size → (listed.getD i true = false ↔ ∃ x ∈ r, x.1 = i)) → (∀ j, listed.getD j false = true → ∀ k ∈ pre j, listed.getD k false = true) →
      SInv γ0 w0 H0 F γ w H ρ a → awpItems P KP (r.map (·.2)) ρ H K → wpAny P .any ops Q fuel listed a w := by
  have firstReady : ∀ (x : Placed) (r : List Placed) (listed : Array Bool), listed.size = ops.size → POK ops pre (x :: r) → (∃ o, ops[x.1]? = some o ∧ chkItem F.N F.lo ops P o x.2.1 = true) →
      (∀ i, i < ops.size → (listed.getD i true = false ↔ ∃ y ∈ x :: r, y.1 = i)) → x.1 ∈ Region.ready .any ops listed := by
    intro x r listed hsz hpok ⟨o, ho, _⟩ hl
    rw [mem_ready]
    have hx : x.1 < ops.size := (Array.getElem?_eq_some_iff.1 ho).1
    refine ⟨(hl x.1 hx).2 ⟨x, List.mem_cons_self .., rfl⟩, o, ho, fun e he hbe => ?_⟩
    obtain ⟨h1, hne, h2⟩ := hpok.1.2.1 o ho e he hbe
    have h3 : ¬ (listed.getD e.on true = false) := by
      rw [hl e.on h1]
      rintro ⟨y, hy, hye⟩
      rcases List.mem_cons.1 hy with rfl | hy
      · exact hne hye.symm
      · exact h2 y hy hye
    have h4 : e.on < listed.size := by omega
    simp only [Array.getD_eq_getD_getElem?, Array.getElem?_eq_getElem h4, Option.getD_some] at h3 ⊢
    cases hh : listed[e.on] <;> simp_all
  have clash : ∀ (listed : Array Bool) (j : Nat), listed.getD j true = false → listed.getD j false = true → False := by
    intro listed j h1 h2
    simp only [Array.getD_eq_getD_getElem?] at h1 h2
    cases hj : listed[j]? <;> simp_all
  intro fuel
  induction fuel with
  | zero =>
    intro r listed γ w H ρ a hsz hlen hpok hc hl hdc hinv hs
    have hr : r = [] := List.eq_nil_of_length_eq_zero (by omega)
    subst hr
    refine ⟨?_, hK γ w H ρ a hinv hs⟩
    cases hrd : Region.ready .any ops listed with
    | nil => rfl
    | cons j js =>
      have hj : j ∈ Region.ready .any ops listed := by rw [hrd]; exact List.mem_cons_self ..
      obtain ⟨h1, o, ho, _⟩ := mem_ready.1 hj
      obtain ⟨x, hx, _⟩ := (hl j (Array.getElem?_eq_some_iff.1 ho).1).1 h1
      cases hx
  | succ fuel ih =>
    intro r listed γ w H ρ a hsz hlen hpok hc hl hdc hinv hs
    refine ⟨fun hrd => ?_, fun i hi => ?_⟩
    · cases r with
      | nil => exact hK γ w H ρ a hinv hs
      | cons x r =>
        have := firstReady x r listed hsz hpok (hc x (List.mem_cons_self ..)) hl
        rw [hrd] at this
        cases this
    · obtain ⟨h1, o, ho, hall⟩ := mem_ready.1 hi
      have hilt := (Array.getElem?_eq_some_iff.1 ho).1
      obtain ⟨x, hx, rfl⟩ := (hl i hilt).1 h1
      obtain ⟨p, q, rfl⟩ := List.append_of_mem hx
      have hpre' : ∀ k ∈ pre x.1, listed.getD k false = true := fun k hk => by
        obtain ⟨e, he, hb, h2⟩ := hpre x.1 o ho k hk
        have h3 := hall e he hb
        rcases h2 with rfl | h2
        · exact h3
        · exact hdc e.on h3 k h2
      have hnp : ∀ y ∈ p, y.1 ∉ pre x.1 := fun y hy hk => by
        obtain ⟨oy, hoy, _⟩ := hc y (List.mem_append_left _ hy)
        exact clash listed y.1 ((hl y.1 (Array.getElem?_eq_some_iff.1 hoy).1).2 ⟨y, List.mem_append_left _ hy, rfl⟩) (hpre' y.1 hk)
      obtain ⟨hb1, hb2⟩ := hpok.before hnp
      obtain ⟨o', ho', hco⟩ := hc x hx
      rw [ho] at ho'
      cases ho'
      rw [List.map_append, List.map_cons] at hs
      have hfront := front hKP x.2 (p.map (·.2)) hb1 hb2 [] (by simp) (by simp) ρ H hs
      refine item_sound hQ ho hco hinv hfront fun γ' w' H' ρ' a' hinv' hs' => ?_
      refine ih (p ++ q) _ γ' w' H' ρ' a' (by simpa using hsz) (by simp at hlen ⊢; omega) hpok.drop (fun y hy => hc y ?_) (fun j hj => ?_) (fun j hj k hk => ?_) hinv' (by rw [List.map_append]; exact hs')
      · rcases List.mem_append.1 hy with h | h
        · exact List.mem_append_left _ h
        · exact List.mem_append_right _ (List.mem_cons_of_mem _ h)
      · by_cases hji : x.1 = j
        · subst hji
          constructor
          · intro h2
            have h3 : x.1 < listed.size := by omega
            simp [h3] at h2
          · rintro ⟨y, hy, hye⟩
            exact absurd hye (hpok.fresh y hy)
        · rw [getD_set_ne true hji, hl j hj]
          constructor
          · rintro ⟨y, hy, rfl⟩
            refine ⟨y, ?_, rfl⟩
            rcases List.mem_append.1 hy with h | h
            · exact List.mem_append_left _ h
            · rcases List.mem_cons.1 h with rfl | h
              · exact absurd rfl hji
              · exact List.mem_append_right _ h
          · rintro ⟨y, hy, rfl⟩
            refine ⟨y, ?_, rfl⟩
            rcases List.mem_append.1 hy with h | h
            · exact List.mem_append_left _ h
            · exact List.mem_append_right _ (List.mem_cons_of_mem _ h)
      · by_cases hji : x.1 = j
        · subst hji
          exact getD_set_true (hpre' k hk)
        · rw [getD_set_ne false hji] at hj
          exact getD_set_true (hdc j hj k hk)

end Go.Ab
