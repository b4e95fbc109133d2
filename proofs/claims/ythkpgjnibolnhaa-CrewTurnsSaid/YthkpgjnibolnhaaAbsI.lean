/- Statements: operations one behind the other; and statements whose order Go leaves open: one order serves all. -/
import Derived.Test.YthkpgjnibolnhaaAbsH
set_option linter.unusedSimpArgs false
set_option linter.unusedVariables false
namespace Go.Ab

abbrev Chk := Nat × Option (Nat × Bool) × AOp

structure AItem where
  dst : Option Nat
  guard : Option (Nat × Bool)
  op : AOp
  chk : List Nat

def gv (g : Option (Nat × Bool)) (ρ : Env) : Option Bool :=
  match g with
  | none => some true
  | some (s, want) => match ρ s with
    | .bool b => some (b == want)
    | .tup [] => some false
    | _ => none

/-- What was read ahead of a change is read as the same behind it. -/
def recheck (ρ : Env) (H : Heap) : List Chk → Prop
  | [] => True
  | (d, g, o) :: r => (gv g ρ = some true → rev ρ H o = some (ρ d)) ∧ recheck ρ H r

def istepR (P : Program) (KP : AV → Heap → Prop) (it : AItem) (R : List Chk) (ρ : Env) (H : Heap) (K : Env → Heap → Prop) : Prop :=
  match gv it.guard ρ with
  | some true => aop P KP it.op ρ H (fun v H' => recheck (ρ.set it.dst v) H' R ∧ K (ρ.set it.dst v) H')
  | some false => K (ρ.set it.dst (.tup [])) H
  | none => False

def awpItems (P : Program) (KP : AV → Heap → Prop) : List (AItem × List Chk) → Env → Heap → (Env → Heap → Prop) → Prop
  | [], ρ, H, K => K ρ H
  | it :: r, ρ, H, K => istepR P KP it.1 it.2 ρ H (fun ρ' H' => awpItems P KP r ρ' H' K)

/-! ### what an operation looks at -/

def Opd.slots : Opd → List Nat
  | .t n => [n]
  | .k _ => []

def oslots : Option Opd → List Nat
  | some x => x.slots
  | none => []

def AOp.looks : AOp → List Nat
  | .mv x | .nilchk x | .isnil _ x | .isnn _ x | .ifnil _ x | .tas _ _ x | .ineg x | .not x | .cvi _ x | .cvid x | .cvb2s x | .ext x _ | .mki _ x | .fa _ x | .fld _ _ _ x | .len x | .lens x | .boxv x | .ld _ _ x | .lenm x | .box x | .pan x | .frz _ x => x.slots
  | .pick a b c => a.slots ++ b.slots ++ c.slots
  | .bi _ _ x y | .shf _ x y | .bs _ x y | .bb _ x y | .eqa _ _ x y | .ia _ x y | .ixs x y | .lkp _ _ _ x y | .st _ x y | .app _ _ x y | .appm _ _ _ x y | .apps x y | .sllx _ x y => x.slots ++ y.slots
  | .bld _ qs => qs.flatMap fun q => q.2.2.slots
  | .bls _ _ _ qs | .blsm _ _ _ qs => qs.flatMap fun q => q.2.slots
  | .mkfn _ a b => a.flatMap Opd.slots ++ b.flatMap Opd.slots
  | .sls x lo hi => x.slots ++ oslots lo ++ oslots hi
  | .sll _ x lo hi mx => x.slots ++ oslots lo ++ oslots hi ++ oslots mx
  | .mm _ x ys => x.slots ++ ys.flatMap Opd.slots
  | .mks _ _ x | .mksn _ _ x => x.slots
  | .alloc _ | .mkm _ => []
  | .mup _ a b c => a.slots ++ b.slots ++ c.slots
  | .call _ args => args.flatMap Opd.slots
  | .callv g args => g.slots ++ args.flatMap Opd.slots

theorem ev_congr {ρ ρ' : Env} {x : Opd} (h : ∀ n ∈ x.slots, ρ n = ρ' n) : x.ev ρ = x.ev ρ' := by
  cases x with
  | t n => exact h n (by simp [Opd.slots])
  | k c => rfl

theorem evs_congr {ρ ρ' : Env} : ∀ {xs : List Opd}, (∀ n ∈ xs.flatMap Opd.slots, ρ n = ρ' n) → xs.map (Opd.ev ρ) = xs.map (Opd.ev ρ')
  | [], _ => rfl
  | x :: xs, h => by
    simp only [List.flatMap_cons, List.mem_append] at h
    simp only [List.map_cons, ev_congr (fun n hn => h n (.inl hn)), evs_congr (fun n hn => h n (.inr hn))]

theorem fillA_congr {ρ ρ' : Env} : ∀ {qs : List (Nat × Nat × Opd)} {cs : List AV}, (∀ n ∈ qs.flatMap (fun q => q.2.2.slots), ρ n = ρ' n) → fillA ρ cs qs = fillA ρ' cs qs
  | [], _, _ => rfl
  | (off, n, x) :: qs, cs, h => by
    simp only [List.flatMap_cons, List.mem_append] at h
    simp only [fillA, ev_congr (fun n hn => h n (.inl hn)), fillA_congr (fun n hn => h n (.inr hn))]

theorem fillS_congr {ρ ρ' : Env} {sz : Nat} : ∀ {qs : List (Nat × Opd)} {cs : List (List AV)}, (∀ n ∈ qs.flatMap (fun q => q.2.slots), ρ n = ρ' n) → fillS ρ sz cs qs = fillS ρ' sz cs qs
  | [], _, _ => rfl
  | (i, x) :: qs, cs, h => by
    simp only [List.flatMap_cons, List.mem_append] at h
    simp only [fillS, ev_congr (fun n hn => h n (.inl hn)), fillS_congr (fun n hn => h n (.inr hn))]

theorem mmAll_congr {ρ ρ' : Env} {mx : Bool} {k : IntKind} : ∀ {ys : List Opd} {a : Int}, (∀ n ∈ ys.flatMap Opd.slots, ρ n = ρ' n) → mmAll mx k ρ a ys = mmAll mx k ρ' a ys
  | [], _, _ => rfl
  | y :: ys, a, h => by
    simp only [List.flatMap_cons, List.mem_append] at h
    simp only [mmAll, ev_congr (fun n hn => h n (.inl hn))]
    split
    · rw [mmAll_congr (fun n hn => h n (.inr hn))]
    · rfl

theorem bound_congr {ρ ρ' : Env} {d : Nat} {x : Option Opd} (h : ∀ n ∈ oslots x, ρ n = ρ' n) : bound d ρ x = bound d ρ' x := by
  cases x with
  | none => rfl
  | some y => simp only [bound, ev_congr (x := y) h]

theorem pev_congr {ρ ρ' : Env} {o : AOp} (h : ∀ n ∈ o.looks, ρ n = ρ' n) : pev ρ o = pev ρ' o := by
  cases o <;> simp only [AOp.looks, List.mem_append] at h <;> simp only [pev]
  case pick a b c => rw [ev_congr (x := a) (fun n hn => h n (.inl (.inl hn))), ev_congr (x := b) (fun n hn => h n (.inl (.inr hn))), ev_congr (x := c) (fun n hn => h n (.inr hn))]
  case bld z qs => rw [fillA_congr h]
  case bls a b z qs => rw [fillS_congr h]
  case mkfn f a b => rw [evs_congr (fun n hn => h n (.inl hn)), evs_congr (fun n hn => h n (.inr hn))]
  case sls x lo hi => rw [ev_congr (x := x) (fun n hn => h n (.inl (.inl hn))), bound_congr (x := lo) (fun n hn => h n (.inl (.inr hn)))]; simp only [bound_congr (x := hi) (fun n hn => h n (.inr hn))]
  case sll s x lo hi mx =>
    rw [ev_congr (x := x) (fun n hn => h n (.inl (.inl (.inl hn)))), bound_congr (x := lo) (fun n hn => h n (.inl (.inl (.inr hn))))]
    simp only [bound_congr (x := hi) (fun n hn => h n (.inl (.inr hn)))]
    cases mx with
    | none =>
      split
      · rename_i o1 s1 xs _
        generalize bound 0 ρ' lo = b1
        generalize bound xs.length ρ' hi = b2
        cases b1 <;> cases b2 <;> rfl
      · rfl
    | some m =>
      have hm := ev_congr (x := m) (fun n hn => h n (.inr (show n ∈ oslots (some m) from hn)))
      split
      · rename_i o1 s1 xs _
        generalize bound 0 ρ' lo = b1
        generalize bound xs.length ρ' hi = b2
        cases b1 <;> cases b2 <;> first | rfl | (show (match m.ev ρ with | .int _ m => _ | _ => _) = _; rw [hm]; rfl)
      · rfl
  case mm mx x ys => rw [ev_congr (x := x) (fun n hn => h n (.inl hn))]; simp only [mmAll_congr (fun n hn => h n (.inr hn))]
  all_goals first
    | rfl
    | (rw [ev_congr h]; done)
    | (rename_i x y; rw [ev_congr (x := x) (fun n hn => h n (.inl hn)), ev_congr (x := y) (fun n hn => h n (.inr hn))]; done)

theorem rev_congr {ρ ρ' : Env} {H : Heap} {o : AOp} (h : ∀ n ∈ o.looks, ρ n = ρ' n) : rev ρ H o = rev ρ' H o := by
  cases o <;> simp only [AOp.looks, List.mem_append] at h <;> simp only [rev]
  all_goals first
    | (rw [ev_congr h]; done)
    | (rename_i x y; rw [ev_congr (x := x) (fun n hn => h n (.inl hn)), ev_congr (x := y) (fun n hn => h n (.inr hn))]; done)

theorem oev_congr {ρ ρ' : Env} {o : AOp} (h : ∀ n ∈ o.looks, ρ n = ρ' n) : oev ρ o = oev ρ' o := by
  cases o <;> simp only [AOp.looks, List.mem_append] at h <;> simp only [oev]
  case blsm a b z qs => rw [fillS_congr h]
  all_goals (rw [ev_congr h])

theorem optr_congr {ρ ρ' : Env} {b : Nat} {o : AOp} (h : ∀ n ∈ o.looks, ρ n = ρ' n) : optr ρ b o = optr ρ' b o := by
  cases o <;> simp only [AOp.looks, List.mem_append] at h <;> simp only [optr]
  all_goals (rw [ev_congr h])

theorem eff_congr {P : Program} {KP : AV → Heap → Prop} {ρ ρ' : Env} {H : Heap} {K : AV → Heap → Prop} {o : AOp} (h : ∀ n ∈ o.looks, ρ n = ρ' n) : eff P KP ρ H K o = eff P KP ρ' H K o := by
  cases o <;> simp only [AOp.looks, List.mem_append] at h <;> simp only [eff]
  case mup kt a b c => rw [ev_congr (x := a) (fun n hn => h n (.inl (.inl hn))), ev_congr (x := b) (fun n hn => h n (.inl (.inr hn))), ev_congr (x := c) (fun n hn => h n (.inr hn))]
  case call f args => rw [evs_congr h]
  case callv g args => rw [ev_congr (x := g) (fun n hn => h n (.inl hn)), evs_congr (fun n hn => h n (.inr hn))]
  all_goals first
    | (rw [ev_congr h]; done)
    | (rename_i x y; rw [ev_congr (x := x) (fun n hn => h n (.inl hn)), ev_congr (x := y) (fun n hn => h n (.inr hn))]; done)

theorem aop_congr {P : Program} {KP : AV → Heap → Prop} {ρ ρ' : Env} {H : Heap} {K : AV → Heap → Prop} {o : AOp} (h : ∀ n ∈ o.looks, ρ n = ρ' n) : aop P KP o ρ H K = aop P KP o ρ' H K := by
  unfold aop
  rw [pev_congr h, rev_congr h, oev_congr h, eff_congr h]
  simp only [optr_congr h]

theorem ACalls.monoEnd {P : Program} {f : FuncId} {args : List AV} {H : Heap} {K K' KP : AV → Heap → Prop} (hk : ∀ v H', K v H' → K' v H') (h : ACalls P f args H (endK K KP)) : ACalls P f args H (endK K' KP) :=
  h.mono fun r H' hr => by cases r <;> first | exact hk _ _ hr | exact hr

theorem appK_mono {sz bytes : Nat} {x y : AV} {H : Heap} {K K' : AV → Heap → Prop} (hk : ∀ v H', K v H' → K' v H') (h : appK sz bytes x y H K) : appK sz bytes x y H K' := by
  cases x <;> try (exact False.elim h)
  cases y <;> try (exact False.elim h)
  rename_i o s1 xs o2 s2 ys
  obtain ⟨h1, h2, h3, h4, h5⟩ := h
  refine ⟨h1, h2, h3, h4, ?_⟩
  cases o with
  | no => exact h5
  | nil => exact ⟨fun e => hk _ _ (h5.1 e), fun e b hb => hk _ _ (h5.2 e b hb)⟩
  | full => exact ⟨fun e => hk _ _ (h5.1 e), fun e b hb => hk _ _ (h5.2 e b hb)⟩
  | tip b d => exact ⟨h5.1, fun b' d' hb => hk _ _ (h5.2 b' d' hb)⟩

theorem appmK_mono {sz bytes : Nat} {zero : List AV} {x y : AV} {H : Heap} {K K' : AV → Heap → Prop} (hk : ∀ v H', K v H' → K' v H') (h : appmK sz bytes zero x y H K) : appmK sz bytes zero x y H K' := by
  cases y <;> try (exact False.elim h)
  obtain ⟨h1, h2, h3⟩ := h
  refine ⟨h1, h2, ?_⟩
  cases x <;> try (exact False.elim h3)
  · rename_i o s1 xs
    cases o <;> try (exact False.elim h3)
    obtain ⟨h4, h5, h6, h7, h8, h9⟩ := h3
    exact ⟨h4, h5, h6, h7, fun e => hk _ _ (h8 e), fun e b cap hb hc hm => hk _ _ (h9 e b cap hb hc hm)⟩
  · rename_i b off len cap
    obtain ⟨h4, h5, h6⟩ := h3
    refine ⟨h4, h5, ?_⟩
    cases hb : H b with
    | none => simp [hb] at h6
    | some ob =>
      cases ob <;> simp only [hb] at h6 ⊢ <;> try (exact False.elim h6)
      exact ⟨fun e => ⟨(h6.1 e).1, hk _ _ (h6.1 e).2⟩, fun e => ⟨(h6.2 e).1, fun b' cap' hb' hc hm => hk _ _ ((h6.2 e).2 b' cap' hb' hc hm)⟩⟩

theorem frzK_mono {sz : Nat} {x : AV} {H : Heap} {K K' : AV → Heap → Prop} (hk : ∀ v H', K v H' → K' v H') (h : frzK sz x H K) : frzK sz x H K' := by
  cases x <;> try (exact False.elim h)
  rename_i b off len cap
  simp only [frzK] at h ⊢
  cases hb : H b with
  | none => simp [hb] at h
  | some ob =>
    cases ob <;> simp only [hb] at h ⊢ <;> try (exact False.elim h)
    exact ⟨h.1, h.2.1, hk _ _ h.2.2⟩

theorem eff_mono {P : Program} {KP : AV → Heap → Prop} {ρ : Env} {H : Heap} {K K' : AV → Heap → Prop} {o : AOp} (hk : ∀ v H', K v H' → K' v H') (h : eff P KP ρ H K o) : eff P KP ρ H K' o := by
  cases o <;> simp only [eff] at h ⊢ <;> try (exact False.elim h)
  case st n x y =>
    cases hx : x.ev ρ <;> simp only [hx] at h ⊢ <;> try (exact False.elim h)
    rename_i b off
    cases hb : H b with
    | none => simp [hb] at h
    | some ob =>
      cases ob <;> simp only [hb] at h ⊢ <;> try (exact False.elim h)
      exact ⟨h.1, h.2.1, h.2.2.1, hk _ _ h.2.2.2⟩
  case mup kt m k v =>
    cases hx : m.ev ρ <;> simp only [hx] at h ⊢ <;> try (exact False.elim h)
    rename_i b
    cases hb : H b with
    | none => simp [hb] at h
    | some ob =>
      cases ob <;> simp only [hb] at h ⊢ <;> try (exact False.elim h)
      exact ⟨h.1, h.2.1, hk _ _ h.2.2⟩
  case app sz by' x y => exact appK_mono hk h
  case appm sz by' z x y => exact appmK_mono hk h
  case frz sz x => exact frzK_mono hk h
  case apps x y =>
    cases hy : y.ev ρ <;> simp only [hy] at h ⊢ <;> try (exact False.elim h)
    exact appK_mono hk h
  case call f args => exact ACalls.monoEnd hk h
  case callv g args =>
    cases hg : g.ev ρ <;> simp only [hg] at h ⊢ <;> try (exact False.elim h)
    exact ⟨h.1, ACalls.monoEnd hk h.2⟩
  case pan x =>
    cases hx : x.ev ρ <;> simp only [hx] at h ⊢ <;> try (exact False.elim h)
    exact h

theorem aop_mono {P : Program} {KP : AV → Heap → Prop} {o : AOp} {ρ : Env} {H : Heap} {K K' : AV → Heap → Prop} (hk : ∀ v H', K v H' → K' v H') (h : aop P KP o ρ H K) : aop P KP o ρ H K' := by
  unfold aop at *
  cases hc : o.cls <;> simp only [hc] at h ⊢
  · cases hv : pev ρ o <;> simp only [hv] at h ⊢; · exact hk _ _ h
  · cases hv : rev ρ H o <;> simp only [hv] at h ⊢; · exact hk _ _ h
  · cases hv : oev ρ o <;> simp only [hv] at h ⊢
    · exact h
    · exact fun b hb => hk _ _ (h b hb)
  · exact eff_mono hk h

theorem istepR_mono {P : Program} {KP : AV → Heap → Prop} {it : AItem} {R R' : List Chk} {ρ : Env} {H : Heap} {K K' : Env → Heap → Prop} (hr : ∀ ρ' H', recheck ρ' H' R → recheck ρ' H' R') (hk : ∀ ρ' H', K ρ' H' → K' ρ' H') (h : istepR P KP it R ρ H K) : istepR P KP it R' ρ H K' := by
  unfold istepR at *
  split at h
  · exact aop_mono (fun v H' hh => ⟨hr _ _ hh.1, hk _ _ hh.2⟩) h
  · exact hk _ _ h
  · exact h

theorem awpItems_mono {P : Program} {KP : AV → Heap → Prop} {K K' : Env → Heap → Prop} (hk : ∀ ρ' H', K ρ' H' → K' ρ' H') : ∀ {its : List (AItem × List Chk)} {ρ : Env} {H : Heap}, awpItems P KP its ρ H K → awpItems P KP its ρ H K'
  | [], _, _, h => hk _ _ h
  | it :: its, ρ, H, h => by
    unfold awpItems at *
    exact istepR_mono (fun _ _ hr => hr) (fun _ _ h => awpItems_mono hk h) h

/-! ### one order serves all -/

def gslots (g : Option (Nat × Bool)) : List Nat :=
  match g with
  | none => []
  | some (s, _) => [s]

def AItem.looks (it : AItem) : List Nat := gslots it.guard ++ it.op.looks

theorem gv_congr {ρ ρ' : Env} {g : Option (Nat × Bool)} (h : ∀ n ∈ gslots g, ρ n = ρ' n) : gv g ρ = gv g ρ' := by
  cases g with
  | none => rfl
  | some p => simp only [gv, h p.1 (by simp [gslots])]

theorem set_other {ρ : Env} {d : Option Nat} {c : AV} {l : List Nat} (h : ∀ x, d = some x → x ∉ l) : ∀ n ∈ l, (ρ.set d c) n = ρ n := by
  intro n hn
  cases d with
  | none => rfl
  | some x =>
    have : n ≠ x := fun e => h x rfl (e ▸ hn)
    simp [Env.set, this]

theorem set_comm (ρ : Env) {d e : Option Nat} (c u : AV) (h : ∀ x, d = some x → e ≠ some x) : (ρ.set d c).set e u = (ρ.set e u).set d c := by
  cases d with
  | none => rfl
  | some x =>
    cases e with
    | none => rfl
    | some y =>
      have hne : x ≠ y := fun he => h x rfl (he ▸ rfl)
      funext n
      simp only [Env.set]
      by_cases h1 : n = y
      · subst h1; simp [Ne.symm hne]
      · by_cases h2 : n = x
        · subst h2; simp [hne]
        · simp [h1, h2]

def chkSlots (c : Chk) : List Nat := c.1 :: gslots c.2.1 ++ c.2.2.looks

theorem recheck_congr {ρ ρ' : Env} {H : Heap} : ∀ {R : List Chk}, (∀ c ∈ R, ∀ n ∈ chkSlots c, ρ n = ρ' n) → recheck ρ H R → recheck ρ' H R
  | [], _, _ => trivial
  | (d, g, o) :: R, h, hr => by
    have h0 := h (d, g, o) (List.mem_cons_self ..)
    simp only [chkSlots, List.mem_cons, List.mem_append] at h0
    refine ⟨fun hg => ?_, recheck_congr (fun c hc => h c (List.mem_cons_of_mem _ hc)) hr.2⟩
    rw [← gv_congr (fun n hn => h0 n (.inl (.inr hn)))] at hg
    have := hr.1 hg
    rw [rev_congr (fun n hn => h0 n (.inr hn)), h0 d (.inl (.inl rfl))] at this
    exact this

/-- The two operations look at and write different temporaries. -/
def AItem.apart (x i : AItem) : Bool :=
  (match x.dst with
   | some d => !(i.looks).contains d && i.dst != some d
   | none => true) &&
  (match i.dst with
   | some d => !(x.looks).contains d
   | none => true)

theorem apart_spec {x i : AItem} (h : x.apart i = true) : (∀ d, x.dst = some d → d ∉ i.looks) ∧ (∀ d, x.dst = some d → i.dst ≠ some d) ∧ (∀ d, i.dst = some d → d ∉ x.looks) := by
  refine ⟨fun d hd => ?_, fun d hd => ?_, fun d hd => ?_⟩ <;> simp [AItem.apart, hd] at h
  · exact h.1.1
  · exact h.1.2
  · exact h.2

instance : BEq Cls := ⟨fun a b => decide (a = b)⟩

/-- May i be taken ahead of x? -/
def canSwap (x i : AItem) : Bool :=
  match x.op.cls, i.op.cls with
  | .pure, _ => true
  | .read, .pure | .read, .read | .read, .alloc => true
  | .read, .eff => true
  | .alloc, .alloc => i.guard.isNone
  | .eff, .alloc => i.guard.isNone && (match i.op with | .alloc _ | .mkm _ => true | _ => false)
  | _, _ => false

/-- Reading is not disturbed by a new object. -/
theorem rev_alloc {ρ : Env} {H : Heap} {b : Nat} {ob : AObj} {o : AOp} {v : AV} (hb : H b = none) (h : rev ρ H o = some v) : rev ρ (H.upd b ob) o = some v := by
  cases o <;> simp only [rev] at h ⊢ <;> try (cases h; done)
  case ld n ag x =>
    cases hx : x.ev ρ <;> simp only [hx] at h ⊢ <;> try (cases h; done)
    · rename_i b' off
      have hne : b' ≠ b := fun e => by subst e; simp [hb] at h
      simp only [Heap.upd, hne, if_false]
      exact h
    · exact h
  case lkp kt zero ok m k =>
    split at h
    · rename_i hf
      simp only [hf, if_true]
      cases hx : m.ev ρ <;> simp only [hx] at h ⊢ <;> try (cases h; done)
      · exact h
      · rename_i b'
        have hne : b' ≠ b := fun e => by subst e; simp [hb] at h
        simp only [Heap.upd, hne, if_false]
        exact h
    · cases h
  case lenm x =>
    cases hx : x.ev ρ <;> simp only [hx] at h ⊢ <;> try (cases h; done)
    · exact h
    · rename_i b'
      have hne : b' ≠ b := fun e => by subst e; simp [hb] at h
      simp only [Heap.upd, hne, if_false]
      exact h

/-- What the panics' continuation has to bear: another object beside. -/
def Wide (KP : AV → Heap → Prop) : Prop := ∀ v H b o, H b = none → KP v H → KP v (H.upd b o)

theorem upd_comm (H : Heap) {b c : Nat} (x y : AObj) (h : b ≠ c) : (H.upd b x).upd c y = (H.upd c y).upd b x := by
  funext n
  simp only [Heap.upd]
  by_cases h1 : n = c
  · subst h1; simp [Ne.symm h]
  · by_cases h2 : n = b
    · subst h2; simp [h]
    · simp [h1, h2]

theorem union_one (H : Heap) (b : Nat) (o : AObj) (h : H b = none) : Heap.union H (Heap.one b o) = H.upd b o := by
  funext n
  simp only [Heap.union, Heap.one, Heap.upd]
  by_cases h1 : n = b
  · subst h1; simp [h]
  · simp [h1]

/-- A change is not disturbed by an object beside. -/
theorem ACalls.beside {P : Program} {f : FuncId} {args : List AV} {H : Heap} {K KP : AV → Heap → Prop} {b : Nat} {o : AObj} (hb : H b = none) (hKP : Wide KP) (h : ACalls P f args H (endK K KP)) :
    ACalls P f args (H.upd b o) (endK (fun v H' => ∃ H0, H0 b = none ∧ H' = H0.upd b o ∧ K v H0) KP) := by
  have hd : Heap.Disj H (Heap.one b o) := fun c => by
    by_cases hc : c = b
    · subst hc; exact .inl hb
    · exact .inr (by simp [Heap.one, hc])
  rw [← union_one H b o hb]
  refine (h.frame hd).mono fun r H' ⟨A', hq, hdis, he⟩ => ?_
  have hA : A' b = none := by
    rcases hdis b with h1 | h1
    · exact h1
    · simp [Heap.one] at h1
  rw [union_one A' b o hA] at he
  subst he
  cases r with
  | ret v => exact ⟨A', hA, rfl, hq⟩
  | pan v => exact hKP v A' b o hA hq

theorem appK_beside {sz bytes : Nat} {x y : AV} {H : Heap} {K : AV → Heap → Prop} {b : Nat} {o : AObj} (hb : H b = none) (h : appK sz bytes x y H K) :
    appK sz bytes x y (H.upd b o) (fun v H' => ∃ H0, H0 b = none ∧ H' = H0.upd b o ∧ K v H0) := by
  cases x <;> try (exact False.elim h)
  cases y <;> try (exact False.elim h)
  rename_i ow s1 xs o2 s2 ys
  obtain ⟨h1, h2, h3, h4, h5⟩ := h
  refine ⟨h1, h2, h3, h4, ?_⟩
  have fresh : ∀ b2, (H.upd b o) b2 = none → b2 ≠ b ∧ H b2 = none := fun b2 h2 => by
    have hne : b2 ≠ b := fun e => by subst e; simp [Heap.upd] at h2
    exact ⟨hne, by simpa [Heap.upd, hne] using h2⟩
  cases ow with
  | no => exact h5
  | nil => exact ⟨fun e => ⟨H, hb, rfl, h5.1 e⟩, fun e b2 hb2 => by
      obtain ⟨hne, hn⟩ := fresh b2 hb2
      exact ⟨_, by simp [Heap.upd, Ne.symm hne, hb], upd_comm H _ _ (Ne.symm hne), h5.2 e b2 hn⟩⟩
  | full => exact ⟨fun e => ⟨H, hb, rfl, h5.1 e⟩, fun e b2 hb2 => by
      obtain ⟨hne, hn⟩ := fresh b2 hb2
      exact ⟨_, by simp [Heap.upd, Ne.symm hne, hb], upd_comm H _ _ (Ne.symm hne), h5.2 e b2 hn⟩⟩
  | tip b1 d =>
    obtain ⟨h6, h7⟩ := h5
    have hne : b1 ≠ b := fun e => by subst e; simp [hb] at h6
    refine ⟨by simp [Heap.upd, hne, h6], fun b2 d2 hb2 => ?_⟩
    have hne2 : b2 ≠ b := fun e => by subst e; simp [Heap.del, Heap.upd, Ne.symm hne] at hb2
    have hn : (H.del b1) b2 = none := by
      unfold Heap.del at hb2 ⊢
      split
      · rfl
      · rename_i hh; simpa [hh, Heap.upd, hne2] using hb2
    refine ⟨_, ?_, ?_, h7 b2 d2 hn⟩
    · simp [Heap.upd, Heap.del, Ne.symm hne2, hb]
    · rw [← upd_comm _ _ _ (Ne.symm hne2)]
      congr 1
      funext n
      simp only [Heap.del, Heap.upd]
      by_cases e1 : n = b1
      · subst e1; simp [hne]
      · simp [e1]

theorem appmK_beside {sz bytes : Nat} {zero : List AV} {x y : AV} {H : Heap} {K : AV → Heap → Prop} {b : Nat} {o : AObj} (hb : H b = none) (h : appmK sz bytes zero x y H K) :
    appmK sz bytes zero x y (H.upd b o) (fun v H' => ∃ H0, H0 b = none ∧ H' = H0.upd b o ∧ K v H0) := by
  have fresh : ∀ b2, (H.upd b o) b2 = none → b2 ≠ b ∧ H b2 = none := fun b2 h2 => by
    have hne : b2 ≠ b := fun e => by subst e; simp [Heap.upd] at h2
    exact ⟨hne, by simpa [Heap.upd, hne] using h2⟩
  cases y <;> try (exact False.elim h)
  obtain ⟨h1, h2, h3⟩ := h
  refine ⟨h1, h2, ?_⟩
  cases x <;> try (exact False.elim h3)
  · rename_i o s1 xs
    cases o <;> try (exact False.elim h3)
    obtain ⟨h4, h5, h6, h7, h8, h9⟩ := h3
    exact ⟨h4, h5, h6, h7, fun e => ⟨H, hb, rfl, h8 e⟩, fun e b2 cap hb2 hc hm => by
      obtain ⟨hne, hn⟩ := fresh b2 hb2
      exact ⟨_, by simp [Heap.upd, Ne.symm hne, hb], upd_comm H _ _ (Ne.symm hne), h9 e b2 cap hn hc hm⟩⟩
  · rename_i b1 off len cap
    obtain ⟨h4, h5, h6⟩ := h3
    refine ⟨h4, h5, ?_⟩
    have hne1 : b1 ≠ b := fun e => by subst e; simp [hb] at h6
    have e1 : (H.upd b o) b1 = H b1 := by simp [Heap.upd, hne1]
    rw [e1]
    cases hb1 : H b1 with
    | none => simp [hb1] at h6
    | some ob =>
      cases ob <;> simp only [hb1] at h6 ⊢ <;> try (exact False.elim h6)
      refine ⟨fun e => ⟨(h6.1 e).1, _, ?_, upd_comm H _ _ (Ne.symm hne1), (h6.1 e).2⟩, fun e => ⟨(h6.2 e).1, fun b' cap' hb' hc hm => ?_⟩⟩
      · simp [Heap.upd, Ne.symm hne1, hb]
      · obtain ⟨hne, hn⟩ := fresh b' hb'
        exact ⟨_, by simp [Heap.upd, Ne.symm hne, hb], upd_comm H _ _ (Ne.symm hne), (h6.2 e).2 b' cap' hn hc hm⟩

theorem frzK_beside {sz : Nat} {x : AV} {H : Heap} {K : AV → Heap → Prop} {b : Nat} {o : AObj} (hb : H b = none) (h : frzK sz x H K) :
    frzK sz x (H.upd b o) (fun v H' => ∃ H0, H0 b = none ∧ H' = H0.upd b o ∧ K v H0) := by
  cases x <;> try (exact False.elim h)
  rename_i b1 off len cap
  simp only [frzK] at h ⊢
  have hne1 : b1 ≠ b := fun e => by subst e; simp [hb] at h
  have e1 : (H.upd b o) b1 = H b1 := by simp [Heap.upd, hne1]
  rw [e1]
  cases hb1 : H b1 with
  | none => simp [hb1] at h
  | some ob =>
    cases ob <;> simp only [hb1] at h ⊢ <;> try (exact False.elim h)
    refine ⟨h.1, h.2.1, H.del b1, by simp [Heap.del, Ne.symm hne1, hb], ?_, h.2.2⟩
    funext n
    simp only [Heap.del, Heap.upd]
    by_cases e1 : n = b1
    · subst e1; simp [hne1]
    · simp [e1]

theorem eff_beside {P : Program} {KP : AV → Heap → Prop} {ρ : Env} {H : Heap} {K : AV → Heap → Prop} {x : AOp} {b : Nat} {o : AObj} (hb : H b = none) (hKP : Wide KP) (h : eff P KP ρ H K x) :
    eff P KP ρ (H.upd b o) (fun v H' => ∃ H0, H0 b = none ∧ H' = H0.upd b o ∧ K v H0) x := by
  cases x <;> simp only [eff] at h ⊢ <;> try (exact False.elim h)
  case st n x y =>
    cases hx : x.ev ρ <;> simp only [hx] at h ⊢ <;> try (exact False.elim h)
    rename_i b1 off
    have hne : b1 ≠ b := fun e => by subst e; simp [hb] at h
    have e1 : (H.upd b o) b1 = H b1 := by simp [Heap.upd, hne]
    rw [e1]
    cases hb1 : H b1 with
    | none => simp [hb1] at h
    | some ob =>
      cases ob <;> simp only [hb1] at h ⊢ <;> try (exact False.elim h)
      exact ⟨h.1, h.2.1, h.2.2.1, _, by simp [Heap.upd, Ne.symm hne, hb], upd_comm H _ _ (Ne.symm hne), h.2.2.2⟩
  case mup kt m k v =>
    cases hx : m.ev ρ <;> simp only [hx] at h ⊢ <;> try (exact False.elim h)
    rename_i b1
    have hne : b1 ≠ b := fun e => by subst e; simp [hb] at h
    have e1 : (H.upd b o) b1 = H b1 := by simp [Heap.upd, hne]
    rw [e1]
    cases hb1 : H b1 with
    | none => simp [hb1] at h
    | some ob =>
      cases ob <;> simp only [hb1] at h ⊢ <;> try (exact False.elim h)
      exact ⟨h.1, h.2.1, _, by simp [Heap.upd, Ne.symm hne, hb], upd_comm H _ _ (Ne.symm hne), h.2.2⟩
  case app sz by' x y => exact appK_beside hb h
  case appm sz by' z x y => exact appmK_beside hb h
  case frz sz x => exact frzK_beside hb h
  case apps x y =>
    cases hy : y.ev ρ <;> simp only [hy] at h ⊢ <;> try (exact False.elim h)
    exact appK_beside hb h
  case call f args => exact ACalls.beside hb hKP h
  case callv g args =>
    cases hg : g.ev ρ <;> simp only [hg] at h ⊢ <;> try (exact False.elim h)
    exact ⟨h.1, ACalls.beside hb hKP h.2⟩
  case pan x =>
    cases hx : x.ev ρ <;> simp only [hx] at h ⊢ <;> try (exact False.elim h)
    exact hKP _ _ _ _ hb h

theorem aop_mono_ne {P : Program} {KP : AV → Heap → Prop} {o : AOp} {ρ : Env} {H : Heap} {K K' : AV → Heap → Prop} (hne : o.cls ≠ .eff)
    (hk : ∀ v H', (H' = H ∨ ∃ b ob, H b = none ∧ H' = H.upd b ob) → K v H' → K' v H') (h : aop P KP o ρ H K) : aop P KP o ρ H K' := by
  unfold aop at *
  cases hc : o.cls <;> simp only [hc] at h ⊢
  · cases hv : pev ρ o <;> simp only [hv] at h ⊢; · exact hk _ _ (.inl rfl) h
  · cases hv : rev ρ H o <;> simp only [hv] at h ⊢; · exact hk _ _ (.inl rfl) h
  · cases hv : oev ρ o <;> simp only [hv] at h ⊢
    · exact h
    · exact fun b hb => hk _ _ (.inr ⟨b, _, hb, rfl⟩) (h b hb)
  · exact absurd hc hne

theorem recheck_alloc {ρ : Env} {H : Heap} {b : Nat} {ob : AObj} (hb : H b = none) : ∀ {R : List Chk}, recheck ρ H R → recheck ρ (H.upd b ob) R
  | [], _ => trivial
  | (_, _, _) :: _, hr => ⟨fun hg => rev_alloc hb (hr.1 hg), recheck_alloc hb hr.2⟩

/-- The value of an operation that leaves memory alone. -/
def val (ρ : Env) (H : Heap) (o : AOp) : Option AV :=
  match o.cls with
  | .pure => pev ρ o
  | .read => rev ρ H o
  | _ => none

theorem aop_val {P : Program} {KP : AV → Heap → Prop} {o : AOp} {ρ : Env} {H : Heap} {K : AV → Heap → Prop} (hc : o.cls = .pure ∨ o.cls = .read) : aop P KP o ρ H K ↔ ∃ v, val ρ H o = some v ∧ K v H := by
  unfold aop val
  rcases hc with hc | hc <;> simp only [hc]
  · cases pev ρ o <;> simp
  · cases rev ρ H o <;> simp

def entry (x : AItem) : List Chk :=
  match x.dst with
  | some d => [(d, x.guard, x.op)]
  | none => []

/-- What must be checked again behind i if x is read ahead of it. -/
def need (x i : AItem) : List Chk := if x.op.cls = .read ∧ i.op.cls = .eff then entry x else []

theorem recheck_append {ρ : Env} {H : Heap} : ∀ {A B : List Chk}, recheck ρ H (A ++ B) → recheck ρ H B
  | [], _, h => h
  | (_, _, _) :: _, _, h => recheck_append h.2

theorem Scarce.upd {H : Heap} (h : Scarce H) (b : Nat) (o : AObj) : Scarce (H.upd b o) := by
  obtain ⟨n, h⟩ := h
  refine ⟨n, fun c hc => ?_⟩
  unfold Heap.upd
  split
  · simp
  · exact h c hc

theorem Scarce.of_upd {H : Heap} {b : Nat} {o : AObj} (h : Scarce (H.upd b o)) : Scarce H := by
  obtain ⟨n, h⟩ := h
  refine ⟨max n (b + 1), fun c hc => ?_⟩
  have := h c (by omega)
  have hne : c ≠ b := by omega
  simpa [Heap.upd, hne] using this

theorem swap {P : Program} {KP : AV → Heap → Prop} (hKP : Wide KP) {x i : AItem} {cx : List Chk} (hap : x.apart i = true) (hsw : canSwap x i = true) (hself : x.op.cls = .read → ∃ d, x.dst = some d ∧ d ∉ x.looks) (hchk : x.op.cls ≠ .eff → cx = [])
    (hchk2 : ∀ c ∈ cx, ∀ d, i.dst = some d → d ∉ chkSlots c) {R : List Chk} (hR : ∀ c ∈ R, ∀ d, x.dst = some d → d ∉ chkSlots c) (hRe : i.op.cls ≠ .eff → R = []) {ρ : Env} {H : Heap} {K : Env → Heap → Prop}
    (h : istepR P KP x cx ρ H (fun ρ1 H1 => istepR P KP i (need x i ++ R) ρ1 H1 K)) : istepR P KP i R ρ H (fun ρ2 H2 => istepR P KP x cx ρ2 H2 K) := by
  obtain ⟨a1, a2, a3⟩ := apart_spec hap
  have a1g : ∀ d, x.dst = some d → d ∉ gslots i.guard := fun d hd hm => a1 d hd (List.mem_append_left _ hm)
  have a1o : ∀ d, x.dst = some d → d ∉ i.op.looks := fun d hd hm => a1 d hd (List.mem_append_right _ hm)
  have a3g : ∀ d, i.dst = some d → d ∉ gslots x.guard := fun d hd hm => a3 d hd (List.mem_append_left _ hm)
  have a3o : ∀ d, i.dst = some d → d ∉ x.op.looks := fun d hd hm => a3 d hd (List.mem_append_right _ hm)
  have gi : ∀ c, gv i.guard (ρ.set x.dst c) = gv i.guard ρ := fun c => gv_congr (set_other a1g)
  have gx : ∀ c, gv x.guard (ρ.set i.dst c) = gv x.guard ρ := fun c => gv_congr (set_other a3g)
  have comm : ∀ c u, (ρ.set x.dst c).set i.dst u = (ρ.set i.dst u).set x.dst c := fun c u => set_comm ρ c u a2
  have oi : ∀ c H' (K' : AV → Heap → Prop), aop P KP i.op (ρ.set x.dst c) H' K' = aop P KP i.op ρ H' K' := fun c H' K' => aop_congr (set_other a1o)
  have Rback : ∀ c u H', recheck ((ρ.set x.dst c).set i.dst u) H' R → recheck (ρ.set i.dst u) H' R := fun c u H' hr => by
    rw [comm] at hr
    exact recheck_congr (fun e he n hn => set_other (fun d hd => hR e he d hd) n hn) hr
  unfold istepR at h
  cases hg : gv x.guard ρ with
  | none => simp [hg] at h
  | some b =>
    cases b with
    | false =>
      -- x is passed over
      simp only [hg] at h
      unfold istepR
      rw [gi] at h
      cases hgi : gv i.guard ρ with
      | none => simp [hgi] at h
      | some b =>
        cases b with
        | false =>
          simp only [hgi] at h ⊢
          rw [gx, hg]
          rw [comm] at h
          exact h
        | true =>
          simp only [hgi] at h ⊢
          rw [oi] at h
          refine aop_mono (fun v H' hh => ⟨?_, ?_⟩) h
          · exact Rback (.tup []) v H' (recheck_append hh.1)
          · rw [gx, hg]
            rw [comm] at hh
            exact hh.2
    | true =>
      simp only [hg] at h
      by_cases hcls : x.op.cls = .pure ∨ x.op.cls = .read
      · have hne : x.op.cls ≠ .eff := by rcases hcls with e | e <;> rw [e] <;> simp
        have hnil := hchk hne
        rw [hnil] at h
        rw [aop_val hcls] at h
        obtain ⟨v, hv, _, h⟩ := h
        unfold istepR
        rw [gi] at h
        -- x's value in the new order
        have hx : ∀ u H', (x.op.cls = .read → rev ρ H' x.op = some v) → K ((ρ.set i.dst u).set x.dst v) H' → istepR P KP x cx (ρ.set i.dst u) H' K := by
          intro u H' hr hk
          unfold istepR
          rw [gx, hg, hnil]
          simp only
          rw [aop_val hcls]
          refine ⟨v, ?_, trivial, hk⟩
          unfold val at hv ⊢
          rcases hcls with e | e <;> simp only [e] at hv ⊢
          · rw [pev_congr (set_other a3o)]; exact hv
          · rw [rev_congr (set_other a3o)]; exact hr e
        have hvr : x.op.cls = .read → rev ρ H x.op = some v := fun e => by simpa [val, e] using hv
        cases hgi : gv i.guard ρ with
        | none => simp [hgi] at h
        | some b =>
          cases b with
          | false =>
            simp only [hgi] at h ⊢
            rw [comm] at h
            exact hx _ _ hvr h
          | true =>
            simp only [hgi] at h ⊢
            rw [oi] at h
            by_cases hie : i.op.cls = .eff
            · refine aop_mono (fun u H' hh => ?_) h
              rcases hcls with e | e
              · have hn : need x i = [] := by simp [need, e]
                rw [hn] at hh
                refine ⟨Rback v u H' hh.1, hx u H' (fun e' => by rw [e] at e'; cases e') (by rw [← comm]; exact hh.2)⟩
              · obtain ⟨d, hd, hds⟩ := hself e
                have hn : need x i = [(d, x.guard, x.op)] := by simp [need, e, hie, entry, hd]
                rw [hn] at hh
                obtain ⟨⟨h1, h2⟩, h3⟩ := hh
                refine ⟨Rback v u H' h2, hx u H' (fun _ => ?_) (by rw [← comm]; exact h3)⟩
                have hgg : gv x.guard ((ρ.set x.dst v).set i.dst u) = some true := by
                  rw [← hg]
                  rw [comm]
                  rw [gv_congr (set_other (l := gslots x.guard) fun d' hd' hm => by rw [hd] at hd'; cases hd'; exact hds (List.mem_append_left _ hm))]
                  exact gx u
                have h4 := h1 hgg
                have e1 : ((ρ.set x.dst v).set i.dst u) d = v := by
                  rw [comm, hd]; simp [Env.set]
                rw [e1] at h4
                rw [comm] at h4
                rw [rev_congr (set_other (l := x.op.looks) fun d' hd' hm => by rw [hd] at hd'; cases hd'; exact hds (List.mem_append_right _ hm))] at h4
                rw [rev_congr (set_other a3o)] at h4
                exact h4
            · have hn : need x i = [] := by simp [need, hie]
              rw [hn] at h
              refine aop_mono_ne hie (fun u H' hH' hh => ⟨Rback v u H' hh.1, hx u H' (fun e => ?_) (by rw [← comm]; exact hh.2)⟩) h
              rcases hH' with rfl | ⟨b, ob, hb, rfl⟩
              · exact hvr e
              · exact rev_alloc hb (hvr e)
      · by_cases hal : x.op.cls = .alloc
        · -- two new objects
          have hia : i.op.cls = .alloc := by
            unfold canSwap at hsw
            cases hc2 : i.op.cls <;> simp_all
          have hgn : i.guard = none := by
            unfold canSwap at hsw
            simp only [hal, hia] at hsw
            simpa using hsw
          have hxe : x.op.cls ≠ .eff := by rw [hal]; simp
          have hie : i.op.cls ≠ .eff := by rw [hia]; simp
          have hnil := hchk hxe
          subst hnil
          have hRn := hRe hie
          subst hRn
          have hn : need x i = [] := by simp [need, hie]
          have gvn : ∀ ρ', gv i.guard ρ' = some true := fun ρ' => by rw [hgn]; rfl
          unfold istepR
          simp only [gvn]
          simp only [hn, List.append_nil, istepR, gvn] at h
          unfold aop at h
          simp only [hal, hia] at h
          have hxo : ∀ u, oev (ρ.set i.dst u) x.op = oev ρ x.op := fun u => oev_congr (set_other a3o)
          have hio : ∀ u, oev (ρ.set x.dst u) i.op = oev ρ i.op := fun u => oev_congr (set_other a1o)
          have hxp : ∀ u b, optr (ρ.set i.dst u) b x.op = optr ρ b x.op := fun u b => optr_congr (set_other a3o)
          have hip : ∀ u b, optr (ρ.set x.dst u) b i.op = optr ρ b i.op := fun u b => optr_congr (set_other a1o)
          simp only [hio, hip] at h
          unfold aop
          simp only [hal, hia, gx, hg, hxo, hxp]
          cases hox : oev ρ x.op with
          | none =>
            simp only [hox] at h ⊢
            cases hoi : oev ρ i.op with
            | none => exact h
            | some oi' => exact fun b hb => ⟨trivial, h.upd _ _⟩
          | some ox =>
            simp only [hox] at h ⊢
            cases hoi : oev ρ i.op with
            | none =>
              simp only [hoi] at h ⊢
              by_cases hf : ∃ b, H b = none
              · obtain ⟨b, hb⟩ := hf
                exact (h b hb).2.of_upd
              · exact ⟨0, fun b _ hb => hf ⟨b, hb⟩⟩
            | some oi' =>
              simp only [hoi] at h ⊢
              intro bi hbi
              refine ⟨trivial, fun bx hbx => ⟨trivial, ?_⟩⟩
              have hne : bx ≠ bi := fun e => by subst e; simp [Heap.upd] at hbx
              have hbx' : H bx = none := by simpa [Heap.upd, hne] using hbx
              have h2 := ((h bx hbx').2 bi (by simp [Heap.upd, Ne.symm hne, hbi])).2
              rw [comm, upd_comm H _ _ hne] at h2
              exact h2
        -- a change, and a new object
        have hxe : x.op.cls = .eff ∧ i.op.cls = .alloc := by
          unfold canSwap at hsw
          cases hc1 : x.op.cls <;> cases hc2 : i.op.cls <;> simp_all
        obtain ⟨hxe, hia⟩ := hxe
        have hn : need x i = [] := by simp [need, hxe]
        have hie : i.op.cls ≠ .eff := by rw [hia]; simp
        have hRn := hRe hie
        subst hRn
        have hgn : i.guard = none := by
          unfold canSwap at hsw
          simp only [hxe, hia, Bool.and_eq_true] at hsw
          simpa using hsw.1
        have hsome : ∃ ob, oev ρ i.op = some ob := by
          unfold canSwap at hsw
          simp only [hxe, hia, Bool.and_eq_true] at hsw
          have h2 := hsw.2
          cases hio : i.op <;> simp only [hio] at h2 <;> first | (cases h2; done) | exact ⟨_, rfl⟩
        obtain ⟨ob, hob⟩ := hsome
        have gvn : ∀ ρ', gv i.guard ρ' = some true := fun ρ' => by rw [hgn]; rfl
        unfold istepR
        simp only [gvn, hn, List.nil_append] at h ⊢
        unfold aop at h
        simp only [hxe, hia] at h
        unfold aop
        simp only [hia, hob]
        intro b hb
        refine ⟨trivial, ?_⟩
        rw [gx, hg]
        simp only [hxe]
        have h1 := eff_beside (o := ob) hb hKP h
        rw [eff_congr (ρ := ρ.set i.dst (optr ρ b i.op)) (set_other a3o)]
        refine eff_mono (fun v H' hh => ?_) h1
        obtain ⟨H0, hH0, rfl, hr, hk⟩ := hh
        have hob' : oev (ρ.set x.dst v) i.op = some ob := by rw [oev_congr (set_other a1o)]; exact hob
        simp only [hob'] at hk
        have hk2 := (hk b hH0).2
        rw [optr_congr (ρ := ρ.set x.dst v) (ρ' := ρ) (set_other a1o)] at hk2
        rw [← comm]
        exact ⟨recheck_congr (fun c hc n hn => (set_other (fun d hd => hchk2 c hc d hd) n hn).symm) (recheck_alloc hH0 hr), hk2⟩

end Go.Ab
