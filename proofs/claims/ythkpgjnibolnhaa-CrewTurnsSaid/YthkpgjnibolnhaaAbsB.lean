/- The abstract memory, what a call may change, and what a contract says. -/
import Derived.Test.YthkpgjnibolnhaaAbsA
import GoSem.PinnedTables
namespace Go.Ab

/-- When two keys of a map are the same: scalars, and structs or arrays of scalars. -/
def AV.keq1 : AV → AV → Bool
  | .bool a, .bool b => a == b
  | .int _ a, .int _ b => a == b
  | .str a, .str b => a == b
  | _, _ => false

def keqs : List AV → List AV → Bool
  | [], [] => true
  | a :: r, b :: s => a.keq1 b && keqs r s
  | _, _ => false

def AV.keq : AV → AV → Bool
  | .agg a, .agg b => keqs a b
  | a, b => a.keq1 b

/-- The types of a map's keys that are treated: scalars, and structs or arrays of scalars. -/
inductive K1 where
  | b | s
  | i (k : IntKind)
  deriving DecidableEq

inductive KT where
  | one (k : K1)
  | agg (ks : List K1)
  deriving DecidableEq

def K1.fits : K1 → AV → Bool
  | .b, .bool _ => true
  | .s, .str _ => true
  | .i k, .int k' _ => decide (k = k')
  | _, _ => false

def fitsAll : List K1 → List AV → Bool
  | [], [] => true
  | k :: ks, c :: cs => k.fits c && fitsAll ks cs
  | _, _ => false

def KT.fits : KT → AV → Bool
  | .one k, c => k.fits c
  | .agg ks, .agg cs => fitsAll ks cs
  | _, _ => false

inductive AObj where
  | cells (cs : List AV)
  | tip (n sz : Nat)
  | map (kt : KT) (es : List (AV × AV))

abbrev Heap := Nat → Option AObj

def Heap.emp : Heap := fun _ => none
def Heap.upd (H : Heap) (b : Nat) (o : AObj) : Heap := fun c => if c = b then some o else H c
def Heap.del (H : Heap) (b : Nat) : Heap := fun c => if c = b then none else H c
def Heap.one (b : Nat) (o : AObj) : Heap := fun c => if c = b then some o else none
def Heap.union (A B : Heap) : Heap := fun c => (A c).or (B c)
def Heap.Disj (A B : Heap) : Prop := ∀ c, A c = none ∨ B c = none

/-- A key as the value that it is. -/
def AV.conc1 : AV → Option Value
  | .bool b => some (.bool b)
  | .int k n => some (.int k n)
  | .str s => some (.string ⟨s.toArray⟩)
  | _ => none

def concs : List AV → Option (List Value)
  | [] => some []
  | c :: r => match c.conc1, concs r with
    | some v, some vs => some (v :: vs)
    | _, _ => none

def AV.conc : AV → Option Value
  | .agg cs => (concs cs).map fun vs => .agg vs.toArray
  | c => c.conc1

structure EntryRel (γ : Gh) (w : World) (x : AV × AV) (e : MapEntry) : Prop where
  key : x.1.conc = some e.key
  val : Rep γ w x.2 e.val

inductive ObjRel (γ : Gh) (w : World) (b : Nat) : AObj → Prop
  | cells (cs : List AV) (vs : List Value) (E : TypeId) (hk : γ b = .own) (hb : w.heap[b]? = some (.cells vs.toArray E (0, 0))) (hl : cs.length = vs.length)
      (h1 : ∀ (i : Nat) (v : Value), vs[i]? = some v → v.oneCell' = true)
      (hr : ∀ (i : Nat) (c : AV) (v : Value), cs[i]? = some c → vs[i]? = some v → Rep γ w c v) : ObjRel γ w b (.cells cs)
  | tip (n sz : Nat) (arr : Array Value) (E : TypeId) (hk : γ b = .buf (n * sz)) (hb : w.heap[b]? = some (.cells arr E (0, 0))) (hl : n * sz ≤ arr.size) : ObjRel γ w b (.tip n sz)
  | map (kt : KT) (es : List (AV × AV)) (cs : List MapEntry) (clock : Nat) (hf : ∀ x ∈ es, kt.fits x.1 = true) (hk : γ b = .own) (hb : w.heap[b]? = some (.map cs.toArray clock)) (hl : es.length = cs.length)
      (hr : ∀ (i : Nat) (x : AV × AV) (e : MapEntry), es[i]? = some x → cs[i]? = some e → EntryRel γ w x e) : ObjRel γ w b (.map kt es)

def StateRel (γ : Gh) (w : World) (H : Heap) : Prop := ∀ b o, H b = some o → ObjRel γ w b o

theorem ObjRel.lt {γ : Gh} {w : World} {b : Nat} {o : AObj} (h : ObjRel γ w b o) : b < w.heap.size := by
  cases h with
  | cells cs vs E hk hb hl h1 hr => exact (Array.getElem?_eq_some_iff.1 hb).1
  | tip n sz arr E hk hb hl => exact (Array.getElem?_eq_some_iff.1 hb).1
  | map kt es cs clock hf hk hb hl hr => exact (Array.getElem?_eq_some_iff.1 hb).1

/-- What was there turns at the blocks of F alone, and there only behind what is kept. -/
structure Ext (F : Nat → Prop) (γ : Gh) (w : World) (γ' : Gh) (w' : World) : Prop where
  mono : Mono γ w γ' w'
  os : w'.os = w.os
  output : w'.output = w.output
  frozen : ∀ a, a.block < w.heap.size → w'.frozen? a = w.frozen? a
  frame : ∀ b, b < w.heap.size → ¬ F b → γ' b = γ b ∧ w'.heap[b]? = w.heap[b]?

theorem Ext.refl (F : Nat → Prop) (γ : Gh) (w : World) : Ext F γ w γ w := ⟨.refl γ w, rfl, rfl, fun _ _ => rfl, fun _ _ _ => ⟨rfl, rfl⟩⟩

theorem Ext.trans {F F' : Nat → Prop} {γ γ' γ'' : Gh} {w w' w'' : World} (h : Ext F γ w γ' w') (h' : Ext F' γ' w' γ'' w'') (hF : ∀ b, b < w.heap.size → F' b → F b) : Ext F γ w γ'' w'' :=
  ⟨h.mono.trans h'.mono, h'.os.trans h.os, h'.output.trans h.output, fun a ha => (h'.frozen a (Nat.lt_of_lt_of_le ha h.mono.size)).trans (h.frozen a ha),
   fun b hb hn => let ⟨g1, e1⟩ := h.frame b hb hn; let ⟨g2, e2⟩ := h'.frame b (Nat.lt_of_lt_of_le hb h.mono.size) (fun f => hn (hF b hb f)); ⟨g2.trans g1, e2.trans e1⟩⟩

theorem Ext.weaken {F F' : Nat → Prop} {γ γ' : Gh} {w w' : World} (h : Ext F γ w γ' w') (hF : ∀ b, F b → F' b) : Ext F' γ w γ' w' :=
  ⟨h.mono, h.os, h.output, h.frozen, fun b hb hn => h.frame b hb (fun f => hn (hF b f))⟩

theorem EntryRel.mono {γ γ' : Gh} {w w' : World} (m : Mono γ w γ' w') {x : AV × AV} {e : MapEntry} (h : EntryRel γ w x e) : EntryRel γ' w' x e := ⟨h.key, h.val.mono m⟩

theorem ObjRel.kept {γ γ' : Gh} {w w' : World} {b : Nat} {o : AObj} (m : Mono γ w γ' w') (h : ObjRel γ w b o) (hg : γ' b = γ b) (hb' : w'.heap[b]? = w.heap[b]?) : ObjRel γ' w' b o := by
  cases h with
  | cells cs vs E hk hb hl h1 hr => exact .cells cs vs E (hg.trans hk) (hb'.trans hb) hl h1 fun i c v hc hv => (hr i c v hc hv).mono m
  | tip n sz arr E hk hb hl => exact .tip n sz arr E (hg.trans hk) (hb'.trans hb) hl
  | map kt es cs clock hf hk hb hl hr => exact .map kt es cs clock hf (hg.trans hk) (hb'.trans hb) hl fun i x e hx he => (hr i x e hx he).mono m

/-- Blocks that a step leaves alone keep their objects. -/
theorem StateRel.kept {F : Nat → Prop} {γ γ' : Gh} {w w' : World} {H : Heap} (e : Ext F γ w γ' w') (h : StateRel γ w H) (hF : ∀ b o, H b = some o → ¬ F b) : StateRel γ' w' H :=
  fun b o hb => let ho := h b o hb; let ⟨g, k⟩ := e.frame b ho.lt (hF b o hb); ho.kept e.mono g k

inductive AEnd where
  | ret (v : AV)
  | pan (v : AV)

def EndRel (γ : Gh) (w : World) : Ending → AEnd → Prop
  | .returned v, .ret c => Rep γ w c v
  | .panicked ch, .pan c => ∃ v, ch = [{ v, recovered := false }] ∧ Rep γ w c v
  | _, _ => False

def RepAll (γ : Gh) (w : World) (cs : List AV) (vs : List Value) : Prop :=
  cs.length = vs.length ∧ ∀ (i : Nat) (c : AV) (v : Value), cs[i]? = some c → vs[i]? = some v → Rep γ w c v

theorem RepAll.mono {γ γ' : Gh} {w w' : World} (m : Mono γ w γ' w') {cs : List AV} {vs : List Value} (h : RepAll γ w cs vs) : RepAll γ' w' cs vs :=
  ⟨h.1, fun i c v hc hv => (h.2 i c v hc hv).mono m⟩

theorem RepAll.nil {γ : Gh} {w : World} : RepAll γ w [] [] := ⟨rfl, fun i c v h => by simp at h⟩

theorem RepAll.cons {γ : Gh} {w : World} {c : AV} {v : Value} {cs : List AV} {vs : List Value} (h : Rep γ w c v) (hs : RepAll γ w cs vs) : RepAll γ w (c :: cs) (v :: vs) :=
  ⟨by simp [hs.1], fun i d u hd hu => by
    cases i with
    | zero => simp only [List.getElem?_cons_zero, Option.some.injEq] at hd hu; subst hd; subst hu; exact h
    | succ i => simp only [List.getElem?_cons_succ] at hd hu; exact hs.2 i d u hd hu⟩

theorem RepAll.append {γ : Gh} {w : World} {cs ds : List AV} {vs us : List Value} (h : RepAll γ w cs vs) (h' : RepAll γ w ds us) : RepAll γ w (cs ++ ds) (vs ++ us) :=
  ⟨by simp [h.1, h'.1], fun i d u hd hu => by
    rcases Nat.lt_or_ge i cs.length with hi | hi
    · rw [List.getElem?_append_left hi] at hd
      rw [List.getElem?_append_left (by rw [← h.1]; exact hi)] at hu
      exact h.2 i d u hd hu
    · rw [List.getElem?_append_right hi] at hd
      rw [List.getElem?_append_right (by rw [← h.1]; exact hi), ← h.1] at hu
      exact h'.2 _ d u hd hu⟩

/-- The variables of the program that are read and never written: each block, and what is known of its cells. -/
def tabL : List (Nat × List (Value → Prop)) := []

def TabOk (γ : Gh) (w : World) : Prop := ∀ x ∈ tabL, (∃ (arr : Array Value) (E : TypeId) (fr : Nat × Nat), w.heap[x.1]? = some (.cells arr E fr) ∧ arr.size = x.2.length) ∧
  ∀ (j : Nat) (p : Value → Prop), x.2[j]? = some p → ∃ v, CellIs γ w x.1 j v ∧ p v

theorem TabOk.mono {γ γ' : Gh} {w w' : World} (m : Mono γ w γ' w') (h : TabOk γ w) : TabOk γ' w' := fun x hx =>
  ⟨let ⟨arr, E, fr, h1, h2⟩ := (h x hx).1; let ⟨arr', h3, h4⟩ := m.shape _ arr E fr h1; ⟨arr', E, fr, h3, h4.trans h2⟩,
   fun j p hp => let ⟨v, h1, h2⟩ := (h x hx).2 j p hp; ⟨v, h1.mono m, h2⟩⟩

/-- THE CONTRACT: called with what stands for 'args' over a memory that holds at least 'H' (and touching nothing else), the function ends as Q says. -/
def ACalls (P : Program) (f : FuncId) (args : List AV) (H : Heap) (Q : AEnd → Heap → Prop) : Prop :=
  ∀ (γ : Gh) (w : World) (vs : List Value), TabOk γ w → StateRel γ w H → RepAll γ w args vs →
    Calls P f vs.toArray w fun e w' => ∃ γ' H' r, Ext (fun b => (H b).isSome = true) γ w γ' w' ∧ StateRel γ' w' H' ∧
      (∀ b, (H' b).isSome = true → (H b).isSome = true ∨ w.heap.size ≤ b) ∧ EndRel γ' w' e r ∧ Q r H'

theorem ACalls.mono {P : Program} {f : FuncId} {args : List AV} {H : Heap} {Q Q' : AEnd → Heap → Prop} (h : ACalls P f args H Q) (hq : ∀ r H', Q r H' → Q' r H') : ACalls P f args H Q' :=
  fun γ w vs ht hs hv => (h γ w vs ht hs hv).mono fun _ _ ⟨γ', H', r, a, b, c, d, e⟩ => ⟨γ', H', r, a, b, c, d, hq _ _ e⟩

theorem Heap.union_some {A B : Heap} {b : Nat} {o : AObj} (h : Heap.union A B b = some o) : A b = some o ∨ (A b = none ∧ B b = some o) := by
  unfold Heap.union at h
  cases ha : A b with
  | none => right; simpa [ha] using h
  | some x => left; simpa [ha] using h

theorem StateRel.sub {γ : Gh} {w : World} {H H' : Heap} (h : StateRel γ w H) (hs : ∀ b o, H' b = some o → H b = some o) : StateRel γ w H' :=
  fun b o hb => h b o (hs b o hb)

/-- THE FRAME. -/
theorem ACalls.frame {P : Program} {f : FuncId} {args : List AV} {A B : Heap} {Q : AEnd → Heap → Prop} (hd : Heap.Disj A B) (h : ACalls P f args A Q) :
    ACalls P f args (Heap.union A B) fun r H' => ∃ A', Q r A' ∧ Heap.Disj A' B ∧ H' = Heap.union A' B := by
  intro γ w vs ht hs hv
  have hA : StateRel γ w A := hs.sub fun b o hb => by simp [Heap.union, hb]
  have hB : StateRel γ w B := hs.sub fun b o hb => by
    rcases hd b with h | h
    · simp [Heap.union, h, hb]
    · rw [h] at hb; cases hb
  refine (h γ w vs ht hA hv).mono fun e w' ⟨γ', A', r, hext, hst, hkeys, hend, hq⟩ => ?_
  have hdis : Heap.Disj A' B := fun c => by
    cases hc : A' c with
    | none => exact .inl rfl
    | some x =>
      right
      rcases hkeys c (by simp [hc]) with h1 | h1
      · rcases hd c with h2 | h2
        · simp [h2] at h1
        · exact h2
      · cases hb : B c with
        | none => rfl
        | some y => have := (hB c y hb).lt; omega
  have hB' : StateRel γ' w' B := hB.kept hext fun b o hb hf => by
    rcases hd b with h1 | h1
    · simp [h1] at hf
    · rw [h1] at hb; cases hb
  refine ⟨γ', Heap.union A' B, r, hext.weaken fun b hb => ?_, fun b o hb => ?_, fun b hb => ?_, hend, A', hq, hdis, rfl⟩
  · cases ha : A b with
    | none => simp [ha] at hb
    | some x => simp [Heap.union, ha]
  · rcases Heap.union_some hb with h1 | ⟨_, h1⟩
    · exact hst b o h1
    · exact hB' b o h1
  · cases ha : A' b with
    | some x =>
      rcases hkeys b (by simp [ha]) with h1 | h1
      · left
        cases hab : A b with
        | none => simp [hab] at h1
        | some y => simp [Heap.union, hab]
      · exact .inr h1
    | none =>
      simp only [Heap.union, ha, Option.none_or] at hb
      left
      cases hab : A b with
      | some y => simp [Heap.union, hab]
      | none => simp [Heap.union, hab, hb]

end Go.Ab
