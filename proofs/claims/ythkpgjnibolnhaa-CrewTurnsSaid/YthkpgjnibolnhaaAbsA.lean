/- The abstract values, what they stand for in memory, and that this is kept while memory grows. -/
import Derived.Calls
import Derived.Orders
import Derived.WalkKit
namespace Go.Ab

inductive Own where
  | no | nil | full
  | tip (b d : Nat)
  deriving DecidableEq

inductive AV where
  | any
  | bool (b : Bool)
  | ubool (p : Prop)
  | int (k : IntKind) (n : Int)
  | str (s : List UInt8)
  | agg (cs : List AV)
  | tup (vs : List AV)
  | sl (o : Own) (sz : Nat) (xs : List (List AV))
  | slx (sz : Nat) (xs ys : List (List AV))
  | nilp
  | ptr (b off : Nat)
  | view (cs : List AV)
  | ms (b off len cap : Nat)
  | nilm
  | mp (b : Nat)
  | clo (f : FuncId) (first caps : List AV)
  | oth (v : Value)
  | ifc (t : TypeId) (x : AV)

inductive BK where
  | imm | own
  | buf (e : Nat)

abbrev Gh := Nat → BK

def Prot (γ : Gh) (b o : Nat) : Prop :=
  match γ b with
  | .imm => True
  | .own => False
  | .buf e => o < e

def OwnOk (w : World) (o : Own) (a : Addr) (n cap sz : Nat) : Prop :=
  match o with
  | .no => True
  | .nil => False
  | .full => n = cap
  | .tip b d => cap = 0 ∨ (a = ⟨b, d * sz, none⟩ ∧ ∃ arr E, w.heap[b]? = some (.cells arr E (0, 0)) ∧ arr.size = (d + cap) * sz)

/-- The cell at an address: what it holds, that it is kept, that it is one cell. -/
def CellIs (γ : Gh) (w : World) (b o : Nat) (v : Value) : Prop :=
  w.cell? ⟨b, o, none⟩ = some v ∧ Prot γ b o ∧ v.oneCell' = true

inductive Rep (γ : Gh) (w : World) : AV → Value → Prop
  | any (v) : Rep γ w .any v
  | bool (b) : Rep γ w (.bool b) (.bool b)
  | ubool (p : Prop) (b : Bool) (h : b = true → p) : Rep γ w (.ubool p) (.bool b)
  | int (k n) : Rep γ w (.int k n) (.int k n)
  | str (s : List UInt8) : Rep γ w (.str s) (.string ⟨s.toArray⟩)
  | agg (cs : List AV) (vs : List Value) (hl : cs.length = vs.length) (h1 : ∀ (i : Nat) (v : Value), vs[i]? = some v → v.oneCell' = true)
      (h : ∀ (i : Nat) (c : AV) (v : Value), cs[i]? = some c → vs[i]? = some v → Rep γ w c v) : Rep γ w (.agg cs) (.agg vs.toArray)
  | tup (cs : List AV) (vs : List Value) (hl : cs.length = vs.length) (h : ∀ (i : Nat) (c : AV) (v : Value), cs[i]? = some c → vs[i]? = some v → Rep γ w c v) : Rep γ w (.tup cs) (.tuple vs.toArray)
  | slnil (o : Own) (sz : Nat) (ho : ∀ b d, o ≠ .tip b d) : Rep γ w (.sl o sz []) (.slice none 0 0)
  | sl0 (o : Own) (sz : Nat) (a : Addr) (ho : o = .no ∨ o = .full) : Rep γ w (.sl o sz []) (.slice (some a) 0 0)
  | sl (o : Own) (sz : Nat) (xs : List (List AV)) (b off cap : Nat) (cv : Nat → Nat → Value) (hc : xs.length ≤ cap) (hm : cap ≤ maxLen)
      (hu : ∀ x ∈ xs, x.length = sz)
      (hcell : ∀ (i : Nat) (x : List AV), xs[i]? = some x → ∀ j, j < sz → CellIs γ w b (off + (i * sz + j)) (cv i j))
      (hr : ∀ (i : Nat) (x : List AV), xs[i]? = some x → ∀ (j : Nat) (c : AV), x[j]? = some c → Rep γ w c (cv i j))
      (ho : OwnOk w o ⟨b, off, none⟩ xs.length cap sz) : Rep γ w (.sl o sz xs) (.slice (some ⟨b, off, none⟩) xs.length cap)
  | slx (sz : Nat) (xs ys : List (List AV)) (ad : Option Addr) (cap : Nat) (h : Rep γ w (.sl .no sz (xs ++ ys)) (.slice ad (xs.length + ys.length) cap)) : Rep γ w (.slx sz xs ys) (.slice ad xs.length cap)
  | nilp : Rep γ w .nilp (.pointer none)
  | ptr (b off : Nat) (hlt : b < w.heap.size) : Rep γ w (.ptr b off) (.pointer (some ⟨b, off, none⟩))
  | view (cs : List AV) (b off : Nat) (cv : Nat → Value) (hcell : ∀ j, j < cs.length → CellIs γ w b (off + j) (cv j))
      (hr : ∀ (j : Nat) (c : AV), cs[j]? = some c → Rep γ w c (cv j)) : Rep γ w (.view cs) (.pointer (some ⟨b, off, none⟩))
  | ms (b off len cap : Nat) (hlt : b < w.heap.size) (hc : len ≤ cap) (hm : cap ≤ maxLen) : Rep γ w (.ms b off len cap) (.slice (some ⟨b, off, none⟩) len cap)
  | nilm : Rep γ w .nilm (.map none)
  | mp (b : Nat) (hlt : b < w.heap.size) : Rep γ w (.mp b) (.map (some b))
  | clo (f : FuncId) (first caps : List AV) (vs us : List Value) (hl : first.length = vs.length) (hl' : caps.length = us.length)
      (h : ∀ (i : Nat) (c : AV) (v : Value), first[i]? = some c → vs[i]? = some v → Rep γ w c v) (h' : ∀ (i : Nat) (c : AV) (v : Value), caps[i]? = some c → us[i]? = some v → Rep γ w c v) :
      Rep γ w (.clo f first caps) (.func (.func f) vs.toArray us.toArray)
  | oth (v) : Rep γ w (.oth v) v
  | ifc (t : TypeId) (x : AV) (v : Value) (h : Rep γ w x v) : Rep γ w (.ifc t x) (.iface t v)

/-- Memory has grown: what was kept is kept. -/
structure Mono (γ : Gh) (w : World) (γ' : Gh) (w' : World) : Prop where
  size : w.heap.size ≤ w'.heap.size
  cell : ∀ b o v, w.cell? ⟨b, o, none⟩ = some v → Prot γ b o → Prot γ' b o ∧ w'.cell? ⟨b, o, none⟩ = some v
  shape : ∀ (b : Nat) (arr : Array Value) (E : TypeId) (fr : Nat × Nat), w.heap[b]? = some (.cells arr E fr) → ∃ arr' : Array Value, w'.heap[b]? = some (.cells arr' E fr) ∧ arr'.size = arr.size

theorem Mono.refl (γ : Gh) (w : World) : Mono γ w γ w := ⟨Nat.le_refl _, fun _ _ _ h p => ⟨p, h⟩, fun _ arr _ _ h => ⟨arr, h, rfl⟩⟩

theorem Mono.trans {γ γ' γ'' : Gh} {w w' w'' : World} (h : Mono γ w γ' w') (h' : Mono γ' w' γ'' w'') : Mono γ w γ'' w'' :=
  ⟨Nat.le_trans h.size h'.size, fun b o v hc hp => let ⟨p, c⟩ := h.cell b o v hc hp; h'.cell b o v c p,
   fun b arr E fr hb => let ⟨a1, h1, s1⟩ := h.shape b arr E fr hb; let ⟨a2, h2, s2⟩ := h'.shape b a1 E fr h1; ⟨a2, h2, s2.trans s1⟩⟩

theorem CellIs.mono {γ γ' : Gh} {w w' : World} (m : Mono γ w γ' w') {b o : Nat} {v : Value} (h : CellIs γ w b o v) : CellIs γ' w' b o v :=
  let ⟨p, c⟩ := m.cell b o v h.1 h.2.1
  ⟨c, p, h.2.2⟩

theorem OwnOk.mono {γ γ' : Gh} {w w' : World} (m : Mono γ w γ' w') {o : Own} {a : Addr} {n cap sz : Nat} (h : OwnOk w o a n cap sz) : OwnOk w' o a n cap sz := by
  cases o with
  | no => trivial
  | nil => exact h
  | full => exact h
  | tip b d =>
    rcases h with h | ⟨ha, arr, E, hb, hs⟩
    · exact .inl h
    obtain ⟨arr', hb', hs'⟩ := m.shape b arr E _ hb
    exact .inr ⟨ha, arr', E, hb', hs'.trans hs⟩

theorem Rep.mono {γ γ' : Gh} {w w' : World} (m : Mono γ w γ' w') {c : AV} {v : Value} (h : Rep γ w c v) : Rep γ' w' c v := by
  induction h with
  | any v => exact .any v
  | bool b => exact .bool b
  | ubool p b h => exact .ubool p b h
  | int k n => exact .int k n
  | str s => exact .str s
  | agg cs vs hl h1 h ih => exact .agg cs vs hl h1 ih
  | tup cs vs hl h ih => exact .tup cs vs hl ih
  | slnil o sz ho => exact .slnil o sz ho
  | sl0 o sz a ho => exact .sl0 o sz a ho
  | sl o sz xs b off cap cv hc hm hu hcell hr ho ih =>
    exact .sl o sz xs b off cap cv hc hm hu (fun i x hx j hj => (hcell i x hx j hj).mono m) ih (ho.mono m)
  | slx sz xs ys ad cap h ih => exact .slx sz xs ys ad cap ih
  | nilp => exact .nilp
  | ptr b off hlt => exact .ptr b off (Nat.lt_of_lt_of_le hlt m.size)
  | view cs b off cv hcell hr ih => exact .view cs b off cv (fun j hj => (hcell j hj).mono m) ih
  | ms b off len cap hlt hc hm => exact .ms b off len cap (Nat.lt_of_lt_of_le hlt m.size) hc hm
  | nilm => exact .nilm
  | mp b hlt => exact .mp b (Nat.lt_of_lt_of_le hlt m.size)
  | clo f first caps vs us hl hl' h h' ih ih' => exact .clo f first caps vs us hl hl' ih ih'
  | oth v => exact .oth v
  | ifc t x v h ih => exact .ifc t x v ih

def AV.cells : AV → List AV
  | .agg cs => cs
  | x => [x]

def AV.one : AV → Bool
  | .agg _ | .tup _ | .any => false
  | .oth v => v.oneCell'
  | _ => true

theorem Rep.oneCell {γ : Gh} {w : World} {c : AV} {v : Value} (h : Rep γ w c v) (h1 : c.one = true) : v.oneCell' = true := by
  cases h <;> first | rfl | (simp [AV.one] at h1; done) | (simpa [AV.one] using h1)

def AV.boxable : AV → Bool
  | .agg _ => true
  | c => c.one

theorem Rep.cells {γ : Gh} {w : World} {c : AV} {v : Value} (h : Rep γ w c v) (hb : c.boxable = true) :
    c.cells.length = v.cells.toList.length ∧ (∀ (i : Nat) (u : Value), v.cells.toList[i]? = some u → u.oneCell' = true) ∧
    ∀ (i : Nat) (d : AV) (u : Value), c.cells[i]? = some d → v.cells.toList[i]? = some u → Rep γ w d u := by
  cases c with
  | agg cs =>
    cases h with
    | agg _ vs hl h1 hr => exact ⟨by simpa [AV.cells, Value.cells] using hl, by simpa [Value.cells] using h1, by simpa [AV.cells, Value.cells] using hr⟩
  | any => simp [AV.boxable, AV.one] at hb
  | tup vs => simp [AV.boxable, AV.one] at hb
  | _ =>
    have h1 := h.oneCell (by simpa [AV.boxable] using hb)
    have hc : v.cells = #[v] := by cases v <;> first | rfl | (simp [Value.oneCell'] at h1; done)
    rw [hc]
    refine ⟨rfl, fun i u hu => ?_, fun i d u hd hu => ?_⟩
    · cases i with
      | zero => simp at hu; subst hu; exact h1
      | succ i => simp at hu
    · cases i with
      | zero => simp [AV.cells] at hd hu; subst hd; subst hu; exact h
      | succ i => simp at hu

/-- Ownership let go. -/
def AV.strip1 : AV → AV
  | .sl _ sz xs => .sl .no sz xs
  | .slx sz xs _ => .sl .no sz xs
  | x => x

def AV.strip : AV → AV
  | .agg cs => .agg (cs.map AV.strip1)
  | .tup vs => .tup (vs.map fun | .agg cs => .agg (cs.map AV.strip1) | x => x.strip1)
  | x => x.strip1

/-- The front of a slice, its room as it was. -/
theorem Rep.front {γ : Gh} {w : World} {sz : Nat} {xs zs : List (List AV)} {ad : Option Addr} {n cap : Nat} (h : Rep γ w (.sl .no sz zs) (.slice ad n cap)) (hx : ∃ ys, zs = xs ++ ys) : Rep γ w (.sl .no sz xs) (.slice ad xs.length cap) := by
  obtain ⟨ys, rfl⟩ := hx
  generalize hz : xs ++ ys = zs at h
  cases h with
  | slnil _ _ ho =>
    obtain ⟨rfl, _⟩ := List.append_eq_nil_iff.1 hz
    exact .slnil _ _ ho
  | sl0 _ _ a ho =>
    obtain ⟨rfl, _⟩ := List.append_eq_nil_iff.1 hz
    exact .sl0 _ _ a ho
  | sl _ _ _ b off cap cv hc hm hu hcell hr ho =>
    subst hz
    have hg : ∀ (i : Nat) x, xs[i]? = some x → (xs ++ ys)[i]? = some x := fun i x hx => by
      rw [List.getElem?_append_left (List.getElem?_eq_some_iff.1 hx).1]; exact hx
    simp only [List.length_append] at hc
    exact .sl .no sz xs b off cap cv (by omega) hm (fun x hx => hu x (List.mem_append_left _ hx)) (fun i x hx => hcell i x (hg i x hx)) (fun i x hx => hr i x (hg i x hx)) trivial

theorem Rep.strip1 {γ : Gh} {w : World} {c : AV} {v : Value} (h : Rep γ w c v) : Rep γ w c.strip1 v := by
  cases h with
  | slnil o sz ho => exact .slnil .no sz (by simp)
  | sl0 o sz a ho => exact .sl0 .no sz a (.inl rfl)
  | sl o sz xs b off cap cv hc hm hu hcell hr ho => exact .sl .no sz xs b off cap cv hc hm hu hcell hr trivial
  | slx sz xs ys ad cap h => exact h.front ⟨ys, rfl⟩
  | any v => exact .any v
  | bool b => exact .bool b
  | ubool p b h => exact .ubool p b h
  | int k n => exact .int k n
  | str s => exact .str s
  | agg cs vs hl h1 h => exact .agg cs vs hl h1 h
  | tup cs vs hl h => exact .tup cs vs hl h
  | nilp => exact .nilp
  | ptr b off hlt => exact .ptr b off hlt
  | view cs b off cv hcell hr => exact .view cs b off cv hcell hr
  | ms b off len cap hlt hc hm => exact .ms b off len cap hlt hc hm
  | nilm => exact .nilm
  | mp b hlt => exact .mp b hlt
  | clo f first caps vs us hl hl' h h' => exact .clo f first caps vs us hl hl' h h'
  | oth v => exact .oth v
  | ifc t x v h => exact .ifc t x v h

theorem Rep.stripAgg {γ : Gh} {w : World} {cs : List AV} {v : Value} (h : Rep γ w (.agg cs) v) : Rep γ w (.agg (cs.map AV.strip1)) v := by
  cases h with
  | agg _ vs hl h1 h =>
    refine .agg _ vs (by simpa using hl) h1 fun i c v hc hv => ?_
    rw [List.getElem?_map] at hc
    cases hx : cs[i]? with
    | none => simp [hx] at hc
    | some x => simp only [hx, Option.map_some, Option.some.injEq] at hc; subst hc; exact (h i x v hx hv).strip1

theorem Rep.strip {γ : Gh} {w : World} {c : AV} {v : Value} (h : Rep γ w c v) : Rep γ w c.strip v := by
  cases c with
  | agg cs => exact h.stripAgg
  | tup cs =>
    cases h with
    | tup _ vs hl h =>
      refine .tup _ vs (by simpa using hl) fun i c v hc hv => ?_
      rw [List.getElem?_map] at hc
      cases hx : cs[i]? with
      | none => simp [hx] at hc
      | some x =>
        simp only [hx, Option.map_some, Option.some.injEq] at hc
        subst hc
        have hr := h i x v hx hv
        cases x with
        | agg cs => exact hr.stripAgg
        | _ => exact hr.strip1
  | _ => exact h.strip1

end Go.Ab
