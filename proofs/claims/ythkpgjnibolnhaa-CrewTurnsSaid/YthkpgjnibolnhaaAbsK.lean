/- Code and functions. -/
import Derived.Test.YthkpgjnibolnhaaAbsJ
import Derived.RangeFuncSeq
import Derived.Below
set_option linter.unusedSimpArgs false
set_option linter.unusedVariables false
namespace Go.Ab

def chkOf (items : List AItem) (l : List Nat) : List Chk := l.flatMap fun k => match items[k]? with | some x => entry x | none => []

def annot (items : List AItem) : List (AItem × List Chk) := items.map fun it => (it, chkOf items it.chk)

/-! ### the check of a statement whose order is open -/

/-- (our place, the program's number, the operation) -/
abbrev Row := Nat × Nat × AItem

def rowsFrom : Nat → List Nat → List AItem → List Row
  | k, i :: c, it :: its => (k, i, it) :: rowsFrom (k + 1) c its
  | _, _, _ => []

def placed (items : List AItem) (r : Row) : Placed := (r.2.1, r.2.2, chkOf items r.2.2.chk)

def safeB (ops : Array Oper) (pre : List (List Nat)) (items : List AItem) (r : List Row) (x : Row) : Bool :=
  (r.all fun i => (pre.getD i.2.1 []).contains x.2.1 ||
    (pairB (placed items x).2 (placed items i).2 && ((need x.2.2 i.2.2).isEmpty || (i.2.2.chk.contains x.1 && r.all fun y => match y.2.2.dst with | some d => x.2.2.dst != some d && !x.2.2.looks.contains d | none => true)))) &&
  (match ops[x.2.1]? with | some o => o.after.all fun e => !Region.binds .any e || (decide (e.on < ops.size) && e.on != x.2.1 && r.all fun y => y.2.1 != e.on) | none => false) &&
  (r.all fun y => y.2.1 != x.2.1)

def pokB (ops : Array Oper) (pre : List (List Nat)) (items : List AItem) : List Row → Bool
  | [] => true
  | x :: r => safeB ops pre items r x && pokB ops pre items r

def preOf (ops : Array Oper) : List (List Nat) :=
  ops.toList.foldl (fun acc o => acc ++ [((o.after.toList.filter (Region.binds .any)).flatMap fun e => e.on :: acc.getD e.on []).eraseDups]) []

def preB (ops : Array Oper) (pre : List (List Nat)) : Bool :=
  (List.range ops.size).all fun i => (pre.getD i []).all fun k => match ops[i]? with
    | some o => o.after.any fun e => Region.binds .any e && (e.on == k || (pre.getD e.on []).contains k)
    | none => true

def chkDraw (P : Program) (N lo : Nat) (ops : Array Oper) (c : List Nat) (items : List AItem) : Bool :=
  let rows := rowsFrom 0 c items
  P.follows .mixedOrders && decide (c.length = items.length) && decide (c.length = ops.size) && ((List.range ops.size).all fun i => c.contains i) &&
  (rows.all fun r => match ops[r.2.1]? with | some o => chkItem N lo ops P o r.2.2 | none => false) && preB ops (preOf ops) && pokB ops (preOf ops) items rows

def chkSeq (P : Program) (N lo : Nat) (ops : Array Oper) (items : List AItem) : Bool :=
  decide (ops.size = items.length) && ((ops.toList.zip items).all fun x => chkItem N lo ops P x.1 x.2)

theorem rows_spec {items : List AItem} : ∀ (c : List Nat) (its : List AItem) (k : Nat), c.length = its.length → (∀ j x, its[j]? = some x → items[k + j]? = some x) →
    (rowsFrom k c its).map (fun r => (placed items r).2) = its.map (fun it => (it, chkOf items it.chk)) ∧ (rowsFrom k c its).map (·.2.1) = c ∧ ∀ r ∈ rowsFrom k c its, items[r.1]? = some r.2.2
  | [], [], _, _, _ => by simp [rowsFrom]
  | [], _ :: _, _, h, _ => by simp at h
  | _ :: _, [], _, h, _ => by simp at h
  | i :: c, it :: its, k, h, hi => by
    obtain ⟨h1, h2, h3⟩ := rows_spec c its (k + 1) (by simpa using h) (fun j x hj => by have := hi (j + 1) x (by simpa using hj); rwa [show k + (j + 1) = k + 1 + j by omega] at this)
    refine ⟨by rw [rowsFrom, List.map_cons, List.map_cons, h1]; rfl, by simp [rowsFrom, h2], fun r hr => ?_⟩
    simp only [rowsFrom, List.mem_cons] at hr
    rcases hr with rfl | hr
    · have := hi 0 it rfl; simpa using this
    · exact h3 r hr

theorem pok_of_B {ops : Array Oper} {pre : List (List Nat)} {items : List AItem} : ∀ (r : List Row), (∀ x ∈ r, items[x.1]? = some x.2.2) → pokB ops pre items r = true → (∀ x ∈ r, ∃ o, ops[x.2.1]? = some o) → POK ops (fun i => pre.getD i []) (r.map (placed items))
  | [], _, _, _ => trivial
  | x :: r, hi, h, ho => by
    simp only [pokB, Bool.and_eq_true, safeB] at h
    obtain ⟨⟨⟨h1, h2⟩, h3⟩, h4⟩ := h
    refine ⟨⟨fun i hir => ?_, fun o hox e he hbe => ?_, fun y hy => ?_⟩, pok_of_B r (fun y hy => hi y (List.mem_cons_of_mem _ hy)) h4 (fun y hy => ho y (List.mem_cons_of_mem _ hy))⟩
    · obtain ⟨i, hir', rfl⟩ := List.mem_map.1 hir
      have := List.all_eq_true.1 h1 i hir'
      simp only [Bool.or_eq_true, Bool.and_eq_true] at this
      rcases this with h5 | ⟨h5, h6⟩
      · left; show x.2.1 ∈ pre.getD i.2.1 []; simpa using h5
      · right
        refine ⟨h5, fun c hc => ?_, fun hn y hy d hd => ?_⟩
        · have hne : (need x.2.2 i.2.2).isEmpty = false := by
            have : c ∈ need x.2.2 i.2.2 := hc
            cases hh : need x.2.2 i.2.2 <;> simp_all
          rw [hne] at h6
          simp only [Bool.false_eq_true, false_or] at h6
          have hmem : x.1 ∈ i.2.2.chk := by simpa using h6.1
          have hce : c ∈ entry x.2.2 := by
            have : c ∈ need x.2.2 i.2.2 := hc
            unfold need at this
            split at this
            · exact this
            · cases this
          show c ∈ chkOf items i.2.2.chk
          unfold chkOf
          rw [List.mem_flatMap]
          exact ⟨x.1, hmem, by rw [hi x (List.mem_cons_self ..)]; exact hce⟩
        · obtain ⟨y, hyr, rfl⟩ := List.mem_map.1 hy
          have hne : (need x.2.2 i.2.2).isEmpty = false := by
            have : need x.2.2 i.2.2 ≠ [] := hn
            cases hh : need x.2.2 i.2.2 <;> simp_all
          rw [hne] at h6
          simp only [Bool.false_eq_true, false_or] at h6
          have := List.all_eq_true.1 h6.2 y hyr
          have hd' : y.2.2.dst = some d := hd
          rw [hd'] at this
          simp only [Bool.and_eq_true, bne_iff_ne, ne_eq, Bool.not_eq_true'] at this
          exact ⟨this.1, by show ¬ d ∈ x.2.2.looks; simpa using this.2⟩
    · have hox' : ops[x.2.1]? = some o := hox
      rw [hox'] at h2
      simp only at h2
      have := Array.all_eq_true_iff_forall_mem.1 h2 e he
      simp only [hbe, Bool.not_true, Bool.false_or, Bool.and_eq_true, decide_eq_true_eq, bne_iff_ne, ne_eq] at this
      refine ⟨this.1.1, this.1.2, fun y hy => ?_⟩
      obtain ⟨y, hyr, rfl⟩ := List.mem_map.1 hy
      have := List.all_eq_true.1 this.2 y hyr
      show y.2.1 ≠ e.on
      simpa using this
    · obtain ⟨y, hyr, rfl⟩ := List.mem_map.1 hy
      have := List.all_eq_true.1 h3 y hyr
      simpa [placed] using this

theorem draw_any {P : Program} {γ0 : Gh} {w0 : World} {H0 : Heap} {F : Fx} {KP : AV → Heap → Prop} (hKP : Wide KP) {ops : Array Oper} {Q : Exit → Act → World → Prop} {K : Env → Heap → Prop} {c : List Nat} {items : List AItem}
    (hQ : ∀ ch a w, PanOk γ0 w0 H0 F KP ch a w → Q (.panic ch) a w) (hK : ∀ γ w H ρ a, SInv γ0 w0 H0 F γ w H ρ a → K ρ H → Q .normal a w)
    (h : chkDraw P F.N F.lo ops c items = true) {γ : Gh} {w : World} {H : Heap} {ρ : Env} {a : Act} (hinv : SInv γ0 w0 H0 F γ w H ρ a) (hs : awpItems P KP (annot items) ρ H K) : wpAny P .any ops Q ops.size (Array.replicate ops.size false) a { w with drawn := w.drawn + 1 } ∧ P.follows .mixedOrders = true := by
  simp only [chkDraw, Bool.and_eq_true, decide_eq_true_eq] at h
  obtain ⟨⟨⟨⟨⟨⟨hm, hl⟩, hlo⟩, hall⟩, hit⟩, hpre⟩, hpok⟩ := h
  obtain ⟨hr1, hr2, hr3⟩ := rows_spec (items := items) c items 0 hl (fun j x hj => by simpa using hj)
  refine ⟨?_, hm⟩
  have hinv' : SInv γ0 w0 H0 F γ w.drew H ρ a :=
    ⟨hinv.ext.trans (ext_drew (fun _ => False) γ w) (fun _ _ f => f.elim), hinv.st.kept (ext_drew (fun _ => False) γ w) (fun _ _ _ f => f), hinv.keys, hinv.env.mono (ext_drew (fun _ => False) γ w).mono, hinv.sz, hinv.fx, hinv.df.step (ext_drew (keysOf H) γ w) (NewKeys.refl _ _)⟩
  have hsome : ∀ x ∈ rowsFrom 0 c items, ∃ o, ops[x.2.1]? = some o ∧ chkItem F.N F.lo ops P o x.2.2 = true := fun x hx => by
    have := List.all_eq_true.1 hit x hx
    split at this
    · rename_i o ho; exact ⟨o, ho, this⟩
    · cases this
  refine any_sound hKP (pre := fun i => (preOf ops).getD i []) hQ hK (fun i o ho k hk => ?_) ops.size ((rowsFrom 0 c items).map (placed items)) _ γ w.drew H ρ a (by simp) ?_ (pok_of_B _ hr3 hpok fun x hx => let ⟨o, ho, _⟩ := hsome x hx; ⟨o, ho⟩) (fun x hx => ?_) (fun i hi => ?_) (fun j hj => ?_) hinv' ?_
  · have h1 := List.all_eq_true.1 hpre i (List.mem_range.2 (Array.getElem?_eq_some_iff.1 ho).1)
    have h2 := List.all_eq_true.1 h1 k hk
    rw [ho] at h2
    simp only at h2
    obtain ⟨e, he, hb⟩ := Array.any_eq_true'.1 h2
    simp only [Bool.and_eq_true, Bool.or_eq_true, beq_iff_eq] at hb
    exact ⟨e, he, hb.1, hb.2.imp (fun h => h) (fun h => by simpa using h)⟩
  · have := congrArg List.length hr2
    rw [List.length_map] at this
    rw [List.length_map, this, hlo]
    exact Nat.le_refl _
  · obtain ⟨x, hxr, rfl⟩ := List.mem_map.1 hx
    exact hsome x hxr
  · constructor
    · intro _
      have := List.all_eq_true.1 hall i (List.mem_range.2 hi)
      have hic : i ∈ c := by simpa using this
      rw [← hr2] at hic
      obtain ⟨r, hr, rfl⟩ := List.mem_map.1 hic
      exact ⟨placed items r, List.mem_map.2 ⟨r, hr, rfl⟩, rfl⟩
    · intro _; simp [hi]
  · intro k hk
    by_cases hlt : j < ops.size <;> simp [hlt] at hj
  · have e : ((rowsFrom 0 c items).map (placed items)).map (·.2) = annot items := by
      rw [List.map_map]; exact hr1
    rw [e]; exact hs

theorem draw_ops {P : Program} {γ0 : Gh} {w0 : World} {H0 : Heap} {F : Fx} {KP : AV → Heap → Prop} (hKP : Wide KP) {ops : Array Oper} {Q : Exit → Act → World → Prop} {K : Env → Heap → Prop} {c : List Nat} {items : List AItem}
    (hQ : ∀ ch a w, PanOk γ0 w0 H0 F KP ch a w → Q (.panic ch) a w) (hK : ∀ γ w H ρ a, SInv γ0 w0 H0 F γ w H ρ a → K ρ H → Q .normal a w)
    (h : chkDraw P F.N F.lo ops c items = true) {γ : Gh} {w : World} {H : Heap} {ρ : Env} {a : Act} (hinv : SInv γ0 w0 H0 F γ w H ρ a) (hs : awpItems P KP (annot items) ρ H K) (t : Nat) :
    wpOps P ops Q (Region.schedule (P.follows .mixedOrders) ops t) a { w with drawn := w.drawn + 1 } := by
  obtain ⟨h1, hm⟩ := draw_any hKP hQ hK h hinv hs
  simp only [Region.schedule, hm, Bool.true_or, if_true]
  exact wpAny_sound ops.size t _ a _ h1

theorem draw_sound {P : Program} {γ0 : Gh} {w0 : World} {H0 : Heap} {F : Fx} {KP : AV → Heap → Prop} (hKP : Wide KP) {id : Nat} {ops : Array Oper} {Q : Exit → Act → World → Prop} {K : Env → Heap → Prop} {c : List Nat} {items : List AItem}
    (hQ : ∀ ch a w, PanOk γ0 w0 H0 F KP ch a w → Q (.panic ch) a w) (hK : ∀ γ w H ρ a, SInv γ0 w0 H0 F γ w H ρ a → K ρ H → Q .normal a w)
    (h : chkDraw P F.N F.lo ops c items = true) {γ : Gh} {w : World} {H : Heap} {ρ : Env} {a : Act} (hinv : SInv γ0 w0 H0 F γ w H ρ a) (hs : awpItems P KP (annot items) ρ H K) : (Code.region id ops true).wp P Q a w :=
  wp_region_draw (draw_ops hKP hQ hK h hinv hs)

theorem seq_ops {P : Program} {γ0 : Gh} {w0 : World} {H0 : Heap} {F : Fx} {KP : AV → Heap → Prop} {ops : Array Oper} {Q : Exit → Act → World → Prop} {K : Env → Heap → Prop} {items : List AItem}
    (hQ : ∀ ch a w, PanOk γ0 w0 H0 F KP ch a w → Q (.panic ch) a w) (hK : ∀ γ w H ρ a, SInv γ0 w0 H0 F γ w H ρ a → K ρ H → Q .normal a w)
    (h : chkSeq P F.N F.lo ops items = true) {γ : Gh} {w : World} {H : Heap} {ρ : Env} {a : Act} (hinv : SInv γ0 w0 H0 F γ w H ρ a) (hs : awpItems P KP (annot items) ρ H K) : wpOps P ops Q (List.range ops.size) a w := by
  simp only [chkSeq, Bool.and_eq_true, decide_eq_true_eq] at h
  obtain ⟨hl, hall⟩ := h
  refine items_sound hQ hK (List.range ops.size) (annot items) (by simp [annot, hl]) (fun k i it hk hit => ?_) γ w H ρ a hinv hs
  obtain ⟨h1, h2⟩ := List.getElem?_eq_some_iff.1 hk
  simp at h1 h2
  subst h2
  simp only [annot, List.getElem?_map, Option.map_eq_some_iff] at hit
  obtain ⟨x, hx, rfl⟩ := hit
  refine ⟨ops[k], by simp [h1], ?_⟩
  have hz : (ops.toList.zip items)[k]? = some (ops[k], x) := by
    rw [List.getElem?_zip_eq_some]
    exact ⟨by simp [h1], hx⟩
  exact List.all_eq_true.1 hall _ (List.mem_of_getElem? hz)

theorem seq_sound {P : Program} {γ0 : Gh} {w0 : World} {H0 : Heap} {F : Fx} {KP : AV → Heap → Prop} {id : Nat} {ops : Array Oper} {Q : Exit → Act → World → Prop} {K : Env → Heap → Prop} {items : List AItem}
    (hQ : ∀ ch a w, PanOk γ0 w0 H0 F KP ch a w → Q (.panic ch) a w) (hK : ∀ γ w H ρ a, SInv γ0 w0 H0 F γ w H ρ a → K ρ H → Q .normal a w)
    (h : chkSeq P F.N F.lo ops items = true) {γ : Gh} {w : World} {H : Heap} {ρ : Env} {a : Act} (hinv : SInv γ0 w0 H0 F γ w H ρ a) (hs : awpItems P KP (annot items) ρ H K) : (Code.region id ops false).wp P Q a w :=
  wp_region (seq_ops hQ hK h hinv hs)

/-! ### code -/

inductive AC where
  | skip
  | reg (c : List Nat) (items : List AItem)
  | seq (a b : AC)
  | join (keep : List Nat) (a b : AC)
  | cond (c : Opd) (t e : AC)
  | block (id : Nat) (b : AC)
  | loop (keep : List Nat) (b : AC)
  | scope (b : AC)
  | exit (id : Nat)
  | ret
  | rfun (g : Opd) (ps : List Nat) (asg body : AC)

inductive AExit where
  | normal
  | exit (id : Nat)
  | ret

def envOf : List (Nat × AV) → Env
  | [], _ => .any
  | (d, c) :: r, n => if n = d then c else envOf r n

theorem envOf_set (l : List (Nat × AV)) (d : Nat) (c : AV) : (envOf l).set (some d) c = envOf ((d, c) :: l) := rfl
theorem envOf_set_none (ρ : Env) (c : AV) : ρ.set none c = ρ := rfl
theorem envOf_cons (l : List (Nat × AV)) (d n : Nat) (c : AV) : envOf ((d, c) :: l) n = if n = d then c else envOf l n := rfl

def Env.keep (ρ : Env) (l : List Nat) : Env := envOf (l.map fun n => (n, ρ n))

def thenQ (K : Env → Heap → Prop) (Q : AExit → Env → Heap → Prop) : AExit → Env → Heap → Prop
  | .normal => K
  | e => Q e

def inBlockQ (id : Nat) (Q : AExit → Env → Heap → Prop) : AExit → Env → Heap → Prop
  | .exit i => if i = id then Q .normal else Q (.exit i)
  | e => Q e

def condK (c : AV) (X Y : Prop) : Prop :=
  match c with
  | .bool true => X
  | .bool false => Y
  | .ubool p => (p → X) ∧ Y
  | _ => False

/-- The code of a loop over a function lies in no other such code, and has no loop. -/
def AC.flat : AC → Bool
  | .seq a b | .cond _ a b => a.flat && b.flat
  | .block _ b => b.flat
  | .join _ _ _ | .loop _ _ | .scope _ | .rfun _ _ _ _ => false
  | _ => true

/-- No loop over a function. -/
def AC.plain : AC → Bool
  | .seq a b | .cond _ a b | .join _ a b => a.plain && b.plain
  | .block _ b | .loop _ b | .scope b => b.plain
  | .rfun _ _ _ _ => false
  | _ => true

def onlyN (K : Env → Heap → Prop) : AExit → Env → Heap → Prop
  | .normal => K
  | _ => fun _ _ => False

def setPs : List Nat → List AV → Env → Env
  | p :: ps, c :: cs, ρ => setPs ps cs (ρ.set (some p) c)
  | _, _, ρ => ρ

/-- The contract of an iterator: it hands over just these, one behind the other, and turns nothing that lay. -/
def SeqC (P : Program) (f : FuncId) (caps : List AV) (X : List (List AV)) : Prop :=
  ∀ (l : Nat) (J : Nat → Gh → World → Prop), (∀ k γ w γ' w', J k γ w → Ext (fun _ => False) γ w γ' w' → J k γ' w') →
    (∀ k x γ w vs, X[k]? = some x → J k γ w → RepAll γ w x vs → YieldAt Fence.wide 0 P l vs.toArray w fun e w' => ∃ γ', Mono γ w γ' w' ∧ e = .returned (.bool true) ∧ J (k + 1) γ' w') →
    ∀ γ w vs, TabOk γ w → RepAll γ w caps vs → J 0 γ w →
      CallsIn Fence.wide 0 P f (#[.func (.yield l) #[] #[]] ++ vs.toArray) w fun e w' => ∃ γ' v, e = .returned v ∧ J X.length γ' w'

def awp (P : Program) (KP : AV → Heap → Prop) : AC → (AExit → Env → Heap → Prop) → Env → Heap → Prop
  | .skip, Q, ρ, H => Q .normal ρ H
  | .reg _ items, Q, ρ, H => awpItems P KP (annot items) ρ H (Q .normal)
  | .seq a b, Q, ρ, H => awp P KP a (thenQ (awp P KP b Q) Q) ρ H
  | .join keep a b, Q, ρ, H => ∃ J : Env → Heap → Prop, awp P KP a (thenQ (fun ρ' H' => J (ρ'.keep keep) H') Q) ρ H ∧ ∀ ρ H, J ρ H → awp P KP b Q ρ H
  | .cond c t e, Q, ρ, H => condK (c.ev ρ) (awp P KP t Q ρ H) (awp P KP e Q ρ H)
  | .block id b, Q, ρ, H => awp P KP b (inBlockQ id Q) ρ H
  | .loop keep b, Q, ρ, H => ∃ I : Nat → Env → Heap → Prop, (∃ n, I n (ρ.keep keep) H) ∧ ∀ n ρ H, I n ρ H → awp P KP b (thenQ (fun ρ' H' => ∃ m, m < n ∧ I m (ρ'.keep keep) H') Q) ρ H
  | .scope b, Q, ρ, H => awp P KP b Q ρ H
  | .exit id, Q, ρ, H => Q (.exit id) ρ H
  | .ret, Q, ρ, H => Q .ret ρ H
  | .rfun g ps asg body, Q, ρ, H => ∃ f caps X, g.ev ρ = .clo f [] caps ∧ Program.callable P f = true ∧ SeqC P f caps X ∧ (∀ x ∈ X, x.length = ps.length) ∧ ∃ I : Nat → Heap → Prop, I 0 H ∧
      (∀ k x H, X[k]? = some x → I k H → awp P (fun _ _ => False) asg (onlyN fun ρ' H' => awp P (fun _ _ => False) body (onlyN fun _ H'' => I (k + 1) H'') ρ' H') (setPs ps x ρ) H) ∧ ∀ H, I X.length H → Q .normal ρ H

def chkCode (P : Program) (N lo : Nat) : Code → AC → Bool
  | .skip, .skip => true
  | .label _, .skip => true
  | .region _ ops draw, .reg c items => if draw then chkDraw P N lo ops c items else chkSeq P N lo ops items
  | .seq a b, .seq a' b' => chkCode P N lo a a' && chkCode P N lo b b'
  | .seq a b, .join _ a' b' => chkCode P N lo a a' && chkCode P N lo b b'
  | .cond c t e, .cond c' t' e' => chkO c c' && chkCode P N lo t t' && chkCode P N lo e e'
  | .block id b, .block id' b' => decide (id = id') && chkCode P N lo b b'
  | .loop b, .loop _ b' => chkCode P N lo b b'
  | .scope b, .scope b' => chkCode P N lo b b'
  | .exit id, .exit id' => decide (id = id')
  | .ret, .ret => true
  | .rangeFunc g ps a b, .rfun g' ps' a' b' => chkO g g' && decide (ps.toList = ps') && decide (lo = 0) && (ps'.all fun p => decide (p < N)) && chkCode P N lo a a' && chkCode P N lo b b' && a'.flat && b'.flat
  | _, _ => false

def lift (γ0 : Gh) (w0 : World) (H0 : Heap) (F : Fx) (KP : AV → Heap → Prop) (Q : AExit → Env → Heap → Prop) : Exit → Act → World → Prop
  | .normal, a, w => ∃ γ H ρ, SInv γ0 w0 H0 F γ w H ρ a ∧ Q .normal ρ H
  | .exit id, a, w => ∃ γ H ρ, SInv γ0 w0 H0 F γ w H ρ a ∧ Q (.exit id) ρ H
  | .ret, a, w => ∃ γ H ρ, SInv γ0 w0 H0 F γ w H ρ a ∧ Q .ret ρ H
  | .panic ch, a, w => PanOk γ0 w0 H0 F KP ch a w
  | .goto _, _, _ => False
  | .outgrown, _, _ => False

theorem keep_rel {γ : Gh} {w : World} {ρ : Env} {tmps : Array Value} (h : EnvRel γ w ρ tmps) (l : List Nat) : EnvRel γ w (ρ.keep l) tmps := by
  refine ⟨h.tab, fun n => ?_⟩
  unfold Env.keep
  induction l with
  | nil => exact .any _
  | cons x l ih =>
    simp only [List.map_cons, envOf]
    split
    · rename_i e; subst e; exact h.rep n
    · exact ih

theorem least {p : Nat → Prop} (h : ∃ n, p n) : ∃ n, p n ∧ ∀ m, p m → n ≤ m := by
  obtain ⟨n, hn⟩ := h
  induction n using Nat.strongRecOn with
  | _ n ih =>
    by_cases hx : ∃ m, m < n ∧ p m
    · obtain ⟨m, hm, hp⟩ := hx; exact ih m hm hp
    · exact ⟨n, hn, fun m hm => Nat.le_of_not_lt fun hlt => hx ⟨m, hlt, hm⟩⟩

/-- A loop, by a relation with a number that goes down. -/
theorem wp_loop_n {P : Program} {Q : Exit → Act → World → Prop} {c : Code} (J : Nat → Act → World → Prop) {a : Act} {w : World} {n : Nat} (h0 : J n a w)
    (round : ∀ n a w, J n a w → c.wp P (Exit.then (fun a' w' => ∃ m, m < n ∧ J m a' w') Q) a w) : (Code.loop c).wp P Q a w := by
  classical
  refine wp_loop (fun a w => ∃ n, J n a w) (fun a w => if h : ∃ n, J n a w then Classical.choose (least h) else 0) ⟨n, h0⟩ (fun a w hI => ?_)
  have hs := Classical.choose_spec (least hI)
  refine wp_mono (round _ a w hs.1) (fun e a' w' hq => ?_)
  cases e <;> first | exact hq | skip
  obtain ⟨m, hm, hJ⟩ := hq
  refine ⟨⟨m, hJ⟩, ?_⟩
  have hI' : ∃ n, J n a' w' := ⟨m, hJ⟩
  have hle := (Classical.choose_spec (least hI')).2 m hJ
  simp only [hI, hI', dif_pos]
  omega

/-! ### a round of a loop over a function -/

theorem chkOp_nodefer {P : Program} {o : Oper} {x : AOp} (h : chkOp P o x = true) (c : Call) : o.op ≠ .defer c := by
  intro e
  cases x <;> simp [chkOp, e] at h

theorem wpOps_in {P : Program} {l : Nat} {ops : Array Oper} {Q : Exit → Act → World → Prop} (hno : ∀ a w, ¬ Q .outgrown a w) (hnd : ∀ (i : Nat) (o : Oper), ops[i]? = some o → ∀ c, o.op ≠ .defer c) : ∀ (idx : List Nat) (a : Act) (w : World), wpOps P ops Q idx a w → wpOpsIn (Fence.wide.inRound l) 0 P ops Q idx a w
  | [], a, w, h => h
  | i :: rest, a, w, h => by
    simp only [wpOps] at h
    simp only [wpOpsIn]
    have ih := wpOps_in (P := P) (l := l) hno hnd rest
    cases ho : ops[i]? with
    | none => simp only [ho] at h ⊢; exact ih a w h
    | some o =>
      simp only [ho] at h ⊢
      by_cases hw : Region.wanted o (yielded ops a.tmps) = true
      · simp only [hw, if_true] at h ⊢
        rcases h with h | ⟨_, a0, w0, h0⟩
        · refine ⟨fun _ _ => trivial, ?_⟩
          rw [Oper.semAt_eq _ _ _ (hnd i o ho)]
          unfold Oper.wp at h
          generalize (execOp a.eval o).run P w = r at h ⊢
          cases r with
          | ok n w' =>
            cases n <;> first | exact ih _ _ h | exact h.elim | skip
            · rename_i f args
              refine ⟨fun h => by simp [Fence.wide] at h, ?_⟩
              have h2 : CallsIn Fence.wide (0 - 1) P f args w' _ := callsIn_wide.2 h
              refine h2.mono fun e w2 hq => ?_
              cases e with
              | returned v => exact ih _ _ hq
              | panicked ch => exact hq
              | outgrown => obtain ⟨a0, w0, h0⟩ := hq; exact (hno _ _ h0).elim
            · rename_i row args
              refine ⟨fun h => by simp [Fence.wide] at h, fun c cs hroom => ?_⟩
              obtain ⟨v, w2, hq, hs⟩ := h c cs
              exact ⟨v, w2, ih _ _ hq, stepsIn_wide.2 hs⟩
          | halt x w' => cases x <;> first | exact h | exact h.elim
        · exact (hno _ _ h0).elim
      · simp only [hw, if_false, Bool.false_eq_true] at h ⊢
        exact ⟨fun _ _ => trivial, ih _ _ h⟩

theorem draw_nodefer {P : Program} {N lo : Nat} {ops : Array Oper} {c : List Nat} {items : List AItem} (h : chkDraw P N lo ops c items = true) : ∀ (i : Nat) (o : Oper), ops[i]? = some o → ∀ c, o.op ≠ .defer c := by
  simp only [chkDraw, Bool.and_eq_true, decide_eq_true_eq] at h
  obtain ⟨⟨⟨⟨⟨⟨hm, hl⟩, hlo⟩, hall⟩, hit⟩, hpre⟩, hpok⟩ := h
  intro i o ho
  obtain ⟨_, hr2, _⟩ := rows_spec (items := items) c items 0 hl (fun j x hj => by simpa using hj)
  have hi := (Array.getElem?_eq_some_iff.1 ho).1
  have hic : i ∈ c := by simpa using List.all_eq_true.1 hall i (List.mem_range.2 hi)
  rw [← hr2] at hic
  obtain ⟨r, hr, rfl⟩ := List.mem_map.1 hic
  have := List.all_eq_true.1 hit r hr
  rw [ho] at this
  simp only [chkItem, Bool.and_eq_true] at this
  exact chkOp_nodefer this.2

theorem seq_nodefer {P : Program} {N lo : Nat} {ops : Array Oper} {items : List AItem} (h : chkSeq P N lo ops items = true) : ∀ (i : Nat) (o : Oper), ops[i]? = some o → ∀ c, o.op ≠ .defer c := by
  simp only [chkSeq, Bool.and_eq_true, decide_eq_true_eq] at h
  obtain ⟨hl, hall⟩ := h
  intro i o ho
  obtain ⟨hi, hio⟩ := Array.getElem?_eq_some_iff.1 ho
  have hz : (ops.toList.zip items)[i]? = some (ops[i], items[i]) := by
    rw [List.getElem?_zip_eq_some]
    exact ⟨by simp [hi], by simp [← hl, hi]⟩
  have := List.all_eq_true.1 hall _ (List.mem_of_getElem? hz)
  rw [hio] at this
  simp only [chkItem, Bool.and_eq_true] at this
  exact chkOp_nodefer this.2

theorem round_sound {P : Program} {γ0 : Gh} {w0 : World} {H0 : Heap} {F : Fx} {l : Nat} {KP : AV → Heap → Prop} (hKP : Wide KP) : ∀ (ac : AC) (code : Code) (Q : AExit → Env → Heap → Prop), ac.flat = true → chkCode P F.N F.lo code ac = true →
    ∀ (γ : Gh) (w : World) (H : Heap) (ρ : Env) (a : Act), SInv γ0 w0 H0 F γ w H ρ a → awp P KP ac Q ρ H → code.wpIn (Fence.wide.inRound l) 0 P (lift γ0 w0 H0 F KP Q) a w := by
  intro ac
  induction ac with
  | skip =>
    intro code Q hf hc γ w H ρ a hinv hs
    cases code <;> simp only [chkCode] at hc <;> try (cases hc; done)
    · exact wpIn_skip ⟨γ, H, ρ, hinv, hs⟩
    · exact wpIn_label ⟨γ, H, ρ, hinv, hs⟩
  | reg c items =>
    intro code Q hf hc γ w H ρ a hinv hs
    cases code <;> simp only [chkCode] at hc <;> try (cases hc; done)
    rename_i id ops draw
    have hno : ∀ a w, ¬ lift γ0 w0 H0 F KP Q .outgrown a w := fun _ _ h => h
    have hQ : ∀ ch a w, PanOk γ0 w0 H0 F KP ch a w → lift γ0 w0 H0 F KP Q (.panic ch) a w := fun _ _ _ h => h
    have hK : ∀ γ w H ρ a, SInv γ0 w0 H0 F γ w H ρ a → Q .normal ρ H → lift γ0 w0 H0 F KP Q .normal a w := fun γ w H ρ a h1 h2 => ⟨γ, H, ρ, h1, h2⟩
    cases draw with
    | true =>
      simp only [if_true] at hc
      exact wpIn_region_draw fun t => wpOps_in hno (draw_nodefer hc) _ _ _ (draw_ops hKP hQ hK hc hinv hs t)
    | false =>
      simp only [Bool.false_eq_true, if_false] at hc
      exact wpIn_region (wpOps_in hno (seq_nodefer hc) _ _ _ (seq_ops hQ hK hc hinv hs))
  | seq x y ihx ihy =>
    intro code Q hf hc γ w H ρ a hinv hs
    cases code <;> simp only [chkCode] at hc <;> try (cases hc; done)
    simp only [AC.flat, Bool.and_eq_true] at hc hf
    refine wpIn_seq (wpIn_mono (ihx _ _ hf.1 hc.1 γ w H ρ a hinv hs) fun e a' w' he => ?_)
    cases e with
    | normal => obtain ⟨γ', H', ρ', h1, h2⟩ := he; exact ihy _ Q hf.2 hc.2 γ' w' H' ρ' a' h1 h2
    | exit id => exact he
    | ret => exact he
    | panic ch => exact he
    | goto l => exact he
    | outgrown => exact he
  | join keep x y ihx ihy => intro code Q hf; simp [AC.flat] at hf
  | loop keep b ih => intro code Q hf; simp [AC.flat] at hf
  | scope b ih => intro code Q hf; simp [AC.flat] at hf
  | rfun g ps asg body iha ihb => intro code Q hf; simp [AC.flat] at hf
  | cond c t e iht ihe =>
    intro code Q hf hc γ w H ρ a hinv hs
    cases code <;> simp only [chkCode] at hc <;> try (cases hc; done)
    simp only [AC.flat, Bool.and_eq_true] at hc hf
    have hr := chkO_rep hc.1.1 hinv.env
    simp only [awp, condK] at hs
    cases hx : c.ev ρ <;> simp only [hx] at hs hr <;> try (exact False.elim hs)
    · rename_i b
      generalize hv : a.eval _ = v at hr
      cases hr
      cases b with
      | true => exact wpIn_cond_true hv (iht _ Q hf.1 hc.1.2 γ w H ρ a hinv hs)
      | false => exact wpIn_cond_false hv (ihe _ Q hf.2 hc.2 γ w H ρ a hinv hs)
    · rename_i p
      generalize hv : a.eval _ = v at hr
      cases hr with
      | ubool _ b hb =>
        cases b with
        | true => exact wpIn_cond_true hv (iht _ Q hf.1 hc.1.2 γ w H ρ a hinv (hs.1 (hb rfl)))
        | false => exact wpIn_cond_false hv (ihe _ Q hf.2 hc.2 γ w H ρ a hinv hs.2)
  | block id b ih =>
    intro code Q hf hc γ w H ρ a hinv hs
    cases code <;> simp only [chkCode] at hc <;> try (cases hc; done)
    simp only [AC.flat, Bool.and_eq_true, decide_eq_true_eq] at hc hf
    obtain ⟨rfl, hc⟩ := hc
    rename_i id0 b0
    refine wpIn_block (wpIn_mono (ih _ _ hf hc γ w H ρ a hinv hs) fun e a' w' he => ?_)
    cases e with
    | normal => exact he
    | exit i =>
      obtain ⟨γ', H', ρ', h1, h2⟩ := he
      simp only [inBlockQ] at h2
      simp only [Exit.inBlock]
      by_cases hid : i = id0
      · simp only [hid, if_true] at h2 ⊢; exact ⟨γ', H', ρ', h1, h2⟩
      · simp only [hid, if_false] at h2 ⊢; exact ⟨γ', H', ρ', h1, h2⟩
    | ret => exact he
    | panic ch => exact he
    | goto l => exact he
    | outgrown => exact he
  | exit id =>
    intro code Q hf hc γ w H ρ a hinv hs
    cases code <;> simp only [chkCode] at hc <;> try (cases hc; done)
    simp only [decide_eq_true_eq] at hc
    subst hc
    exact wpIn_exit ⟨γ, H, ρ, hinv, hs⟩
  | ret =>
    intro code Q hf hc γ w H ρ a hinv hs
    cases code <;> simp only [chkCode] at hc <;> try (cases hc; done)
    exact wpIn_ret ⟨γ, H, ρ, hinv, hs⟩

theorem cells_of_cell {w : World} {b k : Nat} {v : Value} (h : w.cell? ⟨b, k, none⟩ = some v) : ∃ (arr : Array Value) (E : TypeId) (fr : Nat × Nat), w.heap[b]? = some (.cells arr E fr) := by
  unfold World.cell? at h
  split at h
  · rename_i c E fr hb; exact ⟨c, E, fr, hb⟩
  · cases h

theorem heap_alloc_lt (w : World) (o : Obj) {b : Nat} (h : b < w.heap.size) : (w.alloc o).heap[b]? = w.heap[b]? := RowKit.Below.heap_alloc w o b h

theorem SInv.reext {γ0 : Gh} {w0 : World} {H0 : Heap} {F : Fx} {γ γ' : Gh} {w w' : World} {H : Heap} {ρ : Env} {a : Act} (h : SInv γ0 w0 H0 F γ w H ρ a) (hext : Ext (fun _ => False) γ w γ' w') : SInv γ0 w0 H0 F γ' w' H ρ a :=
  ⟨h.ext.trans hext (fun _ _ f => f.elim), h.st.kept hext (fun _ _ _ f => f), h.keys, h.env.mono hext.mono, h.sz, h.fx, h.df.step (hext.weaken fun _ f => f.elim) (NewKeys.refl _ _)⟩

/-- A block that holds no cells turns. -/
theorem ext_put (γ : Gh) {w : World} {l : Nat} {o o' : Obj} (h : w.heap[l]? = some o) (hc : ∀ arr E fr, o ≠ .cells arr E fr) (hc' : ∀ arr E fr, o' ≠ .cells arr E fr) : Ext (fun b => b = l) γ w γ (w.putObj l o') := by
  have hne : ∀ b, b ≠ l → (w.putObj l o').heap[b]? = w.heap[b]? := fun b hb => World.putObj_heap_other hb
  have hcell : ∀ b o v, w.cell? ⟨b, o, none⟩ = some v → b ≠ l := fun b k v hv e => by
    subst e
    obtain ⟨arr, E, fr, hb⟩ := cells_of_cell hv
    rw [h] at hb
    exact hc _ _ _ (Option.some.inj hb)
  refine ⟨⟨by simp, fun b k v hv hp => ⟨hp, ?_⟩, fun b arr E fr hb => ⟨arr, ?_, rfl⟩⟩, rfl, rfl, fun a ha => ?_, fun b _ hb => ⟨rfl, hne b hb⟩⟩
  · simp only [World.cell?, hne b (hcell b k v hv)]; exact hv
  · rw [hne b (fun e => by subst e; rw [h] at hb; exact hc _ _ _ (Option.some.inj hb))]; exact hb
  · by_cases e : a.block = l
    · simp only [World.frozen?, e, h, World.putObj_heap_same (Array.getElem?_eq_some_iff.1 h).1]
      cases o <;> cases o' <;> first | rfl | exact absurd rfl (hc _ _ _) | exact absurd rfl (hc' _ _ _)
    · simp only [World.frozen?, hne _ e]

theorem ext_lay (γ : Gh) (w : World) (o : Obj) : Ext (fun _ => False) γ w γ (w.alloc o) := by
  have hlt : ∀ b, b < w.heap.size → (w.alloc o).heap[b]? = w.heap[b]? := fun b hb => heap_alloc_lt w o hb
  have hl : ∀ b x, w.heap[b]? = some x → b < w.heap.size := fun b x h => (Array.getElem?_eq_some_iff.1 h).1
  refine ⟨⟨by simp, fun b k v hv hp => ⟨hp, ?_⟩, fun b arr E fr hb => ⟨arr, (hlt b (hl b _ hb)).trans hb, rfl⟩⟩, rfl, rfl, fun a ha => ?_, fun b hb _ => ⟨rfl, hlt b hb⟩⟩
  · obtain ⟨arr, E, fr, hb⟩ := cells_of_cell hv
    simp only [World.cell?, hlt b (hl b _ hb)]; exact hv
  · simp only [World.frozen?, hlt _ ha]

theorem setPs_rel {γ : Gh} {w : World} {N : Nat} : ∀ (ps : List Nat) (x : List AV) (vs : List Value) (ρ : Env) (tmps : Array Value), (∀ p ∈ ps, p < N) → x.length = ps.length → EnvRel γ w ρ tmps → tmps.size = N → RepAll γ w x vs →
    EnvRel γ w (setPs ps x ρ) ((ps.zip vs).foldl (fun t (p, v) => t.setIfInBounds p v) tmps) ∧ ((ps.zip vs).foldl (fun t (p, v) => t.setIfInBounds p v) tmps).size = N
  | [], [], [], ρ, tmps, _, _, h, hs, _ => ⟨h, hs⟩
  | [], [], _ :: _, _, _, _, _, _, _, hr => absurd hr.1 (by simp)
  | [], _ :: _, _, _, _, _, hl, _, _, _ => absurd hl (by simp)
  | _ :: _, [], _, _, _, _, hl, _, _, _ => absurd hl (by simp)
  | _ :: _, _ :: _, [], _, _, _, _, _, _, hr => absurd hr.1 (by simp)
  | p :: ps, c :: x, v :: vs, ρ, tmps, hp, hl, h, hs, hr => by
    refine setPs_rel ps x vs _ _ (fun q hq => hp q (List.mem_cons_of_mem _ hq)) (by simpa using hl) ?_ (by simpa using hs) ⟨by simpa using hr.1, fun i c v hc hv => hr.2 (i + 1) c v (by simpa using hc) (by simpa using hv)⟩
    exact env_set (d := some p) h hs (fun y hy => by cases hy; exact hp p (List.mem_cons_self ..)) (hr.2 0 c v rfl rfl) { tmps := tmps, defers := [] } rfl

theorem rfun_sound {P : Program} {γ0 : Gh} {w0 : World} {H0 : Heap} {F : Fx} {KP : AV → Heap → Prop} (hrf : F.rf = true) (hkp : F.keep = []) (hba : F.base ≤ w0.heap.size) {g : Opd} {ps : List Nat} {asg body : AC} {g' : Operand} {ps' : Array Tmp} {casg cbody : Code}
    {Q : AExit → Env → Heap → Prop} (hc : chkCode P F.N F.lo (.rangeFunc g' ps' casg cbody) (.rfun g ps asg body) = true) {γ : Gh} {w : World} {H : Heap} {ρ : Env} {a : Act} (hinv : SInv γ0 w0 H0 F γ w H ρ a)
    (hs : awp P KP (.rfun g ps asg body) Q ρ H) : (Code.rangeFunc g' ps' casg cbody).wp P (lift γ0 w0 H0 F KP Q) a w := by
  simp only [chkCode, Bool.and_eq_true, decide_eq_true_eq] at hc
  obtain ⟨⟨⟨⟨⟨⟨⟨hg, rfl⟩, hlo⟩, hps⟩, hca⟩, hcb⟩, hfa⟩, hfb⟩ := hc
  rw [hlo] at hca hcb
  have hps' : ∀ p ∈ ps'.toList, p < F.N := fun p hp => of_decide_eq_true (List.all_eq_true.1 hps p hp)
  obtain ⟨f, caps, X, hgv, hcallable, hseq, hX, I, h0, hround, hend⟩ := hs
  have hrg := chkO_rep hg hinv.env
  rw [hgv] at hrg
  generalize hev : a.eval g' = gv at hrg
  cases hrg with
  | clo _ _ _ vs0 us hl hl' hr hr' =>
    obtain rfl : vs0 = [] := List.eq_nil_of_length_eq_zero (by simpa using hl.symm)
    have hcaps : RepAll γ w caps us := ⟨hl', hr'⟩
    obtain ⟨bs, hbs, hnd, _, hbk0⟩ := hinv.df.eq
    have hbk : ∀ b ∈ bs, H b = none ∧ w.heap[b]? = some (.deferred (some [])) := fun b hb => (hbk0 b hb).2
    obtain ⟨fb, hfb', hfname⟩ : ∃ fn : Func, P.funcs[f]? = some fn ∧ fn.body.isSome = true ∧ (fn.name == "runtime.NumGoroutine") = false := by
      unfold Program.callable at hcallable
      cases hfn' : P.funcs[f]? with
      | none => simp [hfn'] at hcallable
      | some fn' =>
        simp only [hfn', Bool.and_eq_true, bne_iff_ne, ne_eq] at hcallable
        exact ⟨fn', rfl, hcallable.1, by simpa using hcallable.2⟩
    have eg : ∀ args w, (callFunc f args).run P w = .ok (.enter f args) w := fun args w => by
      obtain ⟨bd, hb2⟩ := Option.isSome_iff_exists.1 hfname.1
      have h2 := hfname.2
      simp only [beq_eq_false_iff_ne, ne_eq] at h2
      simp [callFunc, hfb', h2, hb2]
    refine (wpIn_wide (n := 0)).1 (wpIn_rangeFunc fun fn hfn => ?_)
    obtain ⟨rec, hrec⟩ : ∃ rec : LoopState → Option Code → Loop, rec = fun st pe => { state := st, pending := pe, fn, tmps := a.tmps, params := ps', assign := casg, body := cbody, defers := w.heap.size } := ⟨_, rfl⟩
    obtain ⟨W1, hW1⟩ : ∃ W1, (w.alloc (.deferred (some []))).alloc (.loop (rec .ready none)) = W1 := ⟨_, rfl⟩
    have hlt : w.heap.size < (w.alloc (.deferred (some []))).heap.size := by simp
    have hL1 : W1.heap[w.heap.size + 1]? = some (.loop (rec .ready none)) := by
      rw [← hW1]; have := World.alloc_heap_new (w.alloc (.deferred (some []))) (.loop (rec .ready none)); rwa [World.size_alloc] at this
    have hK1 : W1.heap[w.heap.size]? = some (.deferred (some [])) := by
      rw [← hW1]; exact (RowKit.Below.heap_alloc _ _ _ (by simp)).trans (World.alloc_heap_new w _)
    have hE1 : Ext (fun _ => False) γ w γ W1 := by rw [← hW1]; exact (ext_lay γ w _).trans (ext_lay γ _ _) (fun _ _ f => f)
    have hlw : ∀ b o, w.heap[b]? = some o → b < w.heap.size := fun b o h => (Array.getElem?_eq_some_iff.1 h).1
    have hHn : ∀ b, w.heap.size ≤ b → H b = none := fun b hb => by
      cases hx : H b with
      | none => rfl
      | some o => have := (hinv.st b o hx).lt; omega
    have hw0 : w0.heap.size ≤ w.heap.size := hinv.ext.mono.size
    -- what is kept
    obtain ⟨K0, hK0⟩ : ∃ K0 : List (Nat × Obj), K0 = (w.heap.size :: bs).map fun b => (b, Obj.deferred (some [])) := ⟨_, rfl⟩
    have hK0l : ∀ x ∈ K0, x.1 ≠ w.heap.size + 1 := fun x hx e => by
      rw [hK0] at hx
      obtain ⟨b, hb, rfl⟩ := List.mem_map.1 hx
      rcases List.mem_cons.1 hb with rfl | hb
      · simp at e
      · have := hlw _ _ (hbk b hb).2; simp at e; omega
    obtain ⟨Fk, hFk⟩ : ∃ Fk : Fx, Fk = ⟨F.N, F.lo, F.T, [], false, (w.heap.size + 1, .loop (rec .ready none)) :: K0, 0⟩ := ⟨_, rfl⟩
    have hstart : SInv γ0 w0 H0 Fk γ W1 H ρ { a with defers := [] } := by
      have h1 := hinv.reext hE1
      refine ⟨h1.ext, h1.st, h1.keys, h1.env, by rw [hFk]; exact h1.sz, by rw [hFk]; exact h1.fx, ⟨⟨[], by rw [hFk]; rfl, List.nodup_nil, fun _ => rfl, fun b hb => by cases hb⟩, fun x hx => ?_⟩⟩
      rw [hFk] at hx
      rcases List.mem_cons.1 hx with rfl | hx
      · exact ⟨hHn _ (by simp), hL1⟩
      · rw [hK0] at hx
        obtain ⟨b, hb, rfl⟩ := List.mem_map.1 hx
        rcases List.mem_cons.1 hb with rfl | hb
        · exact ⟨hHn _ (Nat.le_refl _), hK1⟩
        · exact ⟨(hbk b hb).1, ((hE1.frame b (hlw _ _ (hbk b hb).2) (fun f => f)).2).trans (hbk b hb).2⟩
    refine ⟨w.heap.size + 1, [coll w.heap.size], W1, { target := .fn (.func f) us.toArray, args := #[.func (.yield (w.heap.size + 1)) #[] #[]] }, W1, f,
      #[.func (.yield (w.heap.size + 1)) #[] #[]] ++ us.toArray, W1, ?_, ?_, fun _ _ => trivial, ?_, fun h => by simp [Fence.wide] at h, ?_⟩
    · rw [← hW1, hrec]; exact run_enterLoop_outer _ _ _ _ _
    · simp only [resolve, hev]
      simp [go_sem]
    · simp [invoke, go_sem, eg]
    refine (hseq (w.heap.size + 1) (fun k γ' w' => ∃ H', SInv γ0 w0 H0 Fk γ' w' H' ρ { a with defers := [] } ∧ I k H')
      (fun k γ1 w1 γ2 w2 ⟨H', h1, h2⟩ he => ⟨H', h1.reext he, h2⟩) (fun k x γ1 w1 vs hx ⟨H1, hi1, hI1⟩ hrep => ?_) γ W1 us (hinv.env.tab.mono hE1.mono) (hcaps.mono hE1.mono) ⟨H, hstart, h0⟩).mono ?_
    · -- one round
      have hk1 := hi1.df.keep (w.heap.size + 1, .loop (rec .ready none)) (by rw [hFk]; exact List.mem_cons_self ..)
      have hxl : x.length = ps'.toList.length := hX x (List.mem_of_getElem? hx)
      have hy := run_yield (P := P) (args := vs.toArray) hk1.2 (by rw [hrec]; simp [← hrep.1, hxl])
      rw [hrec] at hy
      refine ⟨fn, _, casg, cbody, hy, roundIn_of_wpIn trivial ?_⟩
      obtain ⟨hpe, hpsz⟩ := setPs_rel ps'.toList x vs ρ a.tmps hps' hxl hi1.env (by have := hi1.sz; rw [hFk] at this; exact this) hrep
      have hfold : ((ps'.zip vs.toArray).foldl (fun t (p, v) => t.setIfInBounds p v) a.tmps) = ((ps'.toList.zip vs).foldl (fun t (p, v) => t.setIfInBounds p v) a.tmps) := by
        rw [← Array.foldl_toList]; simp
      rw [hfold]
      obtain ⟨Fr, hFr⟩ : ∃ Fr : LoopState → Fx, Fr = fun st => ⟨F.N, 0, #[], [], false, (w.heap.size + 1, .loop (rec st none)) :: K0, 0⟩ := ⟨_, rfl⟩
      have hA : SInv γ1 w1 H1 (Fr .ready) γ1 w1 H1 (setPs ps'.toList x ρ) { tmps := (ps'.toList.zip vs).foldl (fun t (p, v) => t.setIfInBounds p v) a.tmps, defers := [] } :=
        ⟨.refl _ _ _, hi1.st, NewKeys.refl _ _, hpe, by rw [hFr]; exact hpsz, fun n hn => by rw [hFr] at hn; exact absurd hn (Nat.not_lt_zero n), ⟨⟨[], by rw [hFr]; rfl, List.nodup_nil, fun _ => rfl, fun b hb => by cases hb⟩, fun x hx => hi1.df.keep x (by rw [hFr] at hx; rw [hFk]; exact hx)⟩⟩
      refine wpIn_mono (round_sound (l := w.heap.size + 1) (KP := fun _ _ => False) (fun _ _ _ _ _ h => h) asg casg _ hfa (by rw [hFr]; exact hca) γ1 w1 H1 _ _ hA (hround k x H1 hx hI1)) fun e a2 w2 he => ?_
      cases e with
      | exit id => obtain ⟨_, _, _, _, h⟩ := he; exact h.elim
      | ret => obtain ⟨_, _, _, _, h⟩ := he; exact h.elim
      | goto l => exact he.elim
      | outgrown => exact he.elim
      | panic ch => obtain ⟨_, _, _, _, _, _, _, _, _, hf, _⟩ := he; exact hf.elim
      | normal =>
        obtain ⟨γ2, H2, ρ2, hi2, hb2⟩ := he
        have hk2 := hi2.df.keep (w.heap.size + 1, .loop (rec .ready none)) (by rw [hFr]; exact List.mem_cons_self ..)
        obtain ⟨w3, hw3⟩ : ∃ w3, w2.putObj (w.heap.size + 1) (.loop (rec .busy none)) = w3 := ⟨_, rfl⟩
        have hE3 : Ext (fun b => b = w.heap.size + 1) γ2 w2 γ2 w3 := by rw [← hw3]; exact ext_put γ2 hk2.2 (fun _ _ _ h => by cases h) (fun _ _ _ h => by cases h)
        have hlt2 := (Array.getElem?_eq_some_iff.1 hk2.2).1
        refine ⟨w3, by rw [← hw3]; have := run_beginRound (P := P) hk2.2 (by rw [hrec]); rw [hrec] at this ⊢; exact this, ?_⟩
        have hB : SInv γ2 w3 H2 (Fr .busy) γ2 w3 H2 ρ2 a2 := by
          refine ⟨.refl _ _ _, hi2.st.kept hE3 (fun b o hb e => by subst e; rw [hk2.1] at hb; cases hb), NewKeys.refl _ _, hi2.env.mono hE3.mono, by have := hi2.sz; rw [hFr] at this ⊢; exact this,
            fun n hn => by rw [hFr] at hn; exact absurd hn (Nat.not_lt_zero n), ⟨⟨[], by have := hi2.df.plain (by rw [hFr]); rw [hFr] at this ⊢; exact this, List.nodup_nil, fun _ => rfl, fun b hb => by cases hb⟩, fun x hx => ?_⟩⟩
          rw [hFr] at hx
          rcases List.mem_cons.1 hx with rfl | hx
          · exact ⟨hk2.1, by rw [← hw3]; exact World.putObj_heap_same hlt2⟩
          · have h5 := hi2.df.keep x (by rw [hFr]; exact List.mem_cons_of_mem _ hx)
            exact ⟨h5.1, by rw [← hw3]; exact (World.putObj_heap_other (hK0l x hx)).trans h5.2⟩
        refine wpIn_mono (round_sound (l := w.heap.size + 1) (KP := fun _ _ => False) (fun _ _ _ _ _ h => h) body cbody _ hfb (by rw [hFr]; exact hcb) γ2 w3 H2 _ _ hB hb2) fun e a4 w4 he => ?_
        cases e with
        | exit id => obtain ⟨_, _, _, _, h⟩ := he; exact h.elim
        | ret => obtain ⟨_, _, _, _, h⟩ := he; exact h.elim
        | goto l => exact he.elim
        | outgrown => exact he.elim
        | panic ch => obtain ⟨_, _, _, _, _, _, _, _, _, hf, _⟩ := he; exact hf.elim
        | normal =>
          obtain ⟨γ4, H4, ρ4, hi4, hI4⟩ := he
          have hk4 := hi4.df.keep (w.heap.size + 1, .loop (rec .busy none)) (by rw [hFr]; exact List.mem_cons_self ..)
          obtain ⟨w5, hw5⟩ : ∃ w5, w4.putObj (w.heap.size + 1) (.loop (rec .ready none)) = w5 := ⟨_, rfl⟩
          have hE5 : Ext (fun b => b = w.heap.size + 1) γ4 w4 γ4 w5 := by rw [← hw5]; exact ext_put γ4 hk4.2 (fun _ _ _ h => by cases h) (fun _ _ _ h => by cases h)
          have hEt : Ext (fun b => keysOf H1 b ∨ b = w.heap.size + 1) γ1 w1 γ4 w5 := by
            refine (((hi2.ext.weaken (F' := fun b => keysOf H1 b ∨ b = w.heap.size + 1) fun b h => .inl h).trans hE3 (fun b _ h => .inr h)).trans hi4.ext (fun b hb h => ?_)).trans hE5 (fun b _ h => .inr h)
            rcases hi2.keys b h with h1 | h1
            · exact .inl h1
            · omega
          have hs12 : w1.heap.size ≤ w3.heap.size := Nat.le_trans hi2.ext.mono.size hE3.mono.size
          refine ⟨.bool true, w5, by rw [← hw5]; have := run_endRound (P := P) none hk4.2; rw [hrec] at this ⊢; exact this, γ4, hEt.mono, rfl, H4, ⟨hi1.ext.trans hEt (fun b hb h => ?_), hi4.st.kept hE5 (fun b o hb e => by subst e; rw [hk4.1] at hb; cases hb), ?_, hi1.env.mono hEt.mono, hi1.sz, hi1.fx, ?_⟩, hI4⟩
          · rcases h with h | h
            · rcases hi1.keys b h with h1 | h1
              · exact h1
              · omega
            · omega
          · exact newKeys_trans hi1.keys hi1.ext.mono.size (newKeys_trans hi2.keys hs12 hi4.keys)
          · refine ⟨⟨[], by rw [hFk]; rfl, List.nodup_nil, fun _ => rfl, fun b hb => by cases hb⟩, fun x hx => ?_⟩
            rw [hFk] at hx
            rcases List.mem_cons.1 hx with rfl | hx
            · exact ⟨hk4.1, by rw [← hw5]; exact World.putObj_heap_same (Array.getElem?_eq_some_iff.1 hk4.2).1⟩
            · have h5 := hi4.df.keep x (by rw [hFr]; exact List.mem_cons_of_mem _ hx)
              exact ⟨h5.1, by rw [← hw5]; exact (World.putObj_heap_other (hK0l x hx)).trans h5.2⟩
    · -- behind the iterator
      rintro e w2 ⟨γ2, v, rfl, H2, hi2, hI2⟩
      have hk2 := hi2.df.keep (w.heap.size + 1, .loop (rec .ready none)) (by rw [hFk]; exact List.mem_cons_self ..)
      obtain ⟨w3, hw3⟩ : ∃ w3, w2.putObj (w.heap.size + 1) (.loop (rec .exhausted none)) = w3 := ⟨_, rfl⟩
      have hE3 : Ext (fun b => b = w.heap.size + 1) γ2 w2 γ2 w3 := by rw [← hw3]; exact ext_put γ2 hk2.2 (fun _ _ _ h => by cases h) (fun _ _ _ h => by cases h)
      refine ⟨none, w3, by rw [← hw3]; have := run_endLoop (P := P) hk2.2 (by rw [hrec]; simp); rw [hrec] at this ⊢; exact this, γ2, H2, ρ, ⟨hi2.ext.trans hE3 (fun b hb h => by omega), hi2.st.kept hE3 (fun b o hb e => by subst e; rw [hk2.1] at hb; cases hb), hi2.keys, hi2.env.mono hE3.mono, by have := hi2.sz; rw [hFk] at this; exact this, by have := hi2.fx; rw [hFk] at this; exact this, ?_⟩, hend H2 hI2⟩
      have hkk : ∀ b ∈ w.heap.size :: bs, H2 b = none ∧ w3.heap[b]? = some (.deferred (some [])) := fun b hb => by
        have hm : ((b, Obj.deferred (some [])) : Nat × Obj) ∈ K0 := by rw [hK0]; exact List.mem_map.2 ⟨b, hb, rfl⟩
        have h5 := hi2.df.keep _ (by rw [hFk]; exact List.mem_cons_of_mem _ hm)
        exact ⟨h5.1, by rw [← hw3]; exact (World.putObj_heap_other (hK0l _ hm)).trans h5.2⟩
      refine ⟨⟨w.heap.size :: bs, by show [coll w.heap.size] ++ a.defers = _; rw [hbs]; rfl, ?_, fun (h : F.rf = false) => (by rw [hrf] at h; cases h), fun b hb => ⟨?_, hkk b hb⟩⟩, fun x hx => by rw [hkp] at hx; cases hx⟩
      · exact List.nodup_cons.2 ⟨fun hm => by have := hlw _ _ (hbk _ hm).2; omega, hnd⟩
      · rcases List.mem_cons.1 hb with rfl | hb
        · omega
        · exact (hbk0 b hb).1

theorem pl2 {p q : Bool} {X : Prop} (h : (p && q) = true ∨ X) : (p = true ∨ X) ∧ (q = true ∨ X) := by
  rcases h with h | h
  · simp only [Bool.and_eq_true] at h; exact ⟨.inl h.1, .inl h.2⟩
  · exact ⟨.inr h, .inr h⟩

theorem code_sound {P : Program} {γ0 : Gh} {w0 : World} {H0 : Heap} {F : Fx} {KP : AV → Heap → Prop} (hKP : Wide KP) : ∀ (ac : AC) (code : Code) (Q : AExit → Env → Heap → Prop), (ac.plain = true ∨ (F.rf = true ∧ F.keep = [] ∧ F.base ≤ w0.heap.size)) → chkCode P F.N F.lo code ac = true →
    ∀ (γ : Gh) (w : World) (H : Heap) (ρ : Env) (a : Act), SInv γ0 w0 H0 F γ w H ρ a → awp P KP ac Q ρ H → code.wp P (lift γ0 w0 H0 F KP Q) a w := by
  intro ac
  induction ac with
  | skip =>
    intro code Q hp hc γ w H ρ a hinv hs
    cases code <;> simp only [chkCode] at hc <;> try (cases hc; done)
    · exact wp_skip ⟨γ, H, ρ, hinv, hs⟩
    · exact wp_label ⟨γ, H, ρ, hinv, hs⟩
  | reg c items =>
    intro code Q hp hc γ w H ρ a hinv hs
    cases code <;> simp only [chkCode] at hc <;> try (cases hc; done)
    rename_i id ops draw
    have hQ : ∀ ch a w, PanOk γ0 w0 H0 F KP ch a w → lift γ0 w0 H0 F KP Q (.panic ch) a w := fun _ _ _ h => h
    have hK : ∀ γ w H ρ a, SInv γ0 w0 H0 F γ w H ρ a → Q .normal ρ H → lift γ0 w0 H0 F KP Q .normal a w := fun γ w H ρ a h1 h2 => ⟨γ, H, ρ, h1, h2⟩
    cases draw with
    | true => simp only [if_true] at hc; exact draw_sound hKP hQ hK hc hinv hs
    | false => simp only [Bool.false_eq_true, if_false] at hc; exact seq_sound hQ hK hc hinv hs
  | seq x y ihx ihy =>
    intro code Q hp hc γ w H ρ a hinv hs
    cases code <;> simp only [chkCode] at hc <;> try (cases hc; done)
    simp only [Bool.and_eq_true] at hc
    refine wp_seq (wp_mono (ihx _ _ (pl2 hp).1 hc.1 γ w H ρ a hinv hs) fun e a' w' he => ?_)
    cases e with
    | normal => obtain ⟨γ', H', ρ', h1, h2⟩ := he; exact ihy _ Q (pl2 hp).2 hc.2 γ' w' H' ρ' a' h1 h2
    | exit id => exact he
    | ret => exact he
    | panic ch => exact he
    | goto l => exact he
    | outgrown => exact he
  | join keep x y ihx ihy =>
    intro code Q hp hc γ w H ρ a hinv hs
    cases code <;> simp only [chkCode] at hc <;> try (cases hc; done)
    simp only [Bool.and_eq_true] at hc
    obtain ⟨J, h0, hJ⟩ := hs
    refine wp_seq (wp_mono (ihx _ _ (pl2 hp).1 hc.1 γ w H ρ a hinv h0) fun e a' w' he => ?_)
    cases e with
    | normal => obtain ⟨γ', H', ρ', h1, h2⟩ := he; exact ihy _ Q (pl2 hp).2 hc.2 γ' w' H' (ρ'.keep keep) a' ⟨h1.ext, h1.st, h1.keys, keep_rel h1.env keep, h1.sz, h1.fx, h1.df⟩ (hJ _ _ h2)
    | exit id => exact he
    | ret => exact he
    | panic ch => exact he
    | goto l => exact he
    | outgrown => exact he
  | cond c t e iht ihe =>
    intro code Q hp hc γ w H ρ a hinv hs
    cases code <;> simp only [chkCode] at hc <;> try (cases hc; done)
    simp only [Bool.and_eq_true] at hc
    have hr := chkO_rep hc.1.1 hinv.env
    simp only [awp, condK] at hs
    cases hx : c.ev ρ <;> simp only [hx] at hs hr <;> try (exact False.elim hs)
    · rename_i b
      generalize hv : a.eval _ = v at hr
      cases hr
      cases b with
      | true => exact wp_cond_true hv (iht _ Q (pl2 hp).1 hc.1.2 γ w H ρ a hinv hs)
      | false => exact wp_cond_false hv (ihe _ Q (pl2 hp).2 hc.2 γ w H ρ a hinv hs)
    · rename_i p
      generalize hv : a.eval _ = v at hr
      cases hr with
      | ubool _ b hb =>
        cases b with
        | true => exact wp_cond_true hv (iht _ Q (pl2 hp).1 hc.1.2 γ w H ρ a hinv (hs.1 (hb rfl)))
        | false => exact wp_cond_false hv (ihe _ Q (pl2 hp).2 hc.2 γ w H ρ a hinv hs.2)
  | block id b ih =>
    intro code Q hp hc γ w H ρ a hinv hs
    cases code <;> simp only [chkCode] at hc <;> try (cases hc; done)
    simp only [Bool.and_eq_true, decide_eq_true_eq] at hc
    obtain ⟨rfl, hc⟩ := hc
    rename_i id0 b0
    refine wp_block (wp_mono (ih _ _ hp hc γ w H ρ a hinv hs) fun e a' w' he => ?_)
    cases e with
    | normal => exact he
    | exit i =>
      obtain ⟨γ', H', ρ', h1, h2⟩ := he
      simp only [inBlockQ] at h2
      simp only [Exit.inBlock]
      by_cases hid : i = id0
      · simp only [hid, if_true] at h2 ⊢; exact ⟨γ', H', ρ', h1, h2⟩
      · simp only [hid, if_false] at h2 ⊢; exact ⟨γ', H', ρ', h1, h2⟩
    | ret => exact he
    | panic ch => exact he
    | goto l => exact he
    | outgrown => exact he
  | loop keep b ih =>
    intro code Q hp hc γ w H ρ a hinv hs
    cases code <;> simp only [chkCode] at hc <;> try (cases hc; done)
    obtain ⟨I, ⟨n, h0⟩, hround⟩ := hs
    refine wp_loop_n (fun n a w => ∃ γ H ρ, SInv γ0 w0 H0 F γ w H ρ a ∧ I n ρ H) (n := n) ⟨γ, H, ρ.keep keep, ⟨hinv.ext, hinv.st, hinv.keys, keep_rel hinv.env keep, hinv.sz, hinv.fx, hinv.df⟩, h0⟩ (fun n a w ⟨γ, H, ρ, h1, h2⟩ => ?_)
    refine wp_mono (ih _ _ hp hc γ w H ρ a h1 (hround n ρ H h2)) fun e a' w' he => ?_
    cases e with
    | normal =>
      obtain ⟨γ', H', ρ', h3, m, hm, h4⟩ := he
      exact ⟨m, hm, γ', H', ρ'.keep keep, ⟨h3.ext, h3.st, h3.keys, keep_rel h3.env keep, h3.sz, h3.fx, h3.df⟩, h4⟩
    | exit id => exact he
    | ret => exact he
    | panic ch => exact he
    | goto l => exact he
    | outgrown => exact he
  | scope b ih =>
    intro code Q hp hc γ w H ρ a hinv hs
    cases code <;> simp only [chkCode] at hc <;> try (cases hc; done)
    refine wp_scope_straight (wp_mono (ih _ Q hp hc γ w H ρ a hinv hs) fun e a' w' he => ?_)
    cases e <;> exact he
  | exit id =>
    intro code Q hp hc γ w H ρ a hinv hs
    cases code <;> simp only [chkCode] at hc <;> try (cases hc; done)
    simp only [decide_eq_true_eq] at hc
    subst hc
    exact wp_exit ⟨γ, H, ρ, hinv, hs⟩
  | ret =>
    intro code Q hp hc γ w H ρ a hinv hs
    cases code <;> simp only [chkCode] at hc <;> try (cases hc; done)
    exact wp_ret ⟨γ, H, ρ, hinv, hs⟩
  | rfun g ps asg body iha ihb =>
    intro code Q hp hc γ w H ρ a hinv hs
    have hrf := hp.resolve_left (by simp [AC.plain])
    cases code <;> try (simp only [chkCode] at hc; cases hc; done)
    exact rfun_sound hrf.1 hrf.2.1 hrf.2.2 hc hinv hs

end Go.Ab
