/- Code and functions. -/
import Derived.Test.YtpjafglhdlfnbaaDoorAbsJ
set_option linter.unusedSimpArgs false
set_option linter.unusedVariables false
namespace Go.Ab

def chkOf (items : List AItem) (l : List Nat) : List Chk := l.flatMap fun k => match items[k]? with | some x => entry x | none => []

def annot (items : List AItem) : List (AItem × List Chk) := items.map fun it => (it, chkOf items it.chk)

/-! ### the check of a statement whose order is open -/

/-- (our place, the program's number, the operation) -/
abbrev Row := Nat × Nat × AItem

def rowsFrom : Nat → List Nat → List AItem → List Row
  | k, i :: c, it :: its => (k, i, it) :: rowsFrom (k + 1) c its
  | _, _, _ => []

def placed (items : List AItem) (r : Row) : Placed := (r.2.1, r.2.2, chkOf items r.2.2.chk)

def safeB (ops : Array Oper) (pre : List (List Nat)) (items : List AItem) (r : List Row) (x : Row) : Bool :=
  (r.all fun i => (pre.getD i.2.1 []).contains x.2.1 ||
    (pairB (placed items x).2 (placed items i).2 && ((need x.2.2 i.2.2).isEmpty || (i.2.2.chk.contains x.1 && r.all fun y => match y.2.2.dst with | some d => x.2.2.dst != some d && !x.2.2.looks.contains d | none => true)))) &&
  (match ops[x.2.1]? with | some o => o.after.all fun e => !Region.binds .any e || (decide (e.on < ops.size) && e.on != x.2.1 && r.all fun y => y.2.1 != e.on) | none => false) &&
  (r.all fun y => y.2.1 != x.2.1)

def pokB (ops : Array Oper) (pre : List (List Nat)) (items : List AItem) : List Row → Bool
  | [] => true
  | x :: r => safeB ops pre items r x && pokB ops pre items r

def preOf (ops : Array Oper) : List (List Nat) :=
  ops.toList.foldl (fun acc o => acc ++ [((o.after.toList.filter (Region.binds .any)).flatMap fun e => e.on :: acc.getD e.on []).eraseDups]) []

def preB (ops : Array Oper) (pre : List (List Nat)) : Bool :=
  (List.range ops.size).all fun i => (pre.getD i []).all fun k => match ops[i]? with
    | some o => o.after.any fun e => Region.binds .any e && (e.on == k || (pre.getD e.on []).contains k)
    | none => true

def chkDraw (P : Program) (N lo : Nat) (ops : Array Oper) (c : List Nat) (items : List AItem) : Bool :=
  let rows := rowsFrom 0 c items
  P.follows .mixedOrders && decide (c.length = items.length) && decide (c.length = ops.size) && ((List.range ops.size).all fun i => c.contains i) &&
  (rows.all fun r => match ops[r.2.1]? with | some o => chkItem N lo ops P o r.2.2 | none => false) && preB ops (preOf ops) && pokB ops (preOf ops) items rows

def chkSeq (P : Program) (N lo : Nat) (ops : Array Oper) (items : List AItem) : Bool :=
  decide (ops.size = items.length) && ((ops.toList.zip items).all fun x => chkItem N lo ops P x.1 x.2)

theorem rows_spec {items : List AItem} : ∀ (c : List Nat) (its : List AItem) (k : Nat), c.length = its.length → (∀ j x, its[j]? = some x → items[k + j]? = some x) →
    (rowsFrom k c its).map (fun r => (placed items r).2) = its.map (fun it => (it, chkOf items it.chk)) ∧ (rowsFrom k c its).map (·.2.1) = c ∧ ∀ r ∈ rowsFrom k c its, items[r.1]? = some r.2.2
  | [], [], _, _, _ => by simp [rowsFrom]
  | [], _ :: _, _, h, _ => by simp at h
  | _ :: _, [], _, h, _ => by simp at h
  | i :: c, it :: its, k, h, hi => by
    obtain ⟨h1, h2, h3⟩ := rows_spec c its (k + 1) (by simpa using h) (fun j x hj => by have := hi (j + 1) x (by simpa using hj); rwa [show k + (j + 1) = k + 1 + j by omega] at this)
    refine ⟨by rw [rowsFrom, List.map_cons, List.map_cons, h1]; rfl, by simp [rowsFrom, h2], fun r hr => ?_⟩
    simp only [rowsFrom, List.mem_cons] at hr
    rcases hr with rfl | hr
    · have := hi 0 it rfl; simpa using this
    · exact h3 r hr

theorem pok_of_B {ops : Array Oper} {pre : List (List Nat)} {items : List AItem} : ∀ (r : List Row), (∀ x ∈ r, items[x.1]? = some x.2.2) → pokB ops pre items r = true → (∀ x ∈ r, ∃ o, ops[x.2.1]? = some o) → POK ops (fun i => pre.getD i []) (r.map (placed items))
  | [], _, _, _ => trivial
  | x :: r, hi, h, ho => by
    simp only [pokB, Bool.and_eq_true, safeB] at h
    obtain ⟨⟨⟨h1, h2⟩, h3⟩, h4⟩ := h
    refine ⟨⟨fun i hir => ?_, fun o hox e he hbe => ?_, fun y hy => ?_⟩, pok_of_B r (fun y hy => hi y (List.mem_cons_of_mem _ hy)) h4 (fun y hy => ho y (List.mem_cons_of_mem _ hy))⟩
    · obtain ⟨i, hir', rfl⟩ := List.mem_map.1 hir
      have := List.all_eq_true.1 h1 i hir'
      simp only [Bool.or_eq_true, Bool.and_eq_true] at this
      rcases this with h5 | ⟨h5, h6⟩
      · left; show x.2.1 ∈ pre.getD i.2.1 []; simpa using h5
      · right
        refine ⟨h5, fun c hc => ?_, fun hn y hy d hd => ?_⟩
        · have hne : (need x.2.2 i.2.2).isEmpty = false := by
            have : c ∈ need x.2.2 i.2.2 := hc
            cases hh : need x.2.2 i.2.2 <;> simp_all
          rw [hne] at h6
          simp only [Bool.false_eq_true, false_or] at h6
          have hmem : x.1 ∈ i.2.2.chk := by simpa using h6.1
          have hce : c ∈ entry x.2.2 := by
            have : c ∈ need x.2.2 i.2.2 := hc
            unfold need at this
            split at this
            · exact this
            · cases this
          show c ∈ chkOf items i.2.2.chk
          unfold chkOf
          rw [List.mem_flatMap]
          exact ⟨x.1, hmem, by rw [hi x (List.mem_cons_self ..)]; exact hce⟩
        · obtain ⟨y, hyr, rfl⟩ := List.mem_map.1 hy
          have hne : (need x.2.2 i.2.2).isEmpty = false := by
            have : need x.2.2 i.2.2 ≠ [] := hn
            cases hh : need x.2.2 i.2.2 <;> simp_all
          rw [hne] at h6
          simp only [Bool.false_eq_true, false_or] at h6
          have := List.all_eq_true.1 h6.2 y hyr
          have hd' : y.2.2.dst = some d := hd
          rw [hd'] at this
          simp only [Bool.and_eq_true, bne_iff_ne, ne_eq, Bool.not_eq_true'] at this
          exact ⟨this.1, by show ¬ d ∈ x.2.2.looks; simpa using this.2⟩
    · have hox' : ops[x.2.1]? = some o := hox
      rw [hox'] at h2
      simp only at h2
      have := Array.all_eq_true_iff_forall_mem.1 h2 e he
      simp only [hbe, Bool.not_true, Bool.false_or, Bool.and_eq_true, decide_eq_true_eq, bne_iff_ne, ne_eq] at this
      refine ⟨this.1.1, this.1.2, fun y hy => ?_⟩
      obtain ⟨y, hyr, rfl⟩ := List.mem_map.1 hy
      have := List.all_eq_true.1 this.2 y hyr
      show y.2.1 ≠ e.on
      simpa using this
    · obtain ⟨y, hyr, rfl⟩ := List.mem_map.1 hy
      have := List.all_eq_true.1 h3 y hyr
      simpa [placed] using this

theorem draw_sound {P : Program} {γ0 : Gh} {w0 : World} {H0 : Heap} {F : Fx} {KP : AV → Heap → Prop} (hKP : Wide KP) {id : Nat} {ops : Array Oper} {Q : Exit → Act → World → Prop} {K : Env → Heap → Prop} {c : List Nat} {items : List AItem}
    (hQ : ∀ ch a w, PanOk γ0 w0 H0 F KP ch a w → Q (.panic ch) a w) (hK : ∀ γ w H ρ a, SInv γ0 w0 H0 F γ w H ρ a → K ρ H → Q .normal a w)
    (h : chkDraw P F.N F.lo ops c items = true) {γ : Gh} {w : World} {H : Heap} {ρ : Env} {a : Act} (hinv : SInv γ0 w0 H0 F γ w H ρ a) (hs : awpItems P KP (annot items) ρ H K) : (Code.region id ops true).wp P Q a w := by
  simp only [chkDraw, Bool.and_eq_true, decide_eq_true_eq] at h
  obtain ⟨⟨⟨⟨⟨⟨hm, hl⟩, hlo⟩, hall⟩, hit⟩, hpre⟩, hpok⟩ := h
  obtain ⟨hr1, hr2, hr3⟩ := rows_spec (items := items) c items 0 hl (fun j x hj => by simpa using hj)
  refine wp_region_any hm ?_
  have hinv' : SInv γ0 w0 H0 F γ w.drew H ρ a :=
    ⟨hinv.ext.trans (ext_drew (fun _ => False) γ w) (fun _ _ f => f.elim), hinv.st.kept (ext_drew (fun _ => False) γ w) (fun _ _ _ f => f), hinv.keys, hinv.env.mono (ext_drew (fun _ => False) γ w).mono, hinv.sz, hinv.fx, hinv.df⟩
  have hsome : ∀ x ∈ rowsFrom 0 c items, ∃ o, ops[x.2.1]? = some o ∧ chkItem F.N F.lo ops P o x.2.2 = true := fun x hx => by
    have := List.all_eq_true.1 hit x hx
    split at this
    · rename_i o ho; exact ⟨o, ho, this⟩
    · cases this
  refine any_sound hKP (pre := fun i => (preOf ops).getD i []) hQ hK (fun i o ho k hk => ?_) ops.size ((rowsFrom 0 c items).map (placed items)) _ γ w.drew H ρ a (by simp) ?_ (pok_of_B _ hr3 hpok fun x hx => let ⟨o, ho, _⟩ := hsome x hx; ⟨o, ho⟩) (fun x hx => ?_) (fun i hi => ?_) (fun j hj => ?_) hinv' ?_
  · have h1 := List.all_eq_true.1 hpre i (List.mem_range.2 (Array.getElem?_eq_some_iff.1 ho).1)
    have h2 := List.all_eq_true.1 h1 k hk
    rw [ho] at h2
    simp only at h2
    obtain ⟨e, he, hb⟩ := Array.any_eq_true'.1 h2
    simp only [Bool.and_eq_true, Bool.or_eq_true, beq_iff_eq] at hb
    exact ⟨e, he, hb.1, hb.2.imp (fun h => h) (fun h => by simpa using h)⟩
  · have := congrArg List.length hr2
    rw [List.length_map] at this
    rw [List.length_map, this, hlo]
    exact Nat.le_refl _
  · obtain ⟨x, hxr, rfl⟩ := List.mem_map.1 hx
    exact hsome x hxr
  · constructor
    · intro _
      have := List.all_eq_true.1 hall i (List.mem_range.2 hi)
      have hic : i ∈ c := by simpa using this
      rw [← hr2] at hic
      obtain ⟨r, hr, rfl⟩ := List.mem_map.1 hic
      exact ⟨placed items r, List.mem_map.2 ⟨r, hr, rfl⟩, rfl⟩
    · intro _; simp [hi]
  · intro k hk
    by_cases hlt : j < ops.size <;> simp [hlt] at hj
  · have e : ((rowsFrom 0 c items).map (placed items)).map (·.2) = annot items := by
      rw [List.map_map]; exact hr1
    rw [e]; exact hs

theorem seq_sound {P : Program} {γ0 : Gh} {w0 : World} {H0 : Heap} {F : Fx} {KP : AV → Heap → Prop} {id : Nat} {ops : Array Oper} {Q : Exit → Act → World → Prop} {K : Env → Heap → Prop} {items : List AItem}
    (hQ : ∀ ch a w, PanOk γ0 w0 H0 F KP ch a w → Q (.panic ch) a w) (hK : ∀ γ w H ρ a, SInv γ0 w0 H0 F γ w H ρ a → K ρ H → Q .normal a w)
    (h : chkSeq P F.N F.lo ops items = true) {γ : Gh} {w : World} {H : Heap} {ρ : Env} {a : Act} (hinv : SInv γ0 w0 H0 F γ w H ρ a) (hs : awpItems P KP (annot items) ρ H K) : (Code.region id ops false).wp P Q a w := by
  simp only [chkSeq, Bool.and_eq_true, decide_eq_true_eq] at h
  obtain ⟨hl, hall⟩ := h
  refine wp_region (items_sound hQ hK (List.range ops.size) (annot items) (by simp [annot, hl]) (fun k i it hk hit => ?_) γ w H ρ a hinv hs)
  obtain ⟨h1, h2⟩ := List.getElem?_eq_some_iff.1 hk
  simp at h1 h2
  subst h2
  simp only [annot, List.getElem?_map, Option.map_eq_some_iff] at hit
  obtain ⟨x, hx, rfl⟩ := hit
  refine ⟨ops[k], by simp [h1], ?_⟩
  have hz : (ops.toList.zip items)[k]? = some (ops[k], x) := by
    rw [List.getElem?_zip_eq_some]
    exact ⟨by simp [h1], hx⟩
  exact List.all_eq_true.1 hall _ (List.mem_of_getElem? hz)

/-! ### code -/

inductive AC where
  | skip
  | reg (c : List Nat) (items : List AItem)
  | seq (a b : AC)
  | join (keep : List Nat) (a b : AC)
  | cond (c : Opd) (t e : AC)
  | block (id : Nat) (b : AC)
  | loop (keep : List Nat) (b : AC)
  | scope (b : AC)
  | exit (id : Nat)
  | ret

inductive AExit where
  | normal
  | exit (id : Nat)
  | ret

def envOf : List (Nat × AV) → Env
  | [], _ => .any
  | (d, c) :: r, n => if n = d then c else envOf r n

theorem envOf_set (l : List (Nat × AV)) (d : Nat) (c : AV) : (envOf l).set (some d) c = envOf ((d, c) :: l) := rfl
theorem envOf_set_none (ρ : Env) (c : AV) : ρ.set none c = ρ := rfl
theorem envOf_cons (l : List (Nat × AV)) (d n : Nat) (c : AV) : envOf ((d, c) :: l) n = if n = d then c else envOf l n := rfl

def Env.keep (ρ : Env) (l : List Nat) : Env := envOf (l.map fun n => (n, ρ n))

def thenQ (K : Env → Heap → Prop) (Q : AExit → Env → Heap → Prop) : AExit → Env → Heap → Prop
  | .normal => K
  | e => Q e

def inBlockQ (id : Nat) (Q : AExit → Env → Heap → Prop) : AExit → Env → Heap → Prop
  | .exit i => if i = id then Q .normal else Q (.exit i)
  | e => Q e

def condK (c : AV) (X Y : Prop) : Prop :=
  match c with
  | .bool true => X
  | .bool false => Y
  | .ubool p => (p → X) ∧ Y
  | _ => False

def awp (P : Program) (KP : AV → Heap → Prop) : AC → (AExit → Env → Heap → Prop) → Env → Heap → Prop
  | .skip, Q, ρ, H => Q .normal ρ H
  | .reg _ items, Q, ρ, H => awpItems P KP (annot items) ρ H (Q .normal)
  | .seq a b, Q, ρ, H => awp P KP a (thenQ (awp P KP b Q) Q) ρ H
  | .join keep a b, Q, ρ, H => ∃ J : Env → Heap → Prop, awp P KP a (thenQ (fun ρ' H' => J (ρ'.keep keep) H') Q) ρ H ∧ ∀ ρ H, J ρ H → awp P KP b Q ρ H
  | .cond c t e, Q, ρ, H => condK (c.ev ρ) (awp P KP t Q ρ H) (awp P KP e Q ρ H)
  | .block id b, Q, ρ, H => awp P KP b (inBlockQ id Q) ρ H
  | .loop keep b, Q, ρ, H => ∃ I : Nat → Env → Heap → Prop, (∃ n, I n (ρ.keep keep) H) ∧ ∀ n ρ H, I n ρ H → awp P KP b (thenQ (fun ρ' H' => ∃ m, m < n ∧ I m (ρ'.keep keep) H') Q) ρ H
  | .scope b, Q, ρ, H => awp P KP b Q ρ H
  | .exit id, Q, ρ, H => Q (.exit id) ρ H
  | .ret, Q, ρ, H => Q .ret ρ H

def chkCode (P : Program) (N lo : Nat) : Code → AC → Bool
  | .skip, .skip => true
  | .label _, .skip => true
  | .region _ ops draw, .reg c items => if draw then chkDraw P N lo ops c items else chkSeq P N lo ops items
  | .seq a b, .seq a' b' => chkCode P N lo a a' && chkCode P N lo b b'
  | .seq a b, .join _ a' b' => chkCode P N lo a a' && chkCode P N lo b b'
  | .cond c t e, .cond c' t' e' => chkO c c' && chkCode P N lo t t' && chkCode P N lo e e'
  | .block id b, .block id' b' => decide (id = id') && chkCode P N lo b b'
  | .loop b, .loop _ b' => chkCode P N lo b b'
  | .scope b, .scope b' => chkCode P N lo b b'
  | .exit id, .exit id' => decide (id = id')
  | .ret, .ret => true
  | _, _ => false

def lift (γ0 : Gh) (w0 : World) (H0 : Heap) (F : Fx) (KP : AV → Heap → Prop) (Q : AExit → Env → Heap → Prop) : Exit → Act → World → Prop
  | .normal, a, w => ∃ γ H ρ, SInv γ0 w0 H0 F γ w H ρ a ∧ Q .normal ρ H
  | .exit id, a, w => ∃ γ H ρ, SInv γ0 w0 H0 F γ w H ρ a ∧ Q (.exit id) ρ H
  | .ret, a, w => ∃ γ H ρ, SInv γ0 w0 H0 F γ w H ρ a ∧ Q .ret ρ H
  | .panic ch, a, w => PanOk γ0 w0 H0 F KP ch a w
  | .goto _, _, _ => False
  | .outgrown, _, _ => False

theorem keep_rel {γ : Gh} {w : World} {ρ : Env} {tmps : Array Value} (h : EnvRel γ w ρ tmps) (l : List Nat) : EnvRel γ w (ρ.keep l) tmps := by
  refine ⟨h.tab, fun n => ?_⟩
  unfold Env.keep
  induction l with
  | nil => exact .any _
  | cons x l ih =>
    simp only [List.map_cons, envOf]
    split
    · rename_i e; subst e; exact h.rep n
    · exact ih

theorem least {p : Nat → Prop} (h : ∃ n, p n) : ∃ n, p n ∧ ∀ m, p m → n ≤ m := by
  obtain ⟨n, hn⟩ := h
  induction n using Nat.strongRecOn with
  | _ n ih =>
    by_cases hx : ∃ m, m < n ∧ p m
    · obtain ⟨m, hm, hp⟩ := hx; exact ih m hm hp
    · exact ⟨n, hn, fun m hm => Nat.le_of_not_lt fun hlt => hx ⟨m, hlt, hm⟩⟩

/-- A loop, by a relation with a number that goes down. -/
theorem wp_loop_n {P : Program} {Q : Exit → Act → World → Prop} {c : Code} (J : Nat → Act → World → Prop) {a : Act} {w : World} {n : Nat} (h0 : J n a w)
    (round : ∀ n a w, J n a w → c.wp P (Exit.then (fun a' w' => ∃ m, m < n ∧ J m a' w') Q) a w) : (Code.loop c).wp P Q a w := by
  classical
  refine wp_loop (fun a w => ∃ n, J n a w) (fun a w => if h : ∃ n, J n a w then Classical.choose (least h) else 0) ⟨n, h0⟩ (fun a w hI => ?_)
  have hs := Classical.choose_spec (least hI)
  refine wp_mono (round _ a w hs.1) (fun e a' w' hq => ?_)
  cases e <;> first | exact hq | skip
  obtain ⟨m, hm, hJ⟩ := hq
  refine ⟨⟨m, hJ⟩, ?_⟩
  have hI' : ∃ n, J n a' w' := ⟨m, hJ⟩
  have hle := (Classical.choose_spec (least hI')).2 m hJ
  simp only [hI, hI', dif_pos]
  omega

theorem code_sound {P : Program} {γ0 : Gh} {w0 : World} {H0 : Heap} {F : Fx} {KP : AV → Heap → Prop} (hKP : Wide KP) : ∀ (ac : AC) (code : Code) (Q : AExit → Env → Heap → Prop), chkCode P F.N F.lo code ac = true →
    ∀ (γ : Gh) (w : World) (H : Heap) (ρ : Env) (a : Act), SInv γ0 w0 H0 F γ w H ρ a → awp P KP ac Q ρ H → code.wp P (lift γ0 w0 H0 F KP Q) a w := by
  intro ac
  induction ac with
  | skip =>
    intro code Q hc γ w H ρ a hinv hs
    cases code <;> simp only [chkCode] at hc <;> try (cases hc; done)
    · exact wp_skip ⟨γ, H, ρ, hinv, hs⟩
    · exact wp_label ⟨γ, H, ρ, hinv, hs⟩
  | reg c items =>
    intro code Q hc γ w H ρ a hinv hs
    cases code <;> simp only [chkCode] at hc <;> try (cases hc; done)
    rename_i id ops draw
    have hQ : ∀ ch a w, PanOk γ0 w0 H0 F KP ch a w → lift γ0 w0 H0 F KP Q (.panic ch) a w := fun _ _ _ h => h
    have hK : ∀ γ w H ρ a, SInv γ0 w0 H0 F γ w H ρ a → Q .normal ρ H → lift γ0 w0 H0 F KP Q .normal a w := fun γ w H ρ a h1 h2 => ⟨γ, H, ρ, h1, h2⟩
    cases draw with
    | true => simp only [if_true] at hc; exact draw_sound hKP hQ hK hc hinv hs
    | false => simp only [Bool.false_eq_true, if_false] at hc; exact seq_sound hQ hK hc hinv hs
  | seq x y ihx ihy =>
    intro code Q hc γ w H ρ a hinv hs
    cases code <;> simp only [chkCode] at hc <;> try (cases hc; done)
    simp only [Bool.and_eq_true] at hc
    refine wp_seq (wp_mono (ihx _ _ hc.1 γ w H ρ a hinv hs) fun e a' w' he => ?_)
    cases e with
    | normal => obtain ⟨γ', H', ρ', h1, h2⟩ := he; exact ihy _ Q hc.2 γ' w' H' ρ' a' h1 h2
    | exit id => exact he
    | ret => exact he
    | panic ch => exact he
    | goto l => exact he
    | outgrown => exact he
  | join keep x y ihx ihy =>
    intro code Q hc γ w H ρ a hinv hs
    cases code <;> simp only [chkCode] at hc <;> try (cases hc; done)
    simp only [Bool.and_eq_true] at hc
    obtain ⟨J, h0, hJ⟩ := hs
    refine wp_seq (wp_mono (ihx _ _ hc.1 γ w H ρ a hinv h0) fun e a' w' he => ?_)
    cases e with
    | normal => obtain ⟨γ', H', ρ', h1, h2⟩ := he; exact ihy _ Q hc.2 γ' w' H' (ρ'.keep keep) a' ⟨h1.ext, h1.st, h1.keys, keep_rel h1.env keep, h1.sz, h1.fx, h1.df⟩ (hJ _ _ h2)
    | exit id => exact he
    | ret => exact he
    | panic ch => exact he
    | goto l => exact he
    | outgrown => exact he
  | cond c t e iht ihe =>
    intro code Q hc γ w H ρ a hinv hs
    cases code <;> simp only [chkCode] at hc <;> try (cases hc; done)
    simp only [Bool.and_eq_true] at hc
    have hr := chkO_rep hc.1.1 hinv.env
    simp only [awp, condK] at hs
    cases hx : c.ev ρ <;> simp only [hx] at hs hr <;> try (exact False.elim hs)
    · rename_i b
      generalize hv : a.eval _ = v at hr
      cases hr
      cases b with
      | true => exact wp_cond_true hv (iht _ Q hc.1.2 γ w H ρ a hinv hs)
      | false => exact wp_cond_false hv (ihe _ Q hc.2 γ w H ρ a hinv hs)
    · rename_i p
      generalize hv : a.eval _ = v at hr
      cases hr with
      | ubool _ b hb =>
        cases b with
        | true => exact wp_cond_true hv (iht _ Q hc.1.2 γ w H ρ a hinv (hs.1 (hb rfl)))
        | false => exact wp_cond_false hv (ihe _ Q hc.2 γ w H ρ a hinv hs.2)
  | block id b ih =>
    intro code Q hc γ w H ρ a hinv hs
    cases code <;> simp only [chkCode] at hc <;> try (cases hc; done)
    simp only [Bool.and_eq_true, decide_eq_true_eq] at hc
    obtain ⟨rfl, hc⟩ := hc
    rename_i id0 b0
    refine wp_block (wp_mono (ih _ _ hc γ w H ρ a hinv hs) fun e a' w' he => ?_)
    cases e with
    | normal => exact he
    | exit i =>
      obtain ⟨γ', H', ρ', h1, h2⟩ := he
      simp only [inBlockQ] at h2
      simp only [Exit.inBlock]
      by_cases hid : i = id0
      · simp only [hid, if_true] at h2 ⊢; exact ⟨γ', H', ρ', h1, h2⟩
      · simp only [hid, if_false] at h2 ⊢; exact ⟨γ', H', ρ', h1, h2⟩
    | ret => exact he
    | panic ch => exact he
    | goto l => exact he
    | outgrown => exact he
  | loop keep b ih =>
    intro code Q hc γ w H ρ a hinv hs
    cases code <;> simp only [chkCode] at hc <;> try (cases hc; done)
    obtain ⟨I, ⟨n, h0⟩, hround⟩ := hs
    refine wp_loop_n (fun n a w => ∃ γ H ρ, SInv γ0 w0 H0 F γ w H ρ a ∧ I n ρ H) (n := n) ⟨γ, H, ρ.keep keep, ⟨hinv.ext, hinv.st, hinv.keys, keep_rel hinv.env keep, hinv.sz, hinv.fx, hinv.df⟩, h0⟩ (fun n a w ⟨γ, H, ρ, h1, h2⟩ => ?_)
    refine wp_mono (ih _ _ hc γ w H ρ a h1 (hround n ρ H h2)) fun e a' w' he => ?_
    cases e with
    | normal =>
      obtain ⟨γ', H', ρ', h3, m, hm, h4⟩ := he
      exact ⟨m, hm, γ', H', ρ'.keep keep, ⟨h3.ext, h3.st, h3.keys, keep_rel h3.env keep, h3.sz, h3.fx, h3.df⟩, h4⟩
    | exit id => exact he
    | ret => exact he
    | panic ch => exact he
    | goto l => exact he
    | outgrown => exact he
  | scope b ih =>
    intro code Q hc γ w H ρ a hinv hs
    cases code <;> simp only [chkCode] at hc <;> try (cases hc; done)
    refine wp_scope_straight (wp_mono (ih _ Q hc γ w H ρ a hinv hs) fun e a' w' he => ?_)
    cases e <;> exact he
  | exit id =>
    intro code Q hc γ w H ρ a hinv hs
    cases code <;> simp only [chkCode] at hc <;> try (cases hc; done)
    simp only [decide_eq_true_eq] at hc
    subst hc
    exact wp_exit ⟨γ, H, ρ, hinv, hs⟩
  | ret =>
    intro code Q hc γ w H ρ a hinv hs
    cases code <;> simp only [chkCode] at hc <;> try (cases hc; done)
    exact wp_ret ⟨γ, H, ρ, hinv, hs⟩

end Go.Ab
