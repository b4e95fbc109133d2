/- Stepping: what is still to do is data, so that a rewriter goes no further than it should. -/
import Derived.Test.YthkpgjnibolnhaaAbsL
set_option linter.unusedSimpArgs false
set_option linter.unusedVariables false
namespace Go.Ab

def chkAt (x : Option AItem) : List Chk := match x with | some x => entry x | none => []
theorem chkAt_some (d : Option Nat) (g : Option (Nat × Bool)) (op : AOp) (c : List Nat) : chkAt (some ⟨d, g, op, c⟩) = match d with | some d => [(d, g, op)] | none => [] := by cases d <;> rfl

/-- What is still to do behind a piece of code. -/
inductive Fr where
  | code (b : AC)
  | blk (id : Nat)
  | rep (keep : List Nat) (J : Env → Heap → Prop)

def D (P : Program) (KP : AV → Heap → Prop) (Q : AExit → Env → Heap → Prop) : List Fr → AExit → Env → Heap → Prop
  | [] => Q
  | .code b :: st => thenQ (awp P KP b (D P KP Q st)) (D P KP Q st)
  | .blk id :: st => inBlockQ id (D P KP Q st)
  | .rep keep J :: st => thenQ (fun ρ H => J (ρ.keep keep) H) (D P KP Q st)

def goC (P : Program) (KP : AV → Heap → Prop) (Q : AExit → Env → Heap → Prop) (c : AC) (st : List Fr) (ρ : Env) (H : Heap) : Prop := awp P KP c (D P KP Q st) ρ H
def goD (P : Program) (KP : AV → Heap → Prop) (Q : AExit → Env → Heap → Prop) (st : List Fr) (ρ : Env) (H : Heap) : Prop := D P KP Q st .normal ρ H
def goE (P : Program) (KP : AV → Heap → Prop) (Q : AExit → Env → Heap → Prop) (e : AExit) (st : List Fr) (ρ : Env) (H : Heap) : Prop := D P KP Q st e ρ H
def goI (P : Program) (KP : AV → Heap → Prop) (Q : AExit → Env → Heap → Prop) (all l : List AItem) (st : List Fr) (ρ : Env) (H : Heap) : Prop :=
  awpItems P KP (l.map fun it => (it, chkOf all it.chk)) ρ H (fun ρ' H' => D P KP Q st .normal ρ' H')
def goR (P : Program) (KP : AV → Heap → Prop) (Q : AExit → Env → Heap → Prop) (all l : List AItem) (st : List Fr) (R : List Chk) (ρ : Env) (H : Heap) : Prop :=
  recheck ρ H R ∧ goI P KP Q all l st ρ H
/-- a guarded step -/
def goG (P : Program) (KP : AV → Heap → Prop) (Q : AExit → Env → Heap → Prop) (all l : List AItem) (st : List Fr) (g : AV) (want : Bool) (d : Option Nat) (op : AOp) (R : List Chk) (ρ : Env) (H : Heap) : Prop :=
  match g with
  | .bool b => if b == want then aop P KP op ρ H (fun v H' => goR P KP Q all l st R (ρ.set d v) H') else goI P KP Q all l st (ρ.set d (.tup [])) H
  | .tup [] => goI P KP Q all l st (ρ.set d (.tup [])) H
  | _ => False
def goO (P : Program) (KP : AV → Heap → Prop) (Q : AExit → Env → Heap → Prop) (all l : List AItem) (st : List Fr) (d : Option Nat) (op : AOp) (R : List Chk) (ρ : Env) (H : Heap) : Prop :=
  aop P KP op ρ H (fun v H' => goR P KP Q all l st R (ρ.set d v) H')
/-- behind a value -/
def goV (P : Program) (KP : AV → Heap → Prop) (Q : AExit → Env → Heap → Prop) (all l : List AItem) (st : List Fr) (d : Option Nat) (ρ : Env) (H : Heap) (v : Option AV) : Prop :=
  match v with
  | some v => goI P KP Q all l st (ρ.set d v) H
  | none => False
/-- behind a call -/
def goK (P : Program) (KP : AV → Heap → Prop) (Q : AExit → Env → Heap → Prop) (all l : List AItem) (st : List Fr) (d : Option Nat) (R : List Chk) (ρ : Env) (f : FuncId) (args : List AV) (H : Heap) : Prop :=
  ACalls P f args H (endK (fun v H' => goR P KP Q all l st R (ρ.set d v) H') KP)
/-- behind an allocation -/
def goA (P : Program) (KP : AV → Heap → Prop) (Q : AExit → Env → Heap → Prop) (all l : List AItem) (st : List Fr) (d : Option Nat) (R : List Chk) (ρ : Env) (H : Heap) (op : AOp) (x : Option AObj) : Prop :=
  match x with
  | some x => ∀ b, H b = none → goR P KP Q all l st R (ρ.set d (optr ρ b op)) (H.upd b x)
  | none => Scarce H
/-- behind an append -/
def goP (P : Program) (KP : AV → Heap → Prop) (Q : AExit → Env → Heap → Prop) (all l : List AItem) (st : List Fr) (d : Option Nat) (R : List Chk) (ρ : Env) (sz bytes : Nat) (x y : AV) (H : Heap) : Prop :=
  appK sz bytes x y H (fun v H' => goR P KP Q all l st R (ρ.set d v) H')
/-- behind a store -/
def goS (P : Program) (KP : AV → Heap → Prop) (Q : AExit → Env → Heap → Prop) (all l : List AItem) (st : List Fr) (d : Option Nat) (R : List Chk) (ρ : Env) (n : Nat) (x : AV) (y : List AV) (bx : Bool) (H : Heap) : Prop :=
  match x with
  | .ptr b off => match H b with
    | some (.cells cs) => y.length = n ∧ off + n ≤ cs.length ∧ bx = true ∧ goR P KP Q all l st R (ρ.set d (.tup [])) (H.upd b (.cells (splice cs off y)))
    | _ => False
  | _ => False
/-- a branch -/
def goB (P : Program) (KP : AV → Heap → Prop) (Q : AExit → Env → Heap → Prop) (c : AV) (t e : AC) (st : List Fr) (ρ : Env) (H : Heap) : Prop :=
  condK c (goC P KP Q t st ρ H) (goC P KP Q e st ρ H)
/-- two pieces of code with a meeting point between them -/
def goU (P : Program) (KP : AV → Heap → Prop) (Q : AExit → Env → Heap → Prop) (keep : List Nat) (a b : AC) (st : List Fr) (ρ : Env) (H : Heap) : Prop := goC P KP Q (.join keep a b) st ρ H
/-- a loop -/
def goL (P : Program) (KP : AV → Heap → Prop) (Q : AExit → Env → Heap → Prop) (keep : List Nat) (b : AC) (st : List Fr) (ρ : Env) (H : Heap) : Prop := goC P KP Q (.loop keep b) st ρ H

section
variable {P : Program} {KP : AV → Heap → Prop} {Q : AExit → Env → Heap → Prop} {st : List Fr} {ρ : Env} {H : Heap}

theorem go_skip : goC P KP Q .skip st ρ H = goD P KP Q st ρ H := rfl
theorem go_seq (a b : AC) : goC P KP Q (.seq a b) st ρ H = goC P KP Q a (.code b :: st) ρ H := rfl
theorem go_join (keep : List Nat) (a b : AC) : goC P KP Q (.join keep a b) st ρ H = goU P KP Q keep a b st ρ H := rfl
theorem go_reg (c : List Nat) (l : List AItem) : goC P KP Q (.reg c l) st ρ H = goI P KP Q l l st ρ H := rfl
theorem go_cond (c : Opd) (t e : AC) : goC P KP Q (.cond c t e) st ρ H = goB P KP Q (c.ev ρ) t e st ρ H := rfl
theorem go_block (id : Nat) (b : AC) : goC P KP Q (.block id b) st ρ H = goC P KP Q b (.blk id :: st) ρ H := rfl
theorem go_scope (b : AC) : goC P KP Q (.scope b) st ρ H = goC P KP Q b st ρ H := rfl
theorem go_exit (id : Nat) : goC P KP Q (.exit id) st ρ H = goE P KP Q (.exit id) st ρ H := rfl
theorem go_ret : goC P KP Q .ret st ρ H = goE P KP Q .ret st ρ H := rfl
theorem go_loop (keep : List Nat) (b : AC) : goC P KP Q (.loop keep b) st ρ H = goL P KP Q keep b st ρ H := rfl
theorem goD_code (b : AC) : goD P KP Q (.code b :: st) ρ H = goC P KP Q b st ρ H := rfl
theorem goD_blk (id : Nat) : goD P KP Q (.blk id :: st) ρ H = goD P KP Q st ρ H := rfl
theorem goD_rep (keep : List Nat) (J : Env → Heap → Prop) : goD P KP Q (.rep keep J :: st) ρ H = J (ρ.keep keep) H := rfl
theorem goD_nil : goD P KP Q [] ρ H = Q .normal ρ H := rfl
theorem goE_nil (e : AExit) : goE P KP Q e [] ρ H = Q e ρ H := rfl
theorem goE_ret_code (b : AC) : goE P KP Q .ret (.code b :: st) ρ H = goE P KP Q .ret st ρ H := rfl
theorem goE_ret_blk (id : Nat) : goE P KP Q .ret (.blk id :: st) ρ H = goE P KP Q .ret st ρ H := rfl
theorem goE_ret_rep (keep : List Nat) (J : Env → Heap → Prop) : goE P KP Q .ret (.rep keep J :: st) ρ H = goE P KP Q .ret st ρ H := rfl
theorem goE_exit_code (i : Nat) (b : AC) : goE P KP Q (.exit i) (.code b :: st) ρ H = goE P KP Q (.exit i) st ρ H := rfl
theorem goE_exit_blk (i id : Nat) : goE P KP Q (.exit i) (.blk id :: st) ρ H = if i = id then goD P KP Q st ρ H else goE P KP Q (.exit i) st ρ H := by
  simp only [goE, goD, D, inBlockQ]; split <;> rfl
theorem goE_exit_rep (i : Nat) (keep : List Nat) (J : Env → Heap → Prop) : goE P KP Q (.exit i) (.rep keep J :: st) ρ H = goE P KP Q (.exit i) st ρ H := rfl

variable {all l : List AItem} {d : Option Nat} {R : List Chk}

theorem goI_nil : goI P KP Q all [] st ρ H = goD P KP Q st ρ H := rfl
theorem goI_cons (op : AOp) (c : List Nat) : goI P KP Q all (⟨d, none, op, c⟩ :: l) st ρ H = goO P KP Q all l st d op (chkOf all c) ρ H := rfl
theorem goI_guard (s : Nat) (w : Bool) (op : AOp) (c : List Nat) : goI P KP Q all (⟨d, some (s, w), op, c⟩ :: l) st ρ H = goG P KP Q all l st (ρ s) w d op (chkOf all c) ρ H := by
  simp only [goI, List.map_cons, awpItems, istepR, gv, goG]
  cases hx : ρ s <;> try rfl
  · rename_i b
    cases b <;> cases w <;> rfl
  · rename_i vs
    cases vs <;> rfl
theorem goR_nil : goR P KP Q all l st [] ρ H = goI P KP Q all l st ρ H := by simp [goR, recheck]
theorem chkOf_nil (items : List AItem) : chkOf items [] = [] := rfl

theorem goG_tt (op : AOp) : goG P KP Q all l st (.bool true) true d op R ρ H = goO P KP Q all l st d op R ρ H := rfl
theorem goG_ff (op : AOp) : goG P KP Q all l st (.bool false) false d op R ρ H = goO P KP Q all l st d op R ρ H := rfl
theorem goG_tf (op : AOp) : goG P KP Q all l st (.bool true) false d op R ρ H = goI P KP Q all l st (ρ.set d (.tup [])) H := rfl
theorem goG_ft (op : AOp) : goG P KP Q all l st (.bool false) true d op R ρ H = goI P KP Q all l st (ρ.set d (.tup [])) H := rfl
theorem goG_no (w : Bool) (op : AOp) : goG P KP Q all l st (.tup []) w d op R ρ H = goI P KP Q all l st (ρ.set d (.tup [])) H := rfl

theorem goG_split {b w : Bool} {op : AOp} (h1 : b = w → goO P KP Q all l st d op R ρ H) (h2 : b = (!w) → goI P KP Q all l st (ρ.set d (.tup [])) H) : goG P KP Q all l st (.bool b) w d op R ρ H := by
  cases b <;> cases w <;> first | exact h1 rfl | exact h2 rfl

/-! the operations -/

theorem goO_pure (op : AOp) (h : op.cls = .pure) : goO P KP Q all l st d op [] ρ H = goV P KP Q all l st d ρ H (pev ρ op) := by
  simp only [goO, aop, h, goV]
  cases pev ρ op with
  | none => rfl
  | some v => simp only [goR_nil]
theorem goO_read (op : AOp) (h : op.cls = .read) : goO P KP Q all l st d op [] ρ H = goV P KP Q all l st d ρ H (rev ρ H op) := by
  simp only [goO, aop, h, goV]
  cases rev ρ H op with
  | none => rfl
  | some v => simp only [goR_nil]
theorem goV_some (v : AV) : goV P KP Q all l st d ρ H (some v) = goI P KP Q all l st (ρ.set d v) H := rfl
theorem goO_alloc (op : AOp) (h : op.cls = .alloc) : goO P KP Q all l st d op R ρ H = goA P KP Q all l st d R ρ H op (oev ρ op) := by
  simp only [goO, aop, h, goA]
  cases oev ρ op <;> rfl
theorem o_mv (x : Opd) : goO P KP Q all l st d (.mv x) [] ρ H = goV P KP Q all l st d ρ H (pev ρ (.mv x)) := goO_pure _ rfl
theorem o_pick (c a b : Opd) : goO P KP Q all l st d (.pick c a b) [] ρ H = goV P KP Q all l st d ρ H (pev ρ (.pick c a b)) := goO_pure _ rfl
theorem o_nilchk (x : Opd) : goO P KP Q all l st d (.nilchk x) [] ρ H = goV P KP Q all l st d ρ H (pev ρ (.nilchk x)) := goO_pure _ rfl
theorem o_bi (o : BinOp) (k : IntKind) (x y : Opd) : goO P KP Q all l st d (.bi o k x y) [] ρ H = goV P KP Q all l st d ρ H (pev ρ (.bi o k x y)) := goO_pure _ rfl
theorem o_shf (o : BinOp) (x y : Opd) : goO P KP Q all l st d (.shf o x y) [] ρ H = goV P KP Q all l st d ρ H (pev ρ (.shf o x y)) := goO_pure _ rfl
theorem o_bs (o : BinOp) (x y : Opd) : goO P KP Q all l st d (.bs o x y) [] ρ H = goV P KP Q all l st d ρ H (pev ρ (.bs o x y)) := goO_pure _ rfl
theorem o_bb (neg : Bool) (x y : Opd) : goO P KP Q all l st d (.bb neg x y) [] ρ H = goV P KP Q all l st d ρ H (pev ρ (.bb neg x y)) := goO_pure _ rfl
theorem o_eqa (neg : Bool) (ks : List K1) (x y : Opd) : goO P KP Q all l st d (.eqa neg ks x y) [] ρ H = goV P KP Q all l st d ρ H (pev ρ (.eqa neg ks x y)) := goO_pure _ rfl
theorem o_isnil (nk : NK) (x : Opd) : goO P KP Q all l st d (.isnil nk x) [] ρ H = goV P KP Q all l st d ρ H (pev ρ (.isnil nk x)) := goO_pure _ rfl
theorem o_isnn (nk : NK) (x : Opd) : goO P KP Q all l st d (.isnn nk x) [] ρ H = goV P KP Q all l st d ρ H (pev ρ (.isnn nk x)) := goO_pure _ rfl
theorem o_ineg (x : Opd) : goO P KP Q all l st d (.ineg x) [] ρ H = goV P KP Q all l st d ρ H (pev ρ (.ineg x)) := goO_pure _ rfl
theorem o_ifnil (neg : Bool) (x : Opd) : goO P KP Q all l st d (.ifnil neg x) [] ρ H = goV P KP Q all l st d ρ H (pev ρ (.ifnil neg x)) := goO_pure _ rfl
theorem o_tas (t : TypeId) (z : AV) (x : Opd) : goO P KP Q all l st d (.tas t z x) [] ρ H = goV P KP Q all l st d ρ H (pev ρ (.tas t z x)) := goO_pure _ rfl
theorem o_not (x : Opd) : goO P KP Q all l st d (.not x) [] ρ H = goV P KP Q all l st d ρ H (pev ρ (.not x)) := goO_pure _ rfl
theorem o_cvi (k : IntKind) (x : Opd) : goO P KP Q all l st d (.cvi k x) [] ρ H = goV P KP Q all l st d ρ H (pev ρ (.cvi k x)) := goO_pure _ rfl
theorem o_cvid (x : Opd) : goO P KP Q all l st d (.cvid x) [] ρ H = goV P KP Q all l st d ρ H (pev ρ (.cvid x)) := goO_pure _ rfl
theorem o_cvb2s (x : Opd) : goO P KP Q all l st d (.cvb2s x) [] ρ H = goV P KP Q all l st d ρ H (pev ρ (.cvb2s x)) := goO_pure _ rfl
theorem o_bld (zero : List AV) (parts : List (Nat × Nat × Opd)) : goO P KP Q all l st d (.bld zero parts) [] ρ H = goV P KP Q all l st d ρ H (pev ρ (.bld zero parts)) := goO_pure _ rfl
theorem o_bls (sz len : Nat) (zero : List AV) (parts : List (Nat × Opd)) : goO P KP Q all l st d (.bls sz len zero parts) [] ρ H = goV P KP Q all l st d ρ H (pev ρ (.bls sz len zero parts)) := goO_pure _ rfl
theorem o_mkfn (f : FuncId) (first caps : List Opd) : goO P KP Q all l st d (.mkfn f first caps) [] ρ H = goV P KP Q all l st d ρ H (pev ρ (.mkfn f first caps)) := goO_pure _ rfl
theorem o_ext (x : Opd) (i : Nat) : goO P KP Q all l st d (.ext x i) [] ρ H = goV P KP Q all l st d ρ H (pev ρ (.ext x i)) := goO_pure _ rfl
theorem o_mki (t : TypeId) (x : Opd) : goO P KP Q all l st d (.mki t x) [] ρ H = goV P KP Q all l st d ρ H (pev ρ (.mki t x)) := goO_pure _ rfl
theorem o_fa (off : Nat) (x : Opd) : goO P KP Q all l st d (.fa off x) [] ρ H = goV P KP Q all l st d ρ H (pev ρ (.fa off x)) := goO_pure _ rfl
theorem o_fld (off n : Nat) (ag : Bool) (x : Opd) : goO P KP Q all l st d (.fld off n ag x) [] ρ H = goV P KP Q all l st d ρ H (pev ρ (.fld off n ag x)) := goO_pure _ rfl
theorem o_ia (sz : Nat) (x i : Opd) : goO P KP Q all l st d (.ia sz x i) [] ρ H = goV P KP Q all l st d ρ H (pev ρ (.ia sz x i)) := goO_pure _ rfl
theorem o_ixs (x i : Opd) : goO P KP Q all l st d (.ixs x i) [] ρ H = goV P KP Q all l st d ρ H (pev ρ (.ixs x i)) := goO_pure _ rfl
theorem o_sls (x : Opd) (lo hi : Option Opd) : goO P KP Q all l st d (.sls x lo hi) [] ρ H = goV P KP Q all l st d ρ H (pev ρ (.sls x lo hi)) := goO_pure _ rfl
theorem o_sll (sz : Nat) (x : Opd) (lo hi mx : Option Opd) : goO P KP Q all l st d (.sll sz x lo hi mx) [] ρ H = goV P KP Q all l st d ρ H (pev ρ (.sll sz x lo hi mx)) := goO_pure _ rfl
theorem o_sllx (sz : Nat) (x hi : Opd) : goO P KP Q all l st d (.sllx sz x hi) [] ρ H = goV P KP Q all l st d ρ H (pev ρ (.sllx sz x hi)) := goO_pure _ rfl
theorem o_len (x : Opd) : goO P KP Q all l st d (.len x) [] ρ H = goV P KP Q all l st d ρ H (pev ρ (.len x)) := goO_pure _ rfl
theorem o_lens (x : Opd) : goO P KP Q all l st d (.lens x) [] ρ H = goV P KP Q all l st d ρ H (pev ρ (.lens x)) := goO_pure _ rfl
theorem o_mm (mx : Bool) (x : Opd) (ys : List Opd) : goO P KP Q all l st d (.mm mx x ys) [] ρ H = goV P KP Q all l st d ρ H (pev ρ (.mm mx x ys)) := goO_pure _ rfl
theorem o_boxv (x : Opd) : goO P KP Q all l st d (.boxv x) [] ρ H = goV P KP Q all l st d ρ H (pev ρ (.boxv x)) := goO_pure _ rfl
theorem o_ld (n : Nat) (ag : Bool) (x : Opd) : goO P KP Q all l st d (.ld n ag x) [] ρ H = goV P KP Q all l st d ρ H (rev ρ H (.ld n ag x)) := goO_read _ rfl
theorem o_lkp (kt : KT) (zero : AV) (ok : Bool) (m k : Opd) : goO P KP Q all l st d (.lkp kt zero ok m k) [] ρ H = goV P KP Q all l st d ρ H (rev ρ H (.lkp kt zero ok m k)) := goO_read _ rfl
theorem o_lenm (x : Opd) : goO P KP Q all l st d (.lenm x) [] ρ H = goV P KP Q all l st d ρ H (rev ρ H (.lenm x)) := goO_read _ rfl
theorem o_alloc (zero : List AV) : goO P KP Q all l st d (.alloc zero) R ρ H = goA P KP Q all l st d R ρ H (.alloc zero) (oev ρ (.alloc zero)) := goO_alloc _ rfl
theorem o_box (x : Opd) : goO P KP Q all l st d (.box x) R ρ H = goA P KP Q all l st d R ρ H (.box x) (oev ρ (.box x)) := goO_alloc _ rfl
theorem o_mkm (kt : KT) : goO P KP Q all l st d (.mkm kt) R ρ H = goA P KP Q all l st d R ρ H (.mkm kt) (oev ρ (.mkm kt)) := goO_alloc _ rfl
theorem o_mks (sz bytes : Nat) (n : Opd) : goO P KP Q all l st d (.mks sz bytes n) R ρ H = goA P KP Q all l st d R ρ H (.mks sz bytes n) (oev ρ (.mks sz bytes n)) := goO_alloc _ rfl
theorem o_mksn (zero : List AV) (bytes : Nat) (n : Opd) : goO P KP Q all l st d (.mksn zero bytes n) R ρ H = goA P KP Q all l st d R ρ H (.mksn zero bytes n) (oev ρ (.mksn zero bytes n)) := goO_alloc _ rfl
theorem chkOf_cons (items : List AItem) (k : Nat) (ks : List Nat) : chkOf items (k :: ks) = chkAt items[k]? ++ chkOf items ks := by
  simp only [chkOf, List.flatMap_cons, chkAt]; rfl
theorem goR_none (n : Nat) (o : AOp) : goR P KP Q all l st ((n, none, o) :: R) ρ H = (rev ρ H o = some (ρ n) ∧ goR P KP Q all l st R ρ H) := by
  simp [goR, recheck, gv, and_assoc]
theorem goR_some (n s : Nat) (w : Bool) (o : AOp) : goR P KP Q all l st ((n, some (s, w), o) :: R) ρ H = ((gv (some (s, w)) ρ = some true → rev ρ H o = some (ρ n)) ∧ goR P KP Q all l st R ρ H) := by
  simp [goR, recheck, and_assoc]
theorem goA_intro {op : AOp} {x : AObj} (h : ∀ b, H b = none → goR P KP Q all l st R (ρ.set d (optr ρ b op)) (H.upd b x)) : goA P KP Q all l st d R ρ H op (some x) := h
theorem o_call (f : FuncId) (args : List Opd) : goO P KP Q all l st d (.call f args) R ρ H = goK P KP Q all l st d R ρ f (args.map (Opd.ev ρ)) H := rfl
theorem o_app (sz bytes : Nat) (x y : Opd) : goO P KP Q all l st d (.app sz bytes x y) R ρ H = goP P KP Q all l st d R ρ sz bytes (x.ev ρ) (y.ev ρ) H := rfl
theorem o_st (n : Nat) (x y : Opd) : goO P KP Q all l st d (.st n x y) R ρ H = goS P KP Q all l st d R ρ n (x.ev ρ) (y.ev ρ).cells (y.ev ρ).boxable H := by
  simp only [goO, aop, AOp.cls, eff, goS]
  cases x.ev ρ <;> rfl
def goT (P : Program) (KP : AV → Heap → Prop) (Q : AExit → Env → Heap → Prop) (all l : List AItem) (st : List Fr) (d : Option Nat) (R : List Chk) (ρ : Env) (n b off : Nat) (y : List AV) (bx : Bool) (H : Heap) (o : Option AObj) : Prop :=
  match o with
  | some (.cells cs) => y.length = n ∧ off + n ≤ cs.length ∧ bx = true ∧ goR P KP Q all l st R (ρ.set d (.tup [])) (H.upd b (.cells (splice cs off y)))
  | _ => False
theorem goS_ptr {b off n : Nat} {y : List AV} {bx : Bool} : goS P KP Q all l st d R ρ n (.ptr b off) y bx H = goT P KP Q all l st d R ρ n b off y bx H (H b) := by
  simp only [goS, goT]
theorem goT_cells {b off n : Nat} {y cs : List AV} {bx : Bool} : goT P KP Q all l st d R ρ n b off y bx H (some (.cells cs)) = (y.length = n ∧ off + n ≤ cs.length ∧ bx = true ∧ goR P KP Q all l st R (ρ.set d (.tup [])) (H.upd b (.cells (splice cs off y)))) := rfl

/-- A call of a function that computes. -/
theorem goK_pure {f : FuncId} {args : List AV} {r : AV} (h : Pure P f args r) (hk : goR P KP Q all l st R (ρ.set d r) H) : goK P KP Q all l st d R ρ f args H := h.use hk

theorem goK_calls {f : FuncId} {args : List AV} {X : AEnd → Heap → Prop} (h : ACalls P f args H X) (hk : ∀ e H', X e H' → endK (fun v H' => goR P KP Q all l st R (ρ.set d v) H') KP e H') : goK P KP Q all l st d R ρ f args H := h.mono hk

theorem goB_t (t e : AC) : goB P KP Q (.bool true) t e st ρ H = goC P KP Q t st ρ H := rfl
theorem goB_f (t e : AC) : goB P KP Q (.bool false) t e st ρ H = goC P KP Q e st ρ H := rfl
theorem goB_split {b : Bool} {t e : AC} (h1 : b = true → goC P KP Q t st ρ H) (h2 : b = false → goC P KP Q e st ρ H) : goB P KP Q (.bool b) t e st ρ H := by
  cases b with
  | true => exact h1 rfl
  | false => exact h2 rfl
theorem goB_u {p : Prop} {t e : AC} (h1 : p → goC P KP Q t st ρ H) (h2 : goC P KP Q e st ρ H) : goB P KP Q (.ubool p) t e st ρ H := ⟨h1, h2⟩

/-- A loop: an invariant with a number that goes down. -/
theorem goL_rule {keep : List Nat} {b : AC} (I : Nat → Env → Heap → Prop) (n0 : Nat) (h0 : I n0 (ρ.keep keep) H)
    (hr : ∀ n ρ H (J : Env → Heap → Prop), I n ρ H → (∀ m ρ' H', m < n → I m ρ' H' → J ρ' H') → goC P KP Q b (.rep keep J :: st) ρ H) : goL P KP Q keep b st ρ H := by
  refine ⟨I, ⟨n0, h0⟩, fun n ρ H hI => ?_⟩
  exact hr n ρ H (fun ρ' H' => ∃ m, m < n ∧ I m ρ' H') hI fun m ρ' H' hm hi => ⟨m, hm, hi⟩

/-- An append to a slice that is one's own, or nil, or full: what comes out is one's own. -/
theorem goP_tip {sz bytes b dr : Nat} {o : Own} {xs ys : List (List AV)} (hb : H b = some (.tip (dr + xs.length) sz)) (h1 : (xs.length + ys.length) * bytes ≤ 140737488355328) (h2 : xs.length + ys.length ≤ maxLen)
    (hk : ∀ b' dr', (H.del b) b' = none → goR P KP Q all l st R (ρ.set d (.sl (.tip b' dr') sz (xs ++ ys.map (·.map AV.strip1)))) ((H.del b).upd b' (.tip (dr' + (xs.length + ys.length)) sz))) :
    goP P KP Q all l st d R ρ sz bytes (.sl (.tip b dr) sz xs) (.sl o sz ys) H := ⟨rfl, rfl, h1, h2, hb, hk⟩
theorem goP_new {sz bytes : Nat} {o o' : Own} {xs ys : List (List AV)} (ho : o' = .nil ∨ o' = .full) (hne : ys ≠ []) (h1 : (xs.length + ys.length) * bytes ≤ 140737488355328) (h2 : xs.length + ys.length ≤ maxLen)
    (hk : ∀ b, H b = none → goR P KP Q all l st R (ρ.set d (.sl (.tip b 0) sz (xs ++ ys.map (·.map AV.strip1)))) (H.upd b (.tip (xs.length + ys.length) sz))) :
    goP P KP Q all l st d R ρ sz bytes (.sl o' sz xs) (.sl o sz ys) H := by
  refine ⟨rfl, rfl, h1, h2, ?_⟩
  rcases ho with rfl | rfl <;> exact ⟨fun h => (hne h).elim, fun _ => hk⟩

end

/-- The cells of a memory that is not touched. -/
theorem upd_same (H : Heap) (b : Nat) (o : AObj) : (H.upd b o) b = some o := by simp [Heap.upd]
theorem upd_ne {H : Heap} {b c : Nat} {o : AObj} (h : c ≠ b) : (H.upd b o) c = H c := by simp [Heap.upd, h]
theorem upd_upd (H : Heap) (b : Nat) (o o' : AObj) : (H.upd b o).upd b o' = H.upd b o' := by funext c; simp only [Heap.upd]; split <;> rfl
theorem del_upd {H : Heap} {b : Nat} {o : AObj} (h : H b = none) : (H.upd b o).del b = H := by funext c; simp only [Heap.upd, Heap.del]; split <;> simp_all
theorem ne_fresh {H : Heap} {b c : Nat} {o : AObj} (h : (H.upd b o) c = none) : c ≠ b := fun e => by subst e; simp [Heap.upd] at h
theorem fresh_of {H : Heap} {b c : Nat} {o : AObj} (h : (H.upd b o) c = none) : H c = none := by have := ne_fresh h; simpa [Heap.upd, this] using h

def keepL (ρ : Env) : List Nat → List (Nat × AV)
  | [] => []
  | n :: l => (n, ρ n) :: keepL ρ l
theorem keepL_nil (ρ : Env) : keepL ρ [] = [] := rfl
theorem keepL_cons (ρ : Env) (n : Nat) (l : List Nat) : keepL ρ (n :: l) = (n, ρ n) :: keepL ρ l := rfl
theorem keep_eq (ρ : Env) (l : List Nat) : ρ.keep l = envOf (keepL ρ l) := by
  unfold Env.keep
  congr 1
  induction l with
  | nil => rfl
  | cons n l ih => simp [keepL, ih]
theorem evs_nil (ρ : Env) : [].map (Opd.ev ρ) = [] := rfl
theorem evs_cons (ρ : Env) (x : Opd) (xs : List Opd) : (x :: xs).map (Opd.ev ρ) = x.ev ρ :: xs.map (Opd.ev ρ) := rfl
theorem if_Pt (a b : Prop) : (if True then a else b) = a := if_pos trivial
theorem if_Pf (a b : Prop) : (if False then a else b) = b := if_neg id
theorem if_Ot (a b : Option AV) : (if True then a else b) = a := if_pos trivial
theorem if_Of (a b : Option AV) : (if False then a else b) = b := if_neg id
theorem if_At (a b : AV) : (if True then a else b) = a := if_pos trivial
theorem if_Af (a b : AV) : (if False then a else b) = b := if_neg id
theorem set_none (ρ : Env) (c : AV) : ρ.set none c = ρ := rfl
theorem set_some (l : List (Nat × AV)) (d : Nat) (c : AV) : (envOf l).set (some d) c = envOf ((d, c) :: l) := rfl
theorem envOf_nil (n : Nat) : envOf [] n = .any := rfl
theorem ev_t (ρ : Env) (n : Nat) : (Opd.t n).ev ρ = ρ n := rfl
theorem ev_k (ρ : Env) (c : AV) : (Opd.k c).ev ρ = c := rfl
theorem ibeq (a b : Int) : (a == b) = decide (a = b) := rfl
theorem ibne (a b : Int) : (a != b) = decide (a ≠ b) := by rw [decide_not]; rfl
theorem sbeq (a b : List UInt8) : (a == b) = decide (a = b) := by by_cases h : a = b <;> simp [h]
theorem wrap64 {n : Int} (h1 : -9223372036854775808 ≤ n) (h2 : n < 9223372036854775808) : IntKind.wrap .i64 n = n := by rw [IntKind.wrap_i64]; omega

/-- behind an append to a slice that is written to; behind a freezing -/
def goPm (P : Program) (KP : AV → Heap → Prop) (Q : AExit → Env → Heap → Prop) (all l : List AItem) (st : List Fr) (d : Option Nat) (R : List Chk) (ρ : Env) (sz bytes : Nat) (zero : List AV) (x y : AV) (H : Heap) : Prop :=
  appmK sz bytes zero x y H (fun v H' => goR P KP Q all l st R (ρ.set d v) H')
def goZ (P : Program) (KP : AV → Heap → Prop) (Q : AExit → Env → Heap → Prop) (all l : List AItem) (st : List Fr) (d : Option Nat) (R : List Chk) (ρ : Env) (sz : Nat) (x : AV) (H : Heap) : Prop :=
  frzK sz x H (fun v H' => goR P KP Q all l st R (ρ.set d v) H')
section
variable {P : Program} {KP : AV → Heap → Prop} {Q : AExit → Env → Heap → Prop} {st : List Fr} {ρ : Env} {H : Heap} {all l : List AItem} {d : Option Nat} {R : List Chk}
theorem o_appm (sz bytes : Nat) (zero : List AV) (x y : Opd) : goO P KP Q all l st d (.appm sz bytes zero x y) R ρ H = goPm P KP Q all l st d R ρ sz bytes zero (x.ev ρ) (y.ev ρ) H := rfl
theorem o_frz (sz : Nat) (x : Opd) : goO P KP Q all l st d (.frz sz x) R ρ H = goZ P KP Q all l st d R ρ sz (x.ev ρ) H := rfl
theorem o_blsm (sz n : Nat) (zero : List AV) (qs : List (Nat × Opd)) : goO P KP Q all l st d (.blsm sz n zero qs) R ρ H = goA P KP Q all l st d R ρ H (.blsm sz n zero qs) (oev ρ (.blsm sz n zero qs)) := goO_alloc _ rfl
theorem goPm_nil {sz bytes : Nat} {zero : List AV} {o2 : Own} {ys : List (List AV)} (hz : zero.length = sz) (h1 : ys.length * bytes ≤ 140737488355328) (h2 : ys.length ≤ maxLen) (h3 : ys = [] → goR P KP Q all l st R (ρ.set d (.sl .nil sz [])) H)
    (h4 : ys ≠ [] → ∀ b cap, H b = none → ys.length ≤ cap → cap ≤ maxLen → goR P KP Q all l st R (ρ.set d (.ms b 0 ys.length cap)) (H.upd b (.cells (ys.flatten.map AV.strip1 ++ madeA zero (cap - ys.length))))) :
    goPm P KP Q all l st d R ρ sz bytes zero (.sl .nil sz []) (.sl o2 sz ys) H := ⟨rfl, hz, rfl, rfl, h1, h2, h3, h4⟩
theorem goPm_ms {sz bytes : Nat} {zero : List AV} {o2 : Own} {ys : List (List AV)} {b off len cap : Nat} {cs : List AV} (hb : H b = some (.cells cs)) (hz : zero.length = sz) (h1 : (len + ys.length) * bytes ≤ 140737488355328) (h2 : len + ys.length ≤ maxLen)
    (h3 : len + ys.length ≤ cap → off + (len + ys.length) * sz ≤ cs.length ∧ goR P KP Q all l st R (ρ.set d (.ms b off (len + ys.length) cap)) (H.upd b (.cells (splice cs (off + len * sz) (ys.flatten.map AV.strip1)))))
    (h4 : cap < len + ys.length → off + len * sz ≤ cs.length ∧ ∀ b' cap', H b' = none → len + ys.length ≤ cap' → cap' ≤ maxLen → goR P KP Q all l st R (ρ.set d (.ms b' 0 (len + ys.length) cap')) (H.upd b' (.cells ((cs.drop off).take (len * sz) ++ ys.flatten.map AV.strip1 ++ madeA zero (cap' - (len + ys.length)))))) :
    goPm P KP Q all l st d R ρ sz bytes zero (.ms b off len cap) (.sl o2 sz ys) H := by
  refine ⟨rfl, hz, h1, h2, ?_⟩
  simp only [hb]
  exact ⟨h3, h4⟩
theorem goZ_ms {sz b off len cap : Nat} {cs : List AV} (hb : H b = some (.cells cs)) (hz : 0 < sz) (h1 : off + len * sz ≤ cs.length) (h2 : goR P KP Q all l st R (ρ.set d (.sl .no sz (rowsA sz len (cs.drop off)))) (H.del b)) : goZ P KP Q all l st d R ρ sz (.ms b off len cap) H := by
  simp only [goZ, frzK, hb]
  exact ⟨hz, h1, h2⟩
end

/-- All equations of the stepping, in one. -/
theorem steps : type_of% (And.intro @go_skip <| And.intro @go_seq <| And.intro @go_join <| And.intro @go_reg <| And.intro @go_cond <| And.intro @go_block <| And.intro @go_scope <| And.intro @go_exit <| And.intro @go_ret <| And.intro @go_loop <|
  And.intro @goD_code <| And.intro @goD_blk <| And.intro @goD_rep <| And.intro @goD_nil <| And.intro @goE_nil <| And.intro @goE_ret_code <| And.intro @goE_ret_blk <| And.intro @goE_ret_rep <| And.intro @goE_exit_code <| And.intro @goE_exit_blk <| And.intro @goE_exit_rep <|
  And.intro @goI_nil <| And.intro @goI_cons <| And.intro @goI_guard <| And.intro @goR_nil <| And.intro @chkOf_nil <| And.intro @chkOf_cons <| And.intro @chkAt_some <| And.intro @goR_none <| And.intro @goR_some <| And.intro @o_mks <| And.intro @o_mksn <| And.intro @goG_tt <| And.intro @goG_ff <| And.intro @goG_tf <| And.intro @goG_ft <| And.intro @goG_no <|
  And.intro @goV_some <| And.intro @o_mv <| And.intro @o_pick <| And.intro @o_nilchk <| And.intro @o_bi <| And.intro @o_shf <| And.intro @o_bs <| And.intro @o_bb <| And.intro @o_eqa <| And.intro @o_isnil <| And.intro @o_isnn <| And.intro @o_ineg <| And.intro @o_ifnil <| And.intro @o_tas <| And.intro @o_not <| And.intro @o_cvi <| And.intro @o_cvid <| And.intro @o_cvb2s <| And.intro @o_bld <| And.intro @o_bls <| And.intro @o_mkfn <| And.intro @o_ext <| And.intro @o_mki <| And.intro @o_fa <| And.intro @o_fld <| And.intro @o_ia <| And.intro @o_ixs <| And.intro @o_sls <| And.intro @o_appm <| And.intro @o_frz <| And.intro @o_blsm <| And.intro @o_sll <| And.intro @o_sllx <| And.intro @o_len <| And.intro @o_lens <| And.intro @o_mm <| And.intro @o_boxv <| And.intro @o_ld <| And.intro @o_lkp <| And.intro @o_lenm <| And.intro @o_alloc <| And.intro @o_box <| And.intro @o_mkm <| And.intro @o_call <| And.intro @o_app <| And.intro @o_st <| And.intro @goS_ptr <| And.intro @goT_cells <| And.intro @goB_t <| And.intro @goB_f <|
  And.intro @keep_eq <| And.intro @set_none <| And.intro @set_some <| And.intro @envOf_nil <| And.intro @envOf_cons <| And.intro @ev_t <| And.intro @ev_k <| And.intro @ibeq <| And.intro @ibne <| And.intro @sbeq <|
  And.intro @upd_same <| And.intro @upd_upd <| And.intro @evs_cons <| And.intro @evs_nil <| And.intro @keepL_cons <| And.intro @keepL_nil <| And.intro @if_Pt <| And.intro @if_Pf <| And.intro @if_Ot <| And.intro @if_Of <| And.intro @if_At <| And.intro @if_Af <| And.intro @and_self <| And.intro @true_and <| @and_true) :=
  And.intro @go_skip <| And.intro @go_seq <| And.intro @go_join <| And.intro @go_reg <| And.intro @go_cond <| And.intro @go_block <| And.intro @go_scope <| And.intro @go_exit <| And.intro @go_ret <| And.intro @go_loop <|
  And.intro @goD_code <| And.intro @goD_blk <| And.intro @goD_rep <| And.intro @goD_nil <| And.intro @goE_nil <| And.intro @goE_ret_code <| And.intro @goE_ret_blk <| And.intro @goE_ret_rep <| And.intro @goE_exit_code <| And.intro @goE_exit_blk <| And.intro @goE_exit_rep <|
  And.intro @goI_nil <| And.intro @goI_cons <| And.intro @goI_guard <| And.intro @goR_nil <| And.intro @chkOf_nil <| And.intro @chkOf_cons <| And.intro @chkAt_some <| And.intro @goR_none <| And.intro @goR_some <| And.intro @o_mks <| And.intro @o_mksn <| And.intro @goG_tt <| And.intro @goG_ff <| And.intro @goG_tf <| And.intro @goG_ft <| And.intro @goG_no <|
  And.intro @goV_some <| And.intro @o_mv <| And.intro @o_pick <| And.intro @o_nilchk <| And.intro @o_bi <| And.intro @o_shf <| And.intro @o_bs <| And.intro @o_bb <| And.intro @o_eqa <| And.intro @o_isnil <| And.intro @o_isnn <| And.intro @o_ineg <| And.intro @o_ifnil <| And.intro @o_tas <| And.intro @o_not <| And.intro @o_cvi <| And.intro @o_cvid <| And.intro @o_cvb2s <| And.intro @o_bld <| And.intro @o_bls <| And.intro @o_mkfn <| And.intro @o_ext <| And.intro @o_mki <| And.intro @o_fa <| And.intro @o_fld <| And.intro @o_ia <| And.intro @o_ixs <| And.intro @o_sls <| And.intro @o_appm <| And.intro @o_frz <| And.intro @o_blsm <| And.intro @o_sll <| And.intro @o_sllx <| And.intro @o_len <| And.intro @o_lens <| And.intro @o_mm <| And.intro @o_boxv <| And.intro @o_ld <| And.intro @o_lkp <| And.intro @o_lenm <| And.intro @o_alloc <| And.intro @o_box <| And.intro @o_mkm <| And.intro @o_call <| And.intro @o_app <| And.intro @o_st <| And.intro @goS_ptr <| And.intro @goT_cells <| And.intro @goB_t <| And.intro @goB_f <|
  And.intro @keep_eq <| And.intro @set_none <| And.intro @set_some <| And.intro @envOf_nil <| And.intro @envOf_cons <| And.intro @ev_t <| And.intro @ev_k <| And.intro @ibeq <| And.intro @ibne <| And.intro @sbeq <|
  And.intro @upd_same <| And.intro @upd_upd <| And.intro @evs_cons <| And.intro @evs_nil <| And.intro @keepL_cons <| And.intro @keepL_nil <| And.intro @if_Pt <| And.intro @if_Pf <| And.intro @if_Ot <| And.intro @if_Of <| And.intro @if_At <| And.intro @if_Af <| And.intro @and_self <| And.intro @true_and <| @and_true

/-- A contract for a function that computes: stepping, with how it ends shut away. -/
theorem Pure.go {P : Program} {f : FuncId} (af : AFn) (hc : chkFn P f af = true) {args : List AV} {r : AV} (hnp : args.length ≤ af.np)
    (h : ∀ KP Q, (∀ e ρ H vs, (∀ i, e ≠ .exit i) → resvs ρ H af.res = some vs → (tupOf vs).strip = r → Q e ρ H) → goC P KP Q af.body [] (envOf (mkArgs 0 args)) Heap.emp) : Pure P f args r :=
  Pure.of_fn af hc hnp (h _ _ fun e ρ H vs he hv hr => finQ_pure he ⟨vs, hv, hr⟩)

/-! ### slices that one may append to -/

def Owned (H : Heap) (o : Own) (n sz : Nat) : Prop :=
  match o with
  | .no => False
  | .nil => n = 0
  | .full => True
  | .tip b d => H b = some (.tip (d + n) sz)

/-- What an append at o leaves alone. -/
def Kept (H : Heap) (o : Own) (H' : Heap) : Prop := ∀ b x, H b = some x → (∀ d, o ≠ .tip b d) → H' b = some x

def NewTip (H : Heap) (o o' : Own) : Prop := ∀ b d, o' = .tip b d → H b = none ∨ ∃ d0, o = .tip b d0

theorem Owned.nil (H : Heap) (sz : Nat) : Owned H .nil 0 sz := rfl
theorem Owned.full (H : Heap) (n sz : Nat) : Owned H .full n sz := trivial

theorem goP_own {P : Program} {KP : AV → Heap → Prop} {Q : AExit → Env → Heap → Prop} {st : List Fr} {ρ : Env} {H : Heap} {all l : List AItem} {d : Option Nat} {R : List Chk} {sz bytes : Nat} {o o2 : Own} {xs ys : List (List AV)}
    (how : Owned H o xs.length sz) (h1 : (xs.length + ys.length) * bytes ≤ 140737488355328) (h2 : xs.length + ys.length ≤ maxLen)
    (hk : ∀ o' H', Owned H' o' (xs.length + ys.length) sz → Kept H o H' → NewTip H o o' → goR P KP Q all l st R (ρ.set d (.sl o' sz (xs ++ ys.map (·.map AV.strip1)))) H') :
    goP P KP Q all l st d R ρ sz bytes (.sl o sz xs) (.sl o2 sz ys) H := by
  refine ⟨rfl, rfl, h1, h2, ?_⟩
  cases o with
  | no => exact how.elim
  | nil =>
    refine ⟨fun hy => ?_, fun hy b hb => hk _ _ (by simp [Owned, Heap.upd]) (fun c x hc hn => ?_) (fun c d' e => ?_)⟩
    · subst hy
      have hx : xs = [] := List.eq_nil_of_length_eq_zero how
      subst hx
      exact hk .nil H rfl (fun b x hb _ => hb) (fun b d' e => by cases e)
    · have hne : c ≠ b := fun e => by subst e; rw [hb] at hc; cases hc
      simp [Heap.upd, hne, hc]
    · cases e; exact .inl hb
  | full =>
    refine ⟨fun hy => ?_, fun hy b hb => hk _ _ (by simp [Owned, Heap.upd]) (fun c x hc hn => ?_) (fun c d' e => ?_)⟩
    · subst hy
      have := hk .full H trivial (fun b x hb _ => hb) (fun b d' e => by cases e)
      simpa using this
    · have hne : c ≠ b := fun e => by subst e; rw [hb] at hc; cases hc
      simp [Heap.upd, hne, hc]
    · cases e; exact .inl hb
  | tip b dr =>
    refine ⟨how, fun b' dr' hb' => hk _ _ (by simp [Owned, Heap.upd]) (fun c x hc hn => ?_) (fun c d' e => ?_)⟩
    · have hcb : c ≠ b := fun e => by subst e; exact hn dr rfl
      have hcb' : c ≠ b' := fun e => by subst e; simp [Heap.del, hcb, hc] at hb'
      simp [Heap.upd, Heap.del, hcb, hcb', hc]
    · cases e
      by_cases hbb : b' = b
      · subst hbb; exact .inr ⟨dr, rfl⟩
      · left; simpa [Heap.del, hbb] using hb'

/-- A contract, stepping: how it ends is shut away; what is handed back is no one's. -/
theorem ACalls.go {P : Program} {f : FuncId} (af : AFn) (hc : chkFn P f af = true) {args : List AV} {H : Heap} {R : AV → Heap → Prop} (hnp : args.length ≤ af.np)
    (h : ∀ KP Q, (∀ e ρ H1 H2 vs, (∀ i, e ≠ .exit i) → resvs ρ H1 af.res = some vs → Low H2 H1 → R (tupOf vs).strip H2 → Q e ρ H1) → goC P KP Q af.body [] (envOf (mkArgs 0 args)) H) : ACalls P f args H (fun e H' => ∃ v, e = .ret v ∧ R v H') := by
  refine ACalls.strip ((ACalls.of_fn (Q := fun e H' => match e with | .ret v => R v.strip H' | .pan _ => False) af hc hnp (h _ _ fun e ρ H1 H2 vs he hv hs hr => ?_)).mono fun e H' hq => ?_)
  · cases e with
    | exit i => exact absurd rfl (he i)
    | normal => simp only [finQ, hv]; exact ⟨H2, hs, hr⟩
    | ret => simp only [finQ, hv]; exact ⟨H2, hs, hr⟩
  · cases e with
    | ret v => exact ⟨_, rfl, hq⟩
    | pan v => exact hq.elim

theorem goK_ret {P : Program} {KP : AV → Heap → Prop} {Q : AExit → Env → Heap → Prop} {st : List Fr} {ρ : Env} {H : Heap} {all l : List AItem} {d : Option Nat} {R : List Chk} {f : FuncId} {args : List AV} {X : AV → Heap → Prop}
    (h : ACalls P f args H (fun e H' => ∃ v, e = .ret v ∧ X v H')) (hk : ∀ v H', X v H' → goR P KP Q all l st R (ρ.set d v) H') : goK P KP Q all l st d R ρ f args H :=
  h.mono fun e H' ⟨v, he, hx⟩ => by subst he; exact hk v H' hx

/-- The callee asks no ownership. -/
theorem ACalls.low {P : Program} {f : FuncId} {args : List AV} {H : Heap} {Q : AEnd → Heap → Prop} (h : ACalls P f (args.map AV.strip) H Q) : ACalls P f args H Q :=
  fun γ w vs ht hs hv => h γ w vs ht hs ⟨by simpa using hv.1, fun i c v hc hvv => by
    rw [List.getElem?_map] at hc
    cases hx : args[i]? with
    | none => simp [hx] at hc
    | some x => simp only [hx, Option.map_some, Option.some.injEq] at hc; subst hc; exact (hv.2 i x v hx hvv).strip⟩

theorem Pure.low {P : Program} {f : FuncId} {args : List AV} {r : AV} (h : Pure P f (args.map AV.strip) r) : Pure P f args r := ACalls.low h

theorem sub_refl (H : Heap) : Sub H H := fun _ _ h => h
theorem sub_emp (H : Heap) : Sub Heap.emp H := fun b o h => by simp [Heap.emp] at h
theorem sub_upd {A H : Heap} {b : Nat} {o : AObj} (h : Sub A H) (hb : H b = none) : Sub A (H.upd b o) := fun c x hc => by
  have hne : c ≠ b := fun e => by subst e; have := h _ _ hc; rw [hb] at this; cases this
  simp only [Heap.upd, hne, if_false]; exact h c x hc
theorem wrap64' {n : Int} (h1 : -9223372036854775808 ≤ n ∧ n < 9223372036854775808) : IntKind.wrap .i64 n = n := wrap64 h1.1 h1.2

/-- One's own slice beside a memory that stays as it is. -/
structure OwnF (H0 H : Heap) (o : Own) (n sz : Nat) : Prop where
  sub : Sub H0 H
  own : Owned H o n sz
  new : ∀ b d, o = .tip b d → H0 b = none

theorem OwnF.nil (H : Heap) (sz : Nat) : OwnF H H .nil 0 sz := ⟨sub_refl H, rfl, fun b d e => by cases e⟩

theorem OwnF.step {H0 H H' : Heap} {o o' : Own} {n n' sz : Nat} (h : OwnF H0 H o n sz) (h1 : Owned H' o' n' sz) (h2 : Kept H o H') (h3 : NewTip H o o') : OwnF H0 H' o' n' sz :=
  ⟨fun b x hb => h2 b x (h.sub b x hb) fun d e => (by have := h.new b d e; rw [hb] at this; cases this), h1, fun b d e => by
    rcases h3 b d e with h4 | ⟨d0, h4⟩
    · cases hb : H0 b with
      | none => rfl
      | some x => have := h.sub b x hb; rw [h4] at this; cases this
    · exact h.new b d0 h4⟩

theorem OwnF.cast {H0 H : Heap} {o : Own} {n n' sz : Nat} (h : OwnF H0 H o n sz) (e : n = n') : OwnF H0 H o n' sz := e ▸ h

/-- A new object beside one's own slice. -/
theorem Owned.upd {H : Heap} {o : Own} {n sz b : Nat} {x : AObj} (h : Owned H o n sz) (hb : H b = none) : Owned (H.upd b x) o n sz := by
  cases o with
  | tip c d =>
    have hc : H c = some (.tip (d + n) sz) := h
    have hne : c ≠ b := fun e => by subst e; rw [hb] at hc; cases hc
    show (H.upd b x) c = _
    simp [Heap.upd, hne, hc]
  | no => exact h
  | nil => exact h
  | full => exact h

theorem OwnF.upd {H0 H : Heap} {o : Own} {n sz b : Nat} {x : AObj} (h : OwnF H0 H o n sz) (hb : H b = none) : OwnF H0 (H.upd b x) o n sz := ⟨sub_upd h.sub hb, h.own.upd hb, h.new⟩

theorem sub_trans {A B C : Heap} (h : Sub A B) (h' : Sub B C) : Sub A C := fun b x hb => h' b x (h b x hb)
theorem sub_none {A B : Heap} (h : Sub A B) {b : Nat} (hb : B b = none) : A b = none := by
  cases ha : A b with
  | none => rfl
  | some x => have := h b x ha; rw [hb] at this; cases this
theorem ne_of_none {H : Heap} {b c : Nat} {x : AObj} (hb : H b = none) (hc : H c = some x) : b ≠ c := fun e => by subst e; rw [hb] at hc; cases hc

theorem splice_cons (c : AV) (cs : List AV) (v : AV) (vs : List AV) : splice (c :: cs) 0 (v :: vs) = v :: splice cs 0 vs := by simp [splice]
theorem splice_succ (c : AV) (cs : List AV) (n : Nat) (vs : List AV) : splice (c :: cs) (n + 1) vs = c :: splice cs n vs := by simp [splice, Nat.add_right_comm]
theorem splice_zero (cs : List AV) : splice cs 0 [] = cs := by simp [splice]

/-- The callee is told less of memory. -/
theorem ACalls.heapLow {P : Program} {f : FuncId} {args : List AV} {A B : Heap} {Q : AEnd → Heap → Prop} (hl : Low B A) (h : ACalls P f args B Q) : ACalls P f args A Q :=
  fun γ w vs ht hs hv => (h γ w vs ht (hl.st γ w hs) hv).mono fun e w' ⟨γ', H', r, a, b, c, d, q⟩ => ⟨γ', H', r, a.weaken fun b hb => hl.keys b hb, b, fun b hb => (c b hb).imp (fun x => hl.keys b x) id, d, q⟩

end Go.Ab
