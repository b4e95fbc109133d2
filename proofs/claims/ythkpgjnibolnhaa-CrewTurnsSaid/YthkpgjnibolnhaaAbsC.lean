/- The abstract operations: what each does with abstract values and the abstract memory; and the check that one is what the program has. -/
import Derived.Test.YthkpgjnibolnhaaAbsB
namespace Go.Ab

inductive Opd where
  | t (n : Nat)
  | k (c : AV)

abbrev Env := Nat → AV

def Env.set (ρ : Env) (d : Option Nat) (c : AV) : Env :=
  match d with
  | some d => fun n => if n = d then c else ρ n
  | none => ρ

def Opd.ev (ρ : Env) : Opd → AV
  | .t n => ρ n
  | .k c => c

/-- Ownership behind s[l:]. -/
def Own.cut : Own → Nat → Own
  | .tip b d, l => .tip b (d + l)
  | o, _ => o

inductive NK where
  | s | p | m | f
  deriving DecidableEq

inductive AOp where
  | mv (x : Opd)
  | pick (c a b : Opd)
  | nilchk (x : Opd)
  | bi (op : BinOp) (k : IntKind) (x y : Opd)
  | shf (op : BinOp) (x y : Opd)
  | bs (op : BinOp) (x y : Opd)
  | bb (neg : Bool) (x y : Opd)
  | eqa (neg : Bool) (ks : List K1) (x y : Opd)
  | isnil (nk : NK) (x : Opd)
  | isnn (nk : NK) (x : Opd)
  | not (x : Opd)
  | ineg (x : Opd)
  | cvi (k : IntKind) (x : Opd)
  | cvid (x : Opd)
  | cvb2s (x : Opd)
  | bld (zero : List AV) (parts : List (Nat × Nat × Opd))
  | bls (sz len : Nat) (zero : List AV) (parts : List (Nat × Opd))
  | mkfn (f : FuncId) (first caps : List Opd)
  | ext (x : Opd) (i : Nat)
  | mki (t : TypeId) (x : Opd)
  | fa (off : Nat) (x : Opd)
  | fld (off n : Nat) (ag : Bool) (x : Opd)
  | ia (sz : Nat) (x i : Opd)
  | ixs (x i : Opd)
  | sls (x : Opd) (lo hi : Option Opd)
  | sll (sz : Nat) (x : Opd) (lo hi mx : Option Opd)
  | sllx (sz : Nat) (x hi : Opd)
  | len (x : Opd)
  | lens (x : Opd)
  | mm (mx : Bool) (x : Opd) (ys : List Opd)
  | boxv (x : Opd)
  | ifnil (neg : Bool) (x : Opd)
  | tas (t : TypeId) (zero : AV) (x : Opd)
  | ld (n : Nat) (ag : Bool) (x : Opd)
  | lkp (kt : KT) (zero : AV) (ok : Bool) (m k : Opd)
  | lenm (x : Opd)
  | alloc (zero : List AV)
  | box (x : Opd)
  | mkm (kt : KT)
  | st (n : Nat) (x y : Opd)
  | mup (kt : KT) (m k v : Opd)
  | app (sz bytes : Nat) (x y : Opd)
  | apps (x y : Opd)
  | mks (sz bytes : Nat) (n : Opd)
  | mksn (zero : List AV) (bytes : Nat) (n : Opd)
  | blsm (sz len : Nat) (zero : List AV) (parts : List (Nat × Opd))
  | appm (sz bytes : Nat) (zero : List AV) (x y : Opd)
  | frz (sz : Nat) (x : Opd)
  | call (f : FuncId) (args : List Opd)
  | callv (g : Opd) (args : List Opd)
  | pan (x : Opd)

def mk (ag : Bool) (cs : List AV) : AV := if ag then .agg cs else cs.headD .any

def ibin (op : BinOp) (k : IntKind) (a b : Int) : Option AV :=
  match op with
  | .add => some (.int k (k.wrap (a + b)))
  | .sub => some (.int k (k.wrap (a - b)))
  | .mul => some (.int k (k.wrap (a * b)))
  | .quo => if b = 0 then none else some (.int k (k.wrap (a.tdiv b)))
  | .rem => if b = 0 then none else some (.int k (a.tmod b))
  | .and => some (.int k (k.wrap (BitVec.ofInt k.bits a &&& BitVec.ofInt k.bits b).toNat))
  | .or => some (.int k (k.wrap (BitVec.ofInt k.bits a ||| BitVec.ofInt k.bits b).toNat))
  | .xor => some (.int k (k.wrap (BitVec.ofInt k.bits a ^^^ BitVec.ofInt k.bits b).toNat))
  | .andNot => some (.int k (k.wrap (BitVec.ofInt k.bits a &&& ~~~ BitVec.ofInt k.bits b).toNat))
  | .eql => some (.bool (a == b))
  | .neq => some (.bool (a != b))
  | .lss => some (.bool (decide (a < b)))
  | .leq => some (.bool (decide (a ≤ b)))
  | .gtr => some (.bool (decide (b < a)))
  | .geq => some (.bool (decide (b ≤ a)))
  | .shl | .shr => none

def ishf (op : BinOp) (k : IntKind) (a b : Int) : Option AV :=
  match op with
  | .shl => if b < 0 then none else some (.int k (k.wrap (a * 2 ^ (min b.toNat k.bits))))
  | .shr => if b < 0 then none else some (.int k (a.fdiv (2 ^ (min b.toNat k.bits))))
  | _ => none

def sbin (op : BinOp) (a b : List UInt8) : Option AV :=
  match op with
  | .add => if a.length + b.length ≤ 9223372036854775807 then some (.str (a ++ b)) else none
  | .eql => some (.bool (a == b))
  | .neq => some (.bool !(a == b))
  | .lss => some (.bool (Op.bytesLess a b))
  | .leq => some (.bool (Op.bytesLess a b || a == b))
  | .gtr => some (.bool !(Op.bytesLess a b || a == b))
  | .geq => some (.bool !(Op.bytesLess a b))
  | _ => none

/-- A slice of bytes as bytes. -/
def byts : List (List AV) → Option (List UInt8)
  | [] => some []
  | [.int .u8 n] :: r => if 0 ≤ n ∧ n < 256 then (byts r).map (UInt8.ofNat n.toNat :: ·) else none
  | _ => none

def splice (cs : List AV) (off : Nat) (v : List AV) : List AV := cs.take off ++ v ++ cs.drop (off + v.length)

def fillA (ρ : Env) : List AV → List (Nat × Nat × Opd) → Option (List AV)
  | cs, [] => some cs
  | cs, (off, n, x) :: r => if (x.ev ρ).cells.length = n ∧ off + n ≤ cs.length ∧ (x.ev ρ).boxable = true then fillA ρ (splice cs off (x.ev ρ).cells) r else none

def fillS (ρ : Env) (sz : Nat) : List (List AV) → List (Nat × Opd) → Option (List (List AV))
  | xs, [] => some xs
  | xs, (i, x) :: r => if (x.ev ρ).cells.length = sz ∧ i < xs.length ∧ (x.ev ρ).boxable = true then fillS ρ sz (xs.set i ((x.ev ρ).cells.map AV.strip1)) r else none

def bound (dflt : Nat) (ρ : Env) : Option Opd → Option Int
  | none => some dflt
  | some x => match x.ev ρ with
    | .int _ n => some n
    | _ => none

def mm2 (mx : Bool) (a b : Int) : Int := if mx then (if b > a then b else a) else (if b < a then b else a)

def mmAll (mx : Bool) (k : IntKind) (ρ : Env) : Int → List Opd → Option Int
  | a, [] => some a
  | a, y :: r => match y.ev ρ with
    | .int k' b => if k = k' then mmAll mx k ρ (mm2 mx a b) r else none
    | _ => none

/-- The operations whose value hangs on their operands alone. -/
def pev (ρ : Env) : AOp → Option AV
  | .mv x => some (x.ev ρ)
  | .pick c a b => match c.ev ρ with
    | .bool t => some (if t then a.ev ρ else b.ev ρ)
    | _ => none
  | .nilchk x => match x.ev ρ with
    | .ptr b o => some (.ptr b o)
    | .view cs => some (.view cs)
    | .clo f a b => some (.clo f a b)
    | _ => none
  | .bi op k x y => match x.ev ρ, y.ev ρ with
    | .int k1 a, .int k2 b => if k1 = k ∧ k2 = k then ibin op k a b else none
    | _, _ => none
  | .shf op x y => match x.ev ρ, y.ev ρ with
    | .int k a, .int _ b => ishf op k a b
    | _, _ => none
  | .bs op x y => match x.ev ρ, y.ev ρ with
    | .str a, .str b => sbin op a b
    | _, _ => none
  | .bb neg x y => match x.ev ρ, y.ev ρ with
    | .bool a, .bool b => some (.bool (if neg then !(a == b) else a == b))
    | _, _ => none
  | .eqa neg ks x y => match x.ev ρ, y.ev ρ with
    | .agg as, .agg bs => if fitsAll ks as = true ∧ fitsAll ks bs = true then some (.bool (if neg then !(keqs as bs) else keqs as bs)) else none
    | _, _ => none
  | .isnil nk x => match nk, x.ev ρ with
    | .p, .nilp => some (.bool true)
    | .p, .ptr _ _ => some (.bool false)
    | .p, .view _ => some (.bool false)
    | .m, .nilm => some (.bool true)
    | .m, .mp _ => some (.bool false)
    | .f, .clo _ _ _ => some (.bool false)
    | .f, .oth .nilFunc => some (.bool true)
    | .s, .sl .nil _ _ => some (.bool true)
    | .s, .sl _ _ xs => some (.ubool (xs = []))
    | _, _ => none
  | .isnn nk x => match nk, x.ev ρ with
    | .p, .nilp => some (.bool false)
    | .p, .ptr _ _ => some (.bool true)
    | .p, .view _ => some (.bool true)
    | .m, .nilm => some (.bool false)
    | .m, .mp _ => some (.bool true)
    | .f, .clo _ _ _ => some (.bool true)
    | .f, .oth .nilFunc => some (.bool false)
    | _, _ => none
  | .not x => match x.ev ρ with
    | .bool t => some (.bool !t)
    | _ => none
  | .ineg x => match x.ev ρ with
    | .int k n => some (.int k (k.wrap (0 - n)))
    | _ => none
  | .cvi k x => match x.ev ρ with
    | .int _ n => some (.int k (k.wrap n))
    | _ => none
  | .cvid x => match x.ev ρ with
    | .str s => some (.str s)
    | _ => none
  | .cvb2s x => match x.ev ρ with
    | .sl _ 1 xs => (byts xs).map .str
    | _ => none
  | .bld zero parts => (fillA ρ zero parts).map .agg
  | .bls sz n zero parts => if zero.length = sz then (fillS ρ sz (List.replicate n zero) parts).map (.sl .full sz) else none
  | .mkfn f first caps => some (.clo f (first.map (Opd.ev ρ)) (caps.map (Opd.ev ρ)))
  | .ext x i => match x.ev ρ with
    | .tup vs => vs[i]?
    | _ => none
  | .mki t x => some (.ifc t (x.ev ρ))
  | .fa off x => match x.ev ρ with
    | .ptr b o => some (.ptr b (o + off))
    | .view cs => some (.view (cs.drop off))
    | _ => none
  | .fld off n ag x => match x.ev ρ with
    | .agg cs => if off + n ≤ cs.length then some (mk ag ((cs.drop off).take n)) else none
    | _ => none
  | .ia sz x i => match x.ev ρ, i.ev ρ with
    | .sl _ sz' xs, .int _ n => if sz' = sz ∧ 0 ≤ n ∧ n < xs.length then some (.view (xs.getD n.toNat [])) else none
    | .ms b off len _, .int _ n => if 0 ≤ n ∧ n < len then some (.ptr b (off + n.toNat * sz)) else none
    | _, _ => none
  | .ixs x i => match x.ev ρ, i.ev ρ with
    | .str s, .int _ n => if 0 ≤ n ∧ n < s.length then some (.int .u8 (s.getD n.toNat 0).toNat) else none
    | _, _ => none
  | .sls x lo hi => match x.ev ρ with
    | .str s => match bound 0 ρ lo, bound s.length ρ hi with
      | some l, some h => if 0 ≤ l ∧ l ≤ h ∧ h ≤ s.length then some (.str ((s.take h.toNat).drop l.toNat)) else none
      | _, _ => none
    | _ => none
  | .sll sz x lo hi mx => match x.ev ρ with
    | .sl o sz' xs => match bound 0 ρ lo, bound xs.length ρ hi, mx with
      | some l, some h, none => if sz' = sz ∧ 0 ≤ l ∧ l ≤ h ∧ h ≤ xs.length then some (.sl (if hi.isNone then o.cut l.toNat else .no) sz ((xs.take h.toNat).drop l.toNat)) else none
      | some l, some h, some m => match m.ev ρ with
        | .int _ m => if sz' = sz ∧ 0 ≤ l ∧ l ≤ h ∧ h ≤ m ∧ m ≤ xs.length then some (.sl (if m = h then .full else .no) sz ((xs.take h.toNat).drop l.toNat)) else none
        | _ => none
      | _, _, _ => none
    | _ => none
  | .sllx sz x hi => match x.ev ρ, hi.ev ρ with
    | .sl _ sz' xs, .int _ h => if sz' = sz ∧ 0 ≤ h ∧ h ≤ xs.length then some (.slx sz (xs.take h.toNat) (xs.drop h.toNat)) else none
    | .slx sz' xs ys, .int _ h => if sz' = sz ∧ 0 ≤ h ∧ h ≤ xs.length + ys.length then some (.sl .no sz ((xs ++ ys).take h.toNat)) else none
    | _, _ => none
  | .lens x => match x.ev ρ with
    | .str s => some (.int .i64 s.length)
    | _ => none
  | .len x => match x.ev ρ with
    | .sl _ _ xs => some (.int .i64 xs.length)
    | .slx _ xs _ => some (.int .i64 xs.length)
    | .ms _ _ n _ => some (.int .i64 n)
    | _ => none
  | .mm mx x ys => match x.ev ρ with
    | .int k a => (mmAll mx k ρ a ys).map (.int k)
    | _ => none
  | .ifnil neg x => match x.ev ρ with
    | .oth .nilIface => some (.bool !neg)
    | .ifc _ _ => some (.bool neg)
    | _ => none
  | .tas t zero x => match x.ev ρ with
    | .oth .nilIface => some (.tup [zero, .bool false])
    | .ifc t' c => some (if t' = t then .tup [c, .bool true] else .tup [zero, .bool false])
    | _ => none
  | .boxv x => if (x.ev ρ).boxable = true then some (.view (x.ev ρ).cells) else none
  | _ => none

def mget (es : List (AV × AV)) (k : AV) : Option AV :=
  match es with
  | [] => none
  | (a, v) :: r => if k.keq a then some v else mget r k

def mset (es : List (AV × AV)) (k v : AV) : List (AV × AV) :=
  match es with
  | [] => [(k, v)]
  | (a, u) :: r => if k.keq a then (k, v) :: r else (a, u) :: mset r k v

def lkres (zero : AV) (ok : Bool) (r : Option AV) : AV := if ok then .tup [r.getD zero, .bool r.isSome] else r.getD zero

/-- The operations that read memory and leave it alone. -/
def rev (ρ : Env) (H : Heap) : AOp → Option AV
  | .ld n ag x => match x.ev ρ with
    | .view cs => if n ≤ cs.length then some (mk ag (cs.take n)) else none
    | .ptr b off => match H b with
      | some (.cells cs) => if off + n ≤ cs.length then some (mk ag ((cs.drop off).take n)) else none
      | _ => none
    | _ => none
  | .lkp kt zero ok m k => if kt.fits (k.ev ρ) then match m.ev ρ with
    | .nilm => some (lkres zero ok none)
    | .mp b => match H b with
      | some (.map kt' es) => if kt' = kt then some (lkres zero ok (mget es (k.ev ρ))) else none
      | _ => none
    | _ => none
    else none
  | .lenm x => match x.ev ρ with
    | .nilm => some (.int .i64 0)
    | .mp b => match H b with
      | some (.map _ es) => some (.int .i64 es.length)
      | _ => none
    | _ => none
  | _ => none

inductive Cls where
  | pure | read | alloc | eff
  deriving DecidableEq

def AOp.cls : AOp → Cls
  | .ld .. | .lkp .. | .lenm .. => .read
  | .alloc .. | .box .. | .mkm .. | .mks .. | .mksn .. | .blsm .. => .alloc
  | .appm .. | .frz .. | .st .. | .mup .. | .app .. | .apps .. | .call .. | .callv .. | .pan .. => .eff
  | _ => .pure

/-- n zero elements, cell by cell. -/
def madeA (zero : List AV) : Nat → List AV
  | 0 => []
  | n + 1 => zero ++ madeA zero n

/-- The object that an allocation lays, and what points to it. -/
def oev (ρ : Env) : AOp → Option AObj
  | .alloc zero => some (.cells zero)
  | .box x => if (x.ev ρ).boxable = true then some (.cells (x.ev ρ).cells) else none
  | .mkm kt => some (.map kt [])
  | .blsm sz n zero parts => if zero.length = sz then (fillS ρ sz (List.replicate n zero) parts).map fun ys => .cells ys.flatten else none
  | .mks sz bytes n => match n.ev ρ with
    | .int _ c => if 0 ≤ c ∧ c * bytes ≤ 140737488355328 ∧ c ≤ 9223372036854775807 then some (.tip 0 sz) else none
    | _ => none
  | .mksn zero bytes n => match n.ev ρ with
    | .int _ c => if 0 ≤ c ∧ c * bytes ≤ 140737488355328 ∧ c ≤ 9223372036854775807 then some (.cells (madeA zero c.toNat)) else none
    | _ => none
  | _ => none

def optr (ρ : Env) (b : Nat) : AOp → AV
  | .mkm _ => .mp b
  | .blsm _ n _ _ => .ms b 0 n n
  | .mks sz _ _ => .sl (.tip b 0) sz []
  | .mksn _ _ n => match n.ev ρ with
    | .int _ c => .ms b 0 c.toNat c.toNat
    | _ => .any
  | _ => .ptr b 0

def endK (K KP : AV → Heap → Prop) : AEnd → Heap → Prop
  | .ret v, H => K v H
  | .pan v, H => KP v H

def Program.callable (P : Program) (f : FuncId) : Bool :=
  match P.funcs[f]? with
  | some fn => fn.body.isSome && fn.name != "runtime.NumGoroutine"
  | none => false

def appK (sz bytes : Nat) (x y : AV) (H : Heap) (K : AV → Heap → Prop) : Prop :=
  match x, y with
  | .sl o s1 xs, .sl _ s2 ys =>
    s1 = sz ∧ s2 = sz ∧ (xs.length + ys.length) * bytes ≤ 140737488355328 ∧ xs.length + ys.length ≤ maxLen ∧
    match o with
    | .no => False
    | .nil | .full => (ys = [] → K (.sl o sz xs) H) ∧
        (ys ≠ [] → ∀ b, H b = none → K (.sl (.tip b 0) sz (xs ++ ys.map (·.map AV.strip1))) (H.upd b (.tip (xs.length + ys.length) sz)))
    | .tip b d => H b = some (.tip (d + xs.length) sz) ∧
        ∀ b' d', (H.del b) b' = none → K (.sl (.tip b' d') sz (xs ++ ys.map (·.map AV.strip1))) ((H.del b).upd b' (.tip (d' + (xs.length + ys.length)) sz))
  | _, _ => False

/-- A slice that is written to: its row is an object. -/
def appmK (sz bytes : Nat) (zero : List AV) (x y : AV) (H : Heap) (K : AV → Heap → Prop) : Prop :=
  match y with
  | .sl _ s2 ys => s2 = sz ∧ zero.length = sz ∧ match x with
    | .sl .nil s1 xs => xs = [] ∧ s1 = sz ∧ ys.length * bytes ≤ 140737488355328 ∧ ys.length ≤ maxLen ∧ (ys = [] → K (.sl .nil sz []) H) ∧
        (ys ≠ [] → ∀ b cap, H b = none → ys.length ≤ cap → cap ≤ maxLen → K (.ms b 0 ys.length cap) (H.upd b (.cells (ys.flatten.map AV.strip1 ++ madeA zero (cap - ys.length)))))
    | .ms b off len cap => (len + ys.length) * bytes ≤ 140737488355328 ∧ len + ys.length ≤ maxLen ∧ match H b with
      | some (.cells cs) => (len + ys.length ≤ cap → off + (len + ys.length) * sz ≤ cs.length ∧ K (.ms b off (len + ys.length) cap) (H.upd b (.cells (splice cs (off + len * sz) (ys.flatten.map AV.strip1))))) ∧
          (cap < len + ys.length → off + len * sz ≤ cs.length ∧ ∀ b' cap', H b' = none → len + ys.length ≤ cap' → cap' ≤ maxLen → K (.ms b' 0 (len + ys.length) cap') (H.upd b' (.cells ((cs.drop off).take (len * sz) ++ ys.flatten.map AV.strip1 ++ madeA zero (cap' - (len + ys.length))))))
      | _ => False
    | _ => False
  | _ => False

/-- The elements of a row. -/
def rowsA (sz : Nat) : Nat → List AV → List (List AV)
  | 0, _ => []
  | n + 1, cs => (cs.take sz).map AV.strip1 :: rowsA sz n (cs.drop sz)

/-- A row that nobody writes any more. -/
def frzK (sz : Nat) (x : AV) (H : Heap) (K : AV → Heap → Prop) : Prop :=
  match x with
  | .ms b off len _ => match H b with
    | some (.cells cs) => 0 < sz ∧ off + len * sz ≤ cs.length ∧ K (.sl .no sz (rowsA sz len (cs.drop off))) (H.del b)
    | _ => False
  | _ => False

def bytesOf (s : List UInt8) : List (List AV) := s.map fun c => [.int .u8 c.toNat]

/-- The operations that change memory. -/
def eff (P : Program) (KP : AV → Heap → Prop) (ρ : Env) (H : Heap) (K : AV → Heap → Prop) : AOp → Prop
  | .st n x y => match x.ev ρ with
    | .ptr b off => match H b with
      | some (.cells cs) => (y.ev ρ).cells.length = n ∧ off + n ≤ cs.length ∧ (y.ev ρ).boxable = true ∧ K (.tup []) (H.upd b (.cells (splice cs off (y.ev ρ).cells)))
      | _ => False
    | _ => False
  | .mup kt m k v => match m.ev ρ with
    | .mp b => match H b with
      | some (.map kt' es) => kt' = kt ∧ kt.fits (k.ev ρ) = true ∧ K (.tup []) (H.upd b (.map kt (mset es (k.ev ρ) (v.ev ρ))))
      | _ => False
    | _ => False
  | .app sz bytes x y => appK sz bytes (x.ev ρ) (y.ev ρ) H K
  | .appm sz bytes zero x y => appmK sz bytes zero (x.ev ρ) (y.ev ρ) H K
  | .frz sz x => frzK sz (x.ev ρ) H K
  | .apps x y => match y.ev ρ with
    | .str s => appK 1 1 (x.ev ρ) (.sl .no 1 (bytesOf s)) H K
    | _ => False
  | .call f args => ACalls P f (args.map (Opd.ev ρ)) H (endK K KP)
  | .callv g args => match g.ev ρ with
    | .clo f first caps => Program.callable P f = true ∧ ACalls P f (first ++ args.map (Opd.ev ρ) ++ caps) H (endK K KP)
    | _ => False
  | .pan x => match x.ev ρ with
    | .ifc t y => KP (.ifc t y) H
    | _ => False
  | _ => False

/-- There is no endless supply of new blocks: it is never so. -/
def Scarce (H : Heap) : Prop := ∃ n, ∀ b, n ≤ b → H b ≠ none

def aop (P : Program) (KP : AV → Heap → Prop) (o : AOp) (ρ : Env) (H : Heap) (K : AV → Heap → Prop) : Prop :=
  match o.cls with
  | .pure => match pev ρ o with
    | some v => K v H
    | none => False
  | .read => match rev ρ H o with
    | some v => K v H
    | none => False
  | .alloc => match oev ρ o with
    | some x => ∀ b, H b = none → K (optr ρ b o) (H.upd b x)
    | none => Scarce H
  | .eff => eff P KP ρ H K o

end Go.Ab
