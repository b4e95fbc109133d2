import Derived.Calls
import Derived.Orders
import Derived.WalkKit
import GoSem.PinnedTables
import Derived.Deep.AppendSrc
set_option maxRecDepth 100000
set_option linter.all false
theorem Al0:type_of% @Bool.and_eq_true:=@Bool.and_eq_true
theorem Al1:type_of% @Option.some.injEq:=@Option.some.injEq
theorem Al2:type_of% @List.length_cons:=@List.length_cons
theorem Al3:type_of% @List.length_nil:=@List.length_nil
theorem Al4:type_of% @Nat.le_refl:=@Nat.le_refl
theorem Al5:type_of% @List.length_append:=@List.length_append
theorem Al6:type_of% @List.cons_append:=@List.cons_append
theorem Al7:type_of% @Bool.false_eq_true:=@Bool.false_eq_true
theorem Al8:type_of% @Prod.mk.injEq:=@Prod.mk.injEq
theorem Al9:type_of% @List.getElem?_eq_getElem:=@List.getElem?_eq_getElem
theorem zaF:type_of% @Option.map_some:=@Option.map_some
theorem zc8:type_of% @List.nil_append:=@List.nil_append
theorem zvK:type_of% @Except.ok.injEq:=@Except.ok.injEq
theorem yg:type_of% @Bool.and_assoc:=@Bool.and_assoc
theorem zbM:type_of% @List.append_assoc:=@List.append_assoc
theorem yX:type_of% @decide_eq_true_eq:=@decide_eq_true_eq
theorem zaA:type_of% @List.getElem?_eq_some_iff:=@List.getElem?_eq_some_iff
theorem zcC:type_of% @Array.getElem?_eq_some_iff:=@Array.getElem?_eq_some_iff
theorem zfh:type_of% @List.length_eq_zero_iff:=@List.length_eq_zero_iff
theorem Y5:type_of% @List.getElem?_map:=@List.getElem?_map
theorem zdU:type_of% @List.all_eq_true:=@List.all_eq_true
theorem zc4:type_of% @Option.map_eq_some_iff:=@Option.map_eq_some_iff
theorem zcH:type_of% @List.getElem?_append_left:=@List.getElem?_append_left
theorem zfW:type_of% @List.getElem?_append_right:=@List.getElem?_append_right
theorem zvJ:type_of% @List.drop_append_of_le_length:=@List.drop_append_of_le_length
theorem Z0:type_of% @List.mem_cons_of_mem:=@List.mem_cons_of_mem
theorem zjF:type_of% @Option.isSome_iff_exists:=@Option.isSome_iff_exists
theorem ZI:type_of% @List.mem_cons_self:=@List.mem_cons_self
theorem zhn:type_of% @Bool.or_eq_true:=@Bool.or_eq_true
theorem zfR:type_of% @List.length_drop:=@List.length_drop
theorem zvt:type_of% @List.take_succ_cons:=@List.take_succ_cons
theorem zaW:type_of% @List.mem_append_left:=@List.mem_append_left
theorem znK:type_of% @List.getElem?_take:=@List.getElem?_take
theorem zjh:type_of% @Array.getD_eq_getD_getElem?:=@Array.getD_eq_getD_getElem?
namespace Go.Ab
inductive Own where
 | no|nil|full
 | tip (b d:Nat)
 deriving DecidableEq
inductive AV where
 | any
 | bool (b:Bool)
 | ubool (p:Prop)
 | int (k:IntKind) (n:Int)
 | str (s:List UInt8)
 | agg (cs:List AV)
 | tup (vs:List AV)
 | sl (o:Own) (sz:Nat) (xs:List (List AV))
 | slx (sz:Nat) (xs ys:List (List AV))
 | nilp
 | ptr (b off:Nat)
 | view (cs:List AV)
 | ms (b off len cap:Nat)
 | nilm
 | mp (b:Nat)
 | clo (f:FuncId) (first caps:List AV)
 | oth (v:Value)
 | ifc (t:TypeId) (x:AV)
inductive BK where
 | imm|own
 | buf (e:Nat)
abbrev Gh:=Nat→BK
def zaN (γ:Gh) (b o:Nat):Prop :=
 match γ b with
 | .imm=>True
 | .own=>False
 | .buf e=>o<e
def zcU (w:World) (o:Own) (a:Addr) (n cap sz:Nat):Prop :=
 match o with
 | .no=>True
 | .nil=>False
 | .full=>n=cap
 | .tip b d=>cap=0∨(a=⟨b,d*sz,none⟩∧∃ arr E,w.heap[b]?=some (.cells arr E (0,0))∧arr.size=(d+cap)*sz)
def CellIs (γ:Gh) (w:World) (b o:Nat) (v:Value):Prop :=
 w.cell? ⟨b,o,none⟩=some v∧zaN γ b o∧v.oneCell'=true
inductive Rep (γ:Gh) (w:World):AV→Value→Prop
 | any (v):Rep γ w .any v
 | bool (b):Rep γ w (.bool b) (.bool b)
 | ubool (p:Prop) (b:Bool) (h:b=true→p):Rep γ w (.ubool p) (.bool b)
 | int (k n):Rep γ w (.int k n) (.int k n)
 | str (s:List UInt8):Rep γ w (.str s) (.string ⟨s.toArray⟩)
 | agg (cs:List AV) (vs:List Value) (hl:cs.length=vs.length) (h1:∀(i:Nat) (v:Value),vs[i]?=some v→v.oneCell'=true)
   (h:∀(i:Nat) (c:AV) (v:Value),cs[i]?=some c→vs[i]?=some v→Rep γ w c v):Rep γ w (.agg cs) (.agg vs.toArray)
 | tup (cs:List AV) (vs:List Value) (hl:cs.length=vs.length) (h:∀(i:Nat) (c:AV) (v:Value),cs[i]?=some c→vs[i]?=some v→Rep γ w c v):Rep γ w (.tup cs) (.tuple vs.toArray)
 | slnil (o:Own) (sz:Nat) (ho:∀ b d,o≠.tip b d):Rep γ w (.sl o sz []) (.slice none 0 0)
 | sl0 (o:Own) (sz:Nat) (a:Addr) (ho:o=.no∨o=.full):Rep γ w (.sl o sz []) (.slice (some a) 0 0)
 | sl (o:Own) (sz:Nat) (xs:List (List AV)) (b off cap:Nat) (cv:Nat→Nat→Value) (hc:xs.length≤cap) (hm:cap≤maxLen)
   (hu:∀ x∈xs,x.length=sz)
   (hcell:∀(i:Nat) (x:List AV),xs[i]?=some x→∀ j,j<sz→CellIs γ w b (off+(i*sz+j)) (cv i j))
   (hr:∀(i:Nat) (x:List AV),xs[i]?=some x→∀(j:Nat) (c:AV),x[j]?=some c→Rep γ w c (cv i j))
   (ho:zcU w o ⟨b,off,none⟩ xs.length cap sz):Rep γ w (.sl o sz xs) (.slice (some ⟨b,off,none⟩) xs.length cap)
 | slx (sz:Nat) (xs ys:List (List AV)) (ad:Option Addr) (cap:Nat) (h:Rep γ w (.sl .no sz (xs++ys)) (.slice ad (xs.length+ys.length) cap)):Rep γ w (.slx sz xs ys) (.slice ad xs.length cap)
 | nilp:Rep γ w .nilp (.pointer none)
 | ptr (b off:Nat) (hlt:b<w.heap.size):Rep γ w (.ptr b off) (.pointer (some ⟨b,off,none⟩))
 | view (cs:List AV) (b off:Nat) (cv:Nat→Value) (hcell:∀ j,j<cs.length→CellIs γ w b (off+j) (cv j))
   (hr:∀(j:Nat) (c:AV),cs[j]?=some c→Rep γ w c (cv j)):Rep γ w (.view cs) (.pointer (some ⟨b,off,none⟩))
 | ms (b off len cap:Nat) (hlt:b<w.heap.size) (hc:len≤cap) (hm:cap≤maxLen):Rep γ w (.ms b off len cap) (.slice (some ⟨b,off,none⟩) len cap)
 | nilm:Rep γ w .nilm (.map none)
 | mp (b:Nat) (hlt:b<w.heap.size):Rep γ w (.mp b) (.map (some b))
 | clo (f:FuncId) (first caps:List AV) (vs us:List Value) (hl:first.length=vs.length) (hl':caps.length=us.length)
   (h:∀(i:Nat) (c:AV) (v:Value),first[i]?=some c→vs[i]?=some v→Rep γ w c v) (h':∀(i:Nat) (c:AV) (v:Value),caps[i]?=some c→us[i]?=some v→Rep γ w c v) :
   Rep γ w (.clo f first caps) (.func (.func f) vs.toArray us.toArray)
 | oth (v):Rep γ w (.oth v) v
 | ifc (t:TypeId) (x:AV) (v:Value) (h:Rep γ w x v):Rep γ w (.ifc t x) (.iface t v)
structure Mono (γ:Gh) (w:World) (γ':Gh) (w':World):Prop where
 size:w.heap.size≤w'.heap.size
 cell:∀ b o v,w.cell? ⟨b,o,none⟩=some v→zaN γ b o→zaN γ' b o∧w'.cell? ⟨b,o,none⟩=some v
 shape:∀(b:Nat) (arr:Array Value) (E:TypeId) (fr:Nat×Nat),w.heap[b]?=some (.cells arr E fr)→∃ arr':Array Value,w'.heap[b]?=some (.cells arr' E fr)∧arr'.size=arr.size
theorem Mono.refl (γ:Gh) (w:World):Mono γ w γ w:=⟨Al4 _,fun _ _ _ h p=>⟨p,h⟩,fun _ arr _ _ h=>⟨arr,h,rfl⟩⟩
theorem Mono.trans {γ γ' γ'' : Gh} {w w' w'' : World} (h : Mono γ w γ' w') (h' : Mono γ' w' γ'' w'') : Mono γ w γ'' w'' :=
  ⟨Nat.le_trans h.size h'.size, fun b o v hc hp => let ⟨p, c⟩ := h.cell b o v hc hp; h'.cell b o v c p,
   fun b arr E fr hb => let ⟨a1, h1, s1⟩ := h.shape b arr E fr hb; let ⟨a2, h2, s2⟩ := h'.shape b a1 E fr h1; ⟨a2, h2, s2.trans s1⟩⟩
theorem CellIs.mono {γ γ':Gh} {w w':World} (m:Mono γ w γ' w') {b o:Nat} {v:Value} (h:CellIs γ w b o v):CellIs γ' w' b o v :=
 let ⟨p,c⟩:=m.cell b o v h.1 h.2.1
 ⟨c,p,h.2.2⟩
theorem zcU.mono {γ γ':Gh} {w w':World} (m:Mono γ w γ' w') {o:Own} {a:Addr} {n cap sz:Nat} (h:zcU w o a n cap sz):zcU w' o a n cap sz:=by
 cases o with
 | no=>trivial
 | nil=>exact h
 | full=>exact h
 | tip b d =>
  rcases h with h|⟨ha,arr,E,hb,hs⟩
  ·exact .inl h
  obtain⟨arr',hb',hs'⟩:=m.shape b arr E _ hb
  exact .inr ⟨ha,arr',E,hb',hs'.trans hs⟩
theorem Rep.mono {γ γ':Gh} {w w':World} (m:Mono γ w γ' w') {c:AV} {v:Value} (h:Rep γ w c v):Rep γ' w' c v:=by
 induction h with
 | any v=>exact .any v
 | bool b=>exact .bool b
 | ubool p b h=>exact .ubool p b h
 | int k n=>exact .int k n
 | str s=>exact .str s
 | agg cs vs hl h1 h ih=>exact .agg cs vs hl h1 ih
 | tup cs vs hl h ih=>exact .tup cs vs hl ih
 | slnil o sz ho=>exact .slnil o sz ho
 | sl0 o sz a ho=>exact .sl0 o sz a ho
 | sl o sz xs b off cap cv hc hm hu hcell hr ho ih =>
  exact .sl o sz xs b off cap cv hc hm hu (fun i x hx j hj=>(hcell i x hx j hj).mono m) ih (ho.mono m)
 | slx sz xs ys ad cap h ih=>exact .slx sz xs ys ad cap ih
 | nilp=>exact .nilp
 | ptr b off hlt=>exact .ptr b off (Nat.lt_of_lt_of_le hlt m.size)
 | view cs b off cv hcell hr ih=>exact .view cs b off cv (fun j hj=>(hcell j hj).mono m) ih
 | ms b off len cap hlt hc hm=>exact .ms b off len cap (Nat.lt_of_lt_of_le hlt m.size) hc hm
 | nilm=>exact .nilm
 | mp b hlt=>exact .mp b (Nat.lt_of_lt_of_le hlt m.size)
 | clo f first caps vs us hl hl' h h' ih ih'=>exact .clo f first caps vs us hl hl' ih ih'
 | oth v=>exact .oth v
 | ifc t x v h ih=>exact .ifc t x v ih
def AV.cells:AV→List AV
 | .agg cs=>cs
 | x=>[x]
def AV.one:AV→Bool
 | .agg _|.tup _|.any=>false
 | .oth v=>v.oneCell'
 | _=>true
theorem Rep.oneCell {γ:Gh} {w:World} {c:AV} {v:Value} (h:Rep γ w c v) (h1:c.one=true):v.oneCell'=true:=by
 cases h<;>first|rfl|(simp[AV.one] at h1;done)|(simpa[AV.one] using h1)
def AV.boxable:AV→Bool
 | .agg _=>true
 | c=>c.one
theorem Rep.cells {γ:Gh} {w:World} {c:AV} {v:Value} (h:Rep γ w c v) (hb:c.boxable=true) :
  c.cells.length=v.cells.toList.length∧(∀(i:Nat) (u:Value),v.cells.toList[i]?=some u→u.oneCell'=true) ∧
  ∀(i:Nat) (d:AV) (u:Value),c.cells[i]?=some d→v.cells.toList[i]?=some u→Rep γ w d u:=by
 cases c with
 | agg cs =>
  cases h with
  | agg _ vs hl h1 hr=>exact⟨by simpa[AV.cells,Value.cells] using hl,by simpa[Value.cells] using h1,by simpa[AV.cells,Value.cells] using hr⟩
 | any=>simp[AV.boxable,AV.one] at hb
 | tup vs=>simp[AV.boxable,AV.one] at hb
 | _ =>
  have h1:=h.oneCell (by simpa[AV.boxable] using hb)
  have hc:v.cells=#[v]:=by cases v<;>first|rfl|(simp[Value.oneCell'] at h1;done)
  rw[hc]
  refine⟨rfl,fun i u hu=>?_,fun i d u hd hu=>?_⟩
  ·cases i with
   | zero=>simp at hu;subst hu;exact h1
   | succ i=>simp at hu
  ·cases i with
   | zero=>simp[AV.cells] at hd hu;subst hd;subst hu;exact h
   | succ i=>simp at hu
def AV.strip1:AV→AV
 | .sl _ sz xs=>.sl .no sz xs
 | .slx sz xs _=>.sl .no sz xs
 | x=>x
def AV.strip2:AV→AV
 | .sl (.tip _ _) sz xs=>.sl .no sz xs
 | .slx sz xs _=>.sl .no sz xs
 | x=>x
def AV.strip:AV→AV
 | .agg cs=>.agg (cs.map AV.strip1)
 | .tup vs=>.tup (vs.map fun|.agg cs=>.agg (cs.map AV.strip1)|x=>x.strip1)
 | x=>x.strip1
theorem Rep.front {γ:Gh} {w:World} {sz:Nat} {xs zs:List (List AV)} {ad:Option Addr} {n cap:Nat} (h:Rep γ w (.sl .no sz zs) (.slice ad n cap)) (hx:∃ ys,zs=xs++ys):Rep γ w (.sl .no sz xs) (.slice ad xs.length cap):=by
 obtain⟨ys,rfl⟩:=hx
 generalize hz:xs++ys=zs at h
 cases h with
 | slnil _ _ ho =>
  obtain⟨rfl,_⟩:=List.append_eq_nil_iff.1 hz
  exact .slnil _ _ ho
 | sl0 _ _ a ho =>
  obtain⟨rfl,_⟩:=List.append_eq_nil_iff.1 hz
  exact .sl0 _ _ a ho
 | sl _ _ _ b off cap cv hc hm hu hcell hr ho =>
  subst hz
  have hg:∀(i:Nat) x,xs[i]?=some x→(xs++ys)[i]?=some x:=fun i x hx=>by
   rw[zcH (zaA.1 hx).1];exact hx
  simp only[Al5] at hc
  exact .sl .no sz xs b off cap cv (by omega) hm (fun x hx=>hu x (zaW _ hx)) (fun i x hx=>hcell i x (hg i x hx)) (fun i x hx=>hr i x (hg i x hx)) trivial
theorem Rep.strip1 {γ:Gh} {w:World} {c:AV} {v:Value} (h:Rep γ w c v):Rep γ w c.strip1 v:=by
 cases h with
 | slnil o sz ho=>exact .slnil .no sz (by simp)
 | sl0 o sz a ho=>exact .sl0 .no sz a (.inl rfl)
 | sl o sz xs b off cap cv hc hm hu hcell hr ho=>exact .sl .no sz xs b off cap cv hc hm hu hcell hr trivial
 | slx sz xs ys ad cap h=>exact h.front ⟨ys,rfl⟩
 | any v=>exact .any v
 | bool b=>exact .bool b
 | ubool p b h=>exact .ubool p b h
 | int k n=>exact .int k n
 | str s=>exact .str s
 | agg cs vs hl h1 h=>exact .agg cs vs hl h1 h
 | tup cs vs hl h=>exact .tup cs vs hl h
 | nilp=>exact .nilp
 | ptr b off hlt=>exact .ptr b off hlt
 | view cs b off cv hcell hr=>exact .view cs b off cv hcell hr
 | ms b off len cap hlt hc hm=>exact .ms b off len cap hlt hc hm
 | nilm=>exact .nilm
 | mp b hlt=>exact .mp b hlt
 | clo f first caps vs us hl hl' h h'=>exact .clo f first caps vs us hl hl' h h'
 | oth v=>exact .oth v
 | ifc t x v h=>exact .ifc t x v h
theorem Rep.strip2 {γ:Gh} {w:World} {c:AV} {v:Value} (h:Rep γ w c v):Rep γ w c.strip2 v:=by
 cases c with
 | sl o sz xs =>
  cases o with
  | tip b d=>exact h.strip1
  | no=>exact h
  | nil=>exact h
  | full=>exact h
 | slx sz xs ys=>exact h.strip1
 | _=>exact h
theorem Rep.stripAgg {γ:Gh} {w:World} {cs:List AV} {v:Value} (h:Rep γ w (.agg cs) v):Rep γ w (.agg (cs.map AV.strip1)) v:=by
 cases h with
 | agg _ vs hl h1 h =>
  refine .agg _ vs (by simpa using hl) h1 fun i c v hc hv=>?_
  rw[Y5] at hc
  cases hx:cs[i]? with
  | none=>simp[hx] at hc
  | some x=>simp only[hx,zaF,Al1] at hc;subst hc;exact(h i x v hx hv).strip1
theorem Rep.strip {γ:Gh} {w:World} {c:AV} {v:Value} (h:Rep γ w c v):Rep γ w c.strip v:=by
 cases c with
 | agg cs=>exact h.stripAgg
 | tup cs =>
  cases h with
  | tup _ vs hl h =>
   refine .tup _ vs (by simpa using hl) fun i c v hc hv=>?_
   rw[Y5] at hc
   cases hx:cs[i]? with
   | none=>simp[hx] at hc
   | some x =>
    simp only[hx,zaF,Al1] at hc
    subst hc
    have hr:=h i x v hx hv
    cases x with
    | agg cs=>exact hr.stripAgg
    | _=>exact hr.strip1
 | _=>exact h.strip1
def AV.keq1:AV→AV→Bool
 | .bool a,.bool b=>a==b
 | .int _ a,.int _ b=>a==b
 | .str a,.str b=>a==b
 | _,_=>false
def zcE:List AV→List AV→Bool
 | [],[]=>true
 | a::r,b::s=>a.keq1 b&&zcE r s
 | _,_=>false
def AV.keq:AV→AV→Bool
 | .agg a,.agg b=>zcE a b
 | a,b=>a.keq1 b
inductive K1 where
 | b|s
 | i (k:IntKind)
 deriving DecidableEq
inductive KT where
 | one (k:K1)
 | agg (ks:List K1)
 deriving DecidableEq
def K1.fits:K1→AV→Bool
 | .b,.bool _=>true
 | .s,.str _=>true
 | .i k,.int k' _=>decide (k=k')
 | _,_=>false
def zZ:List K1→List AV→Bool
 | [],[]=>true
 | k::ks,c::cs=>k.fits c&&zZ ks cs
 | _,_=>false
def KT.fits:KT→AV→Bool
 | .one k,c=>k.fits c
 | .agg ks,.agg cs=>zZ ks cs
 | _,_=>false
inductive AObj where
 | cells (cs:List AV)
 | tip (n sz:Nat)
 | map (kt:KT) (es:List (AV×AV))
abbrev zc:=Nat→Option AObj
def zc.emp:zc:=fun _=>none
def zc.upd (H:zc) (b:Nat) (o:AObj):zc:=fun c=>if c=b then some o else H c
def zc.del (H:zc) (b:Nat):zc:=fun c=>if c=b then none else H c
def zc.one (b:Nat) (o:AObj):zc:=fun c=>if c=b then some o else none
def zc.union (A B:zc):zc:=fun c=>(A c).or (B c)
def zc.Disj (A B:zc):Prop:=∀ c,A c=none∨B c=none
def AV.conc1:AV→Option Value
 | .bool b=>some (.bool b)
 | .int k n=>some (.int k n)
 | .str s=>some (.string ⟨s.toArray⟩)
 | _=>none
def za6:List AV→Option (List Value)
 | []=>some []
 | c::r=>match c.conc1,za6 r with
  | some v,some vs=>some (v::vs)
  | _,_=>none
def AV.conc:AV→Option Value
 | .agg cs=>(za6 cs).map fun vs=>.agg vs.toArray
 | c=>c.conc1
structure EntryRel (γ:Gh) (w:World) (x:AV×AV) (e:MapEntry):Prop where
 key:x.1.conc=some e.key
 val:Rep γ w x.2 e.val
inductive ObjRel (γ:Gh) (w:World) (b:Nat):AObj→Prop
 | cells (cs:List AV) (vs:List Value) (E:TypeId) (hk:γ b=.own) (hb:w.heap[b]?=some (.cells vs.toArray E (0,0))) (hl:cs.length=vs.length)
   (h1:∀(i:Nat) (v:Value),vs[i]?=some v→v.oneCell'=true)
   (hr:∀(i:Nat) (c:AV) (v:Value),cs[i]?=some c→vs[i]?=some v→Rep γ w c v):ObjRel γ w b (.cells cs)
 | tip (n sz:Nat) (arr:Array Value) (E:TypeId) (hk:γ b=.buf (n*sz)) (hb:w.heap[b]?=some (.cells arr E (0,0))) (hl:n*sz≤arr.size):ObjRel γ w b (.tip n sz)
 | map (kt:KT) (es:List (AV×AV)) (cs:List MapEntry) (clock:Nat) (hf:∀ x∈es,kt.fits x.1=true) (hk:γ b=.own) (hb:w.heap[b]?=some (.map cs.toArray clock)) (hl:es.length=cs.length)
   (hr:∀(i:Nat) (x:AV×AV) (e:MapEntry),es[i]?=some x→cs[i]?=some e→EntryRel γ w x e):ObjRel γ w b (.map kt es)
def zz (γ:Gh) (w:World) (H:zc):Prop:=∀ b o,H b=some o→ObjRel γ w b o
theorem ObjRel.lt {γ:Gh} {w:World} {b:Nat} {o:AObj} (h:ObjRel γ w b o):b<w.heap.size:=by
 cases h with
 | cells cs vs E hk hb hl h1 hr=>exact(zcC.1 hb).1
 | tip n sz arr E hk hb hl=>exact(zcC.1 hb).1
 | map kt es cs clock hf hk hb hl hr=>exact(zcC.1 hb).1
structure Ext (F:Nat→Prop) (γ:Gh) (w:World) (γ':Gh) (w':World):Prop where
 mono:Mono γ w γ' w'
 os:w'.os=w.os
 output:w'.output=w.output
 frozen:∀ a,a.block<w.heap.size→w'.frozen? a=w.frozen? a
 frame:∀ b,b<w.heap.size→¬ F b→γ' b=γ b∧w'.heap[b]?=w.heap[b]?
theorem Ext.refl (F:Nat→Prop) (γ:Gh) (w:World):Ext F γ w γ w:=⟨.refl γ w,rfl,rfl,fun _ _=>rfl,fun _ _ _=>⟨rfl,rfl⟩⟩
theorem Ext.trans {F F' : Nat → Prop} {γ γ' γ'' : Gh} {w w' w'' : World} (h : Ext F γ w γ' w') (h' : Ext F' γ' w' γ'' w'') (hF : ∀ b, b < w.heap.size → F' b → F b) : Ext F γ w γ'' w'' :=
  ⟨h.mono.trans h'.mono, h'.os.trans h.os, h'.output.trans h.output, fun a ha => (h'.frozen a (Nat.lt_of_lt_of_le ha h.mono.size)).trans (h.frozen a ha),
   fun b hb hn => let ⟨g1, e1⟩ := h.frame b hb hn; let ⟨g2, e2⟩ := h'.frame b (Nat.lt_of_lt_of_le hb h.mono.size) (fun f => hn (hF b hb f)); ⟨g2.trans g1, e2.trans e1⟩⟩
theorem Ext.weaken {F F':Nat→Prop} {γ γ':Gh} {w w':World} (h:Ext F γ w γ' w') (hF:∀ b,F b→F' b):Ext F' γ w γ' w' :=
 ⟨h.mono,h.os,h.output,h.frozen,fun b hb hn=>h.frame b hb (fun f=>hn (hF b f))⟩
theorem EntryRel.mono {γ γ':Gh} {w w':World} (m:Mono γ w γ' w') {x:AV×AV} {e:MapEntry} (h:EntryRel γ w x e):EntryRel γ' w' x e:=⟨h.key,h.val.mono m⟩
theorem ObjRel.kept {γ γ':Gh} {w w':World} {b:Nat} {o:AObj} (m:Mono γ w γ' w') (h:ObjRel γ w b o) (hg:γ' b=γ b) (hb':w'.heap[b]?=w.heap[b]?):ObjRel γ' w' b o:=by
 cases h with
 | cells cs vs E hk hb hl h1 hr=>exact .cells cs vs E (hg.trans hk) (hb'.trans hb) hl h1 fun i c v hc hv=>(hr i c v hc hv).mono m
 | tip n sz arr E hk hb hl=>exact .tip n sz arr E (hg.trans hk) (hb'.trans hb) hl
 | map kt es cs clock hf hk hb hl hr=>exact .map kt es cs clock hf (hg.trans hk) (hb'.trans hb) hl fun i x e hx he=>(hr i x e hx he).mono m
theorem zz.kept {F:Nat→Prop} {γ γ':Gh} {w w':World} {H:zc} (e:Ext F γ w γ' w') (h:zz γ w H) (hF:∀ b o,H b=some o→¬ F b):zz γ' w' H :=
 fun b o hb=>let ho:=h b o hb;let ⟨g,k⟩:=e.frame b ho.lt (hF b o hb);ho.kept e.mono g k
inductive AEnd where
 | ret (v:AV)
 | pan (v:AV)
def zlJ (γ:Gh) (w:World):Ending→AEnd→Prop
 | .returned v,.ret c=>Rep γ w c v
 | .panicked ch,.pan c=>∃ v,ch=[{ v,recovered:=false }]∧Rep γ w c v
 | _,_=>False
def yn (γ:Gh) (w:World) (cs:List AV) (vs:List Value):Prop :=
 cs.length=vs.length∧∀(i:Nat) (c:AV) (v:Value),cs[i]?=some c→vs[i]?=some v→Rep γ w c v
theorem yn.mono {γ γ':Gh} {w w':World} (m:Mono γ w γ' w') {cs:List AV} {vs:List Value} (h:yn γ w cs vs):yn γ' w' cs vs :=
 ⟨h.1,fun i c v hc hv=>(h.2 i c v hc hv).mono m⟩
theorem yn.nil {γ:Gh} {w:World}:yn γ w [] []:=⟨rfl,fun i c v h=>by simp at h⟩
theorem yn.cons {γ:Gh} {w:World} {c:AV} {v:Value} {cs:List AV} {vs:List Value} (h:Rep γ w c v) (hs:yn γ w cs vs):yn γ w (c::cs) (v::vs) :=
 ⟨by simp[hs.1],fun i d u hd hu=>by
  cases i with
  | zero=>simp only[List.getElem?_cons_zero,Al1] at hd hu;subst hd;subst hu;exact h
  | succ i=>simp only[List.getElem?_cons_succ] at hd hu;exact hs.2 i d u hd hu⟩
theorem yn.append {γ:Gh} {w:World} {cs ds:List AV} {vs us:List Value} (h:yn γ w cs vs) (h':yn γ w ds us):yn γ w (cs++ds) (vs++us) :=
 ⟨by simp[h.1,h'.1],fun i d u hd hu=>by
  rcases Nat.lt_or_ge i cs.length with hi|hi
  ·rw[zcH hi] at hd
   rw[zcH (by rw[← h.1];exact hi)] at hu
   exact h.2 i d u hd hu
  ·rw[zfW hi] at hd
   rw[zfW (by rw[← h.1];exact hi),← h.1] at hu
   exact h'.2 _ d u hd hu⟩
def zpE:List (Nat×List (Value→Prop)):=[(0,Go.Pinned.utf8FirstZ.map fun(n:Nat) (v:Value)=>v=.int .u8 n),
 (1,([128,191,160,191,128,159,144,191,128,143,0,0,0,0,0,0,0,0,0,0,0,0,0,0,0,0,0,0,0,0,0,0]:List Nat).map fun(n:Nat) (v:Value)=>v=.int .u8 n),
 (2,([1,10,100,1000,10000,100000,1000000,10000000,100000000,1000000000,10000000000,100000000000,1000000000000,10000000000000,100000000000000,1000000000000000,10000000000000000,100000000000000000,1000000000000000000,10000000000000000000]:List Nat).map fun(n:Nat) (v:Value)=>v=.int .u64 n),
 (3,[fun v=>∃ te pe,v=.iface te pe]),
 (4,[fun v=>∃ te pe,v=.iface te pe]),
 (5,([0,1,28,2,29,14,24,3,30,22,20,15,25,17,4,8,31,27,13,23,21,19,16,7,26,12,18,6,11,5,10,9]:List Nat).map fun(n:Nat) (v:Value)=>v=.int .u8 n),
 (6,([0,1,56,2,57,49,28,3,61,58,42,50,38,29,17,4,62,47,59,36,45,43,51,22,53,39,33,30,24,18,12,5,63,55,48,27,60,41,37,16,46,35,44,21,52,32,23,11,54,26,40,15,34,20,31,10,25,14,19,9,13,8,7,6]:List Nat).map fun(n:Nat) (v:Value)=>v=.int .u8 n)]
def za8 (γ:Gh) (w:World):Prop:=∀ x∈zpE,(∃(arr:Array Value) (E:TypeId) (fr:Nat×Nat),w.heap[x.1]?=some (.cells arr E fr)∧arr.size=x.2.length) ∧
 ∀(j:Nat) (p:Value→Prop),x.2[j]?=some p→∃ v,CellIs γ w x.1 j v∧p v
theorem za8.mono {γ γ' : Gh} {w w' : World} (m : Mono γ w γ' w') (h : za8 γ w) : za8 γ' w' := fun x hx =>
  ⟨let ⟨arr, E, fr, h1, h2⟩ := (h x hx).1; let ⟨arr', h3, h4⟩ := m.shape _ arr E fr h1; ⟨arr', E, fr, h3, h4.trans h2⟩,
   fun j p hp => let ⟨v, h1, h2⟩ := (h x hx).2 j p hp; ⟨v, h1.mono m, h2⟩⟩
def zj (P:Program) (f:FuncId) (args:List AV) (H:zc) (Q:AEnd→zc→Prop):Prop :=
 ∀(γ:Gh) (w:World) (vs:List Value),za8 γ w→zz γ w H→yn γ w args vs →
  Calls P f vs.toArray w fun e w'=>∃ γ' H' r,Ext (fun b=>(H b).isSome=true) γ w γ' w'∧zz γ' w' H' ∧
   (∀ b,(H' b).isSome=true→(H b).isSome=true∨w.heap.size≤b)∧zlJ γ' w' e r∧Q r H'
theorem zj.mono {P:Program} {f:FuncId} {args:List AV} {H:zc} {Q Q':AEnd→zc→Prop} (h:zj P f args H Q) (hq:∀ r H',Q r H'→Q' r H'):zj P f args H Q' :=
 fun γ w vs ht hs hv=>(h γ w vs ht hs hv).mono fun _ _ ⟨γ',H',r,a,b,c,d,e⟩=>⟨γ',H',r,a,b,c,d,hq _ _ e⟩
theorem zc.union_some {A B:zc} {b:Nat} {o:AObj} (h:zc.union A B b=some o):A b=some o∨(A b=none∧B b=some o):=by
 unfold zc.union at h
 cases ha:A b with
 | none=>right;simpa[ha] using h
 | some x=>left;simpa[ha] using h
theorem zz.sub {γ:Gh} {w:World} {H H':zc} (h:zz γ w H) (hs:∀ b o,H' b=some o→H b=some o):zz γ w H' :=
 fun b o hb=>h b o (hs b o hb)
theorem zj.frame {P:Program} {f:FuncId} {args:List AV} {A B:zc} {Q:AEnd→zc→Prop} (hd:zc.Disj A B) (h:zj P f args A Q) :
  zj P f args (zc.union A B) fun r H'=>∃ A',Q r A'∧zc.Disj A' B∧H'=zc.union A' B:=by
 intro γ w vs ht hs hv
 have hA:zz γ w A:=hs.sub fun b o hb=>by simp[zc.union,hb]
 have hB:zz γ w B:=hs.sub fun b o hb=>by
  rcases hd b with h|h
  ·simp[zc.union,h,hb]
  ·rw[h] at hb;cases hb
 refine(h γ w vs ht hA hv).mono fun e w' ⟨γ',A',r,hext,hst,hkeys,hend,hq⟩=>?_
 have hdis:zc.Disj A' B:=fun c=>by
  cases hc:A' c with
  | none=>exact .inl rfl
  | some x =>
   right
   rcases hkeys c (by simp[hc]) with h1|h1
   ·rcases hd c with h2|h2
    ·simp[h2] at h1
    ·exact h2
   ·cases hb:B c with
    | none=>rfl
    | some y=>have:=(hB c y hb).lt;omega
 have hB':zz γ' w' B:=hB.kept hext fun b o hb hf=>by
  rcases hd b with h1|h1
  ·simp[h1] at hf
  ·rw[h1] at hb;cases hb
 refine⟨γ',zc.union A' B,r,hext.weaken fun b hb=>?_,fun b o hb=>?_,fun b hb=>?_,hend,A',hq,hdis,rfl⟩
 ·cases ha:A b with
  | none=>simp[ha] at hb
  | some x=>simp[zc.union,ha]
 ·rcases zc.union_some hb with h1|⟨_,h1⟩
  ·exact hst b o h1
  ·exact hB' b o h1
 ·cases ha:A' b with
  | some x =>
   rcases hkeys b (by simp[ha]) with h1|h1
   ·left
    cases hab:A b with
    | none=>simp[hab] at h1
    | some y=>simp[zc.union,hab]
   ·exact .inr h1
  | none =>
   simp only[zc.union,ha,Option.none_or] at hb
   left
   cases hab:A b with
   | some y=>simp[zc.union,hab]
   | none=>simp[zc.union,hab,hb]
inductive Opd where
 | t (n:Nat)
 | k (c:AV)
abbrev Env:=Nat→AV
def Env.set (ρ:Env) (d:Option Nat) (c:AV):Env :=
 match d with
 | some d=>fun n=>if n=d then c else ρ n
 | none=>ρ
def Opd.ev (ρ:Env):Opd→AV
 | .t n=>ρ n
 | .k c=>c
def Own.cut:Own→Nat→Own
 | .tip b d,l=>.tip b (d+l)
 | o,_=>o
inductive AOp where
 | mv (x:Opd)
 | pick (c a b:Opd)
 | nilchk (x:Opd)
 | bi (op:BinOp) (k:IntKind) (x y:Opd)
 | shf (op:BinOp) (x y:Opd)
 | bs (op:BinOp) (x y:Opd)
 | bb (neg:Bool) (x y:Opd)
 | eqa (neg:Bool) (ks:List K1) (x y:Opd)
 | not (x:Opd)
 | cvi (k:IntKind) (x:Opd)
 | bld (zero:List AV) (parts:List (Nat×Nat×Opd))
 | bls (sz len:Nat) (zero:List AV) (parts:List (Nat×Opd))
 | mkfn (f:FuncId) (first caps:List Opd)
 | ext (x:Opd) (i:Nat)
 | fa (off:Nat) (x:Opd)
 | ia (sz:Nat) (x i:Opd)
 | ixs (x i:Opd)
 | sls (x:Opd) (lo hi:Option Opd)
 | sll (sz:Nat) (x:Opd) (lo hi mx:Option Opd)
 | len (x:Opd)
 | lens (x:Opd)
 | mm (mx:Bool) (x:Opd) (ys:List Opd)
 | boxv (x:Opd)
 | ifnil (neg:Bool) (x:Opd)
 | ld (n:Nat) (ag:Bool) (x:Opd)
 | lkp (kt:KT) (zero:AV) (ok:Bool) (m k:Opd)
 | alloc (zero:List AV)
 | box (x:Opd)
 | mkm (kt:KT)
 | st (n:Nat) (x y:Opd)
 | mup (kt:KT) (m k v:Opd)
 | app (sz bytes:Nat) (x y:Opd)
 | blsm (sz len:Nat) (zero:List AV) (parts:List (Nat×Opd))
 | call (f:FuncId) (args:List Opd)
 | callv (g:Opd) (args:List Opd)
 | pan (x:Opd)
def mk (ag:Bool) (cs:List AV):AV:=if ag then .agg cs else cs.headD .any
def yt (op:BinOp) (k:IntKind) (a b:Int):Option AV :=
 match op with
 | .add=>some (.int k (k.wrap (a+b)))
 | .sub=>some (.int k (k.wrap (a-b)))
 | .mul=>some (.int k (k.wrap (a*b)))
 | .quo=>if b=0 then none else some (.int k (k.wrap (a.tdiv b)))
 | .rem=>if b=0 then none else some (.int k (a.tmod b))
 | .and=>some (.int k (k.wrap (BitVec.ofInt k.bits a &&& BitVec.ofInt k.bits b).toNat))
 | .or=>some (.int k (k.wrap (BitVec.ofInt k.bits a ||| BitVec.ofInt k.bits b).toNat))
 | .xor=>some (.int k (k.wrap (BitVec.ofInt k.bits a ^^^ BitVec.ofInt k.bits b).toNat))
 | .andNot=>some (.int k (k.wrap (BitVec.ofInt k.bits a &&& ~~~ BitVec.ofInt k.bits b).toNat))
 | .eql=>some (.bool (a==b))
 | .neq=>some (.bool (a != b))
 | .lss=>some (.bool (decide (a<b)))
 | .leq=>some (.bool (decide (a≤b)))
 | .gtr=>some (.bool (decide (b<a)))
 | .geq=>some (.bool (decide (b≤a)))
 | .shl|.shr=>none
def yC (op:BinOp) (k:IntKind) (a b:Int):Option AV :=
 match op with
 | .shl=>if b<0 then none else some (.int k (k.wrap (a*2 ^ (min b.toNat k.bits))))
 | .shr=>if b<0 then none else some (.int k (a.fdiv (2 ^ (min b.toNat k.bits))))
 | _=>none
def yB (op:BinOp) (a b:List UInt8):Option AV :=
 match op with
 | .add=>if a.length+b.length≤9223372036854775807 then some (.str (a++b)) else none
 | .eql=>some (.bool (a==b))
 | .neq=>some (.bool !(a==b))
 | .lss=>some (.bool (Op.bytesLess a b))
 | .leq=>some (.bool (Op.bytesLess a b||a==b))
 | .gtr=>some (.bool !(Op.bytesLess a b||a==b))
 | .geq=>some (.bool !(Op.bytesLess a b))
 | _=>none
def splice (cs:List AV) (off:Nat) (v:List AV):List AV:=cs.take off++v++cs.drop (off+v.length)
def zL (ρ:Env):List AV→List (Nat×Nat×Opd)→Option (List AV)
 | cs,[]=>some cs
 | cs,(off,n,x)::r=>if (x.ev ρ).cells.length=n∧off+n≤cs.length∧(x.ev ρ).boxable=true then zL ρ (splice cs off (x.ev ρ).cells) r else none
def zI (S:AV→AV) (ρ:Env) (sz:Nat):List (List AV)→List (Nat×Opd)→Option (List (List AV))
 | xs,[]=>some xs
 | xs,(i,x)::r=>if (x.ev ρ).cells.length=sz∧i<xs.length∧(x.ev ρ).boxable=true then zI S ρ sz (xs.set i ((x.ev ρ).cells.map S)) r else none
def bound (dflt:Nat) (ρ:Env):Option Opd→Option Int
 | none=>some dflt
 | some x=>match x.ev ρ with
  | .int _ n=>some n
  | _=>none
def mm2 (mx:Bool) (a b:Int):Int:=if mx then (if b > a then b else a) else (if b<a then b else a)
def zM (mx:Bool) (k:IntKind) (ρ:Env):Int→List Opd→Option Int
 | a,[]=>some a
 | a,y::r=>match y.ev ρ with
  | .int k' b=>if k=k' then zM mx k ρ (mm2 mx a b) r else none
  | _=>none
def zm0 (sz b off len cap:Nat):Option Int→Option Int→Option AV
 | some l,some h=>if 0≤l∧l≤h∧h≤len then some (.ms b (if cap=l.toNat then off else off+l.toNat*sz) (h.toNat-l.toNat) (cap-l.toNat)) else none
 | _,_=>none
def pev (ρ:Env):AOp→Option AV
 | .mv x=>some (x.ev ρ)
 | .pick c a b=>match c.ev ρ with
  | .bool t=>some (if t then a.ev ρ else b.ev ρ)
  | _=>none
 | .nilchk x=>match x.ev ρ with
  | .ptr b o=>some (.ptr b o)
  | .view cs=>some (.view cs)
  | .clo f a b=>some (.clo f a b)
  | _=>none
 | .bi op k x y=>match x.ev ρ,y.ev ρ with
  | .int k1 a,.int k2 b=>if k1=k∧k2=k then yt op k a b else none
  | _,_=>none
 | .shf op x y=>match x.ev ρ,y.ev ρ with
  | .int k a,.int _ b=>yC op k a b
  | _,_=>none
 | .bs op x y=>match x.ev ρ,y.ev ρ with
  | .str a,.str b=>yB op a b
  | _,_=>none
 | .bb neg x y=>match x.ev ρ,y.ev ρ with
  | .bool a,.bool b=>some (.bool (if neg then !(a==b) else a==b))
  | _,_=>none
 | .eqa neg ks x y=>match x.ev ρ,y.ev ρ with
  | .agg as,.agg bs=>if zZ ks as=true∧zZ ks bs=true then some (.bool (if neg then !(zcE as bs) else zcE as bs)) else none
  | _,_=>none
 | .not x=>match x.ev ρ with
  | .bool t=>some (.bool !t)
  | _=>none
 | .cvi k x=>match x.ev ρ with
  | .int _ n=>some (.int k (k.wrap n))
  | _=>none
 | .bld zero parts=>(zL ρ zero parts).map .agg
 | .bls sz n zero parts=>if zero.length=sz then (zI AV.strip1 ρ sz (List.replicate n zero) parts).map (.sl .full sz) else none
 | .mkfn f first caps=>some (.clo f (first.map (Opd.ev ρ)) (caps.map (Opd.ev ρ)))
 | .ext x i=>match x.ev ρ with
  | .tup vs=>vs[i]?
  | _=>none
 | .fa off x=>match x.ev ρ with
  | .ptr b o=>some (.ptr b (o+off))
  | .view cs=>some (.view (cs.drop off))
  | _=>none
 | .ia sz x i=>match x.ev ρ,i.ev ρ with
  | .sl _ sz' xs,.int _ n=>if sz'=sz∧0≤n∧n<xs.length then some (.view (xs.getD n.toNat [])) else none
  | .ms b off len _,.int _ n=>if 0≤n∧n<len then some (.ptr b (off+n.toNat*sz)) else none
  | _,_=>none
 | .ixs x i=>match x.ev ρ,i.ev ρ with
  | .str s,.int _ n=>if 0≤n∧n<s.length then some (.int .u8 (s.getD n.toNat 0).toNat) else none
  | _,_=>none
 | .sls x lo hi=>match x.ev ρ with
  | .str s=>match bound 0 ρ lo,bound s.length ρ hi with
   | some l,some h=>if 0≤l∧l≤h∧h≤s.length then some (.str ((s.take h.toNat).drop l.toNat)) else none
   | _,_=>none
  | _=>none
 | .sll sz x lo hi mx=>match x.ev ρ with
  | .sl o sz' xs=>match bound 0 ρ lo,bound xs.length ρ hi,mx with
   | some l,some h,none=>if sz'=sz∧0≤l∧l≤h∧h≤xs.length then some (.sl (if hi.isNone then o.cut l.toNat else .no) sz ((xs.take h.toNat).drop l.toNat)) else none
   | some l,some h,some m=>match m.ev ρ with
    | .int _ m=>if sz'=sz∧0≤l∧l≤h∧h≤m∧m≤xs.length then some (.sl (if m=h then .full else .no) sz ((xs.take h.toNat).drop l.toNat)) else none
    | _=>none
   | _,_,_=>none
  | .ms b off len cap=>match mx with
   | none=>zm0 sz b off len cap (bound 0 ρ lo) (bound len ρ hi)
   | some _=>none
  | _=>none
 | .lens x=>match x.ev ρ with
  | .str s=>some (.int .i64 s.length)
  | _=>none
 | .len x=>match x.ev ρ with
  | .sl _ _ xs=>some (.int .i64 xs.length)
  | .slx _ xs _=>some (.int .i64 xs.length)
  | .ms _ _ n _=>some (.int .i64 n)
  | _=>none
 | .mm mx x ys=>match x.ev ρ with
  | .int k a=>(zM mx k ρ a ys).map (.int k)
  | _=>none
 | .ifnil neg x=>match x.ev ρ with
  | .oth .nilIface=>some (.bool !neg)
  | .ifc _ _=>some (.bool neg)
  | _=>none
 | .boxv x=>if (x.ev ρ).boxable=true then some (.view (x.ev ρ).cells) else none
 | _=>none
def zaO (es:List (AV×AV)) (k:AV):Option AV :=
 match es with
 | []=>none
 | (a,v)::r=>if k.keq a then some v else zaO r k
def zbk (es:List (AV×AV)) (k v:AV):List (AV×AV) :=
 match es with
 | []=>[(k,v)]
 | (a,u)::r=>if k.keq a then (k,v)::r else (a,u)::zbk r k v
def YB (zero:AV) (ok:Bool) (r:Option AV):AV:=if ok then .tup [r.getD zero,.bool r.isSome] else r.getD zero
def rev (ρ:Env) (H:zc):AOp→Option AV
 | .ld n ag x=>match x.ev ρ with
  | .view cs=>if n≤cs.length then some (mk ag (cs.take n)) else none
  | .ptr b off=>match H b with
   | some (.cells cs)=>if off+n≤cs.length then some (mk ag ((cs.drop off).take n)) else none
   | _=>none
  | _=>none
 | .lkp kt zero ok m k=>if kt.fits (k.ev ρ) then match m.ev ρ with
  | .nilm=>some (YB zero ok none)
  | .mp b=>match H b with
   | some (.map kt' es)=>if kt'=kt then some (YB zero ok (zaO es (k.ev ρ))) else none
   | _=>none
  | _=>none
  else none
 | _=>none
inductive Cls where
 | pure|read|alloc|eff
 deriving DecidableEq
def AOp.cls:AOp→Cls
 | .ld ..|.lkp ..=>.read
 | .alloc ..|.box ..|.mkm ..|.blsm ..=>.alloc
 | .st ..|.mup ..|.app ..|.call ..|.callv ..|.pan ..=>.eff
 | _=>.pure
def oev (ρ:Env):AOp→Option AObj
 | .alloc zero=>some (.cells zero)
 | .box x=>if (x.ev ρ).boxable=true then some (.cells (x.ev ρ).cells) else none
 | .mkm kt=>some (.map kt [])
 | .blsm sz n zero parts=>if zero.length=sz then (zI AV.strip1 ρ sz (List.replicate n zero) parts).map fun ys=>.cells ys.flatten else none
 | _=>none
def yj (ρ:Env) (b:Nat):AOp→AV
 | .mkm _=>.mp b
 | .blsm _ n _ _=>.ms b 0 n n
 | _=>.ptr b 0
def ZP (K KP:AV→zc→Prop):AEnd→zc→Prop
 | .ret v,H=>K v H
 | .pan v,H=>KP v H
def Program.callable (P:Program) (f:FuncId):Bool :=
 match P.funcs[f]? with
 | some fn => fn.body.isSome && fn.name != "runtime.NumGoroutine"
 | none=>false
def zkZ (sz bytes:Nat) (x y:AV) (H:zc) (K:AV→zc→Prop):Prop :=
 match x,y with
 | .sl o s1 xs,.sl _ s2 ys =>
  s1=sz∧s2=sz∧(xs.length+ys.length)*bytes≤140737488355328∧xs.length+ys.length≤maxLen ∧
  match o with
  | .no=>False
  | .nil|.full=>(ys=[]→K (.sl o sz xs) H) ∧
    (ys≠[]→∀ b,H b=none→K (.sl (.tip b 0) sz (xs++ys.map (·.map AV.strip1))) (H.upd b (.tip (xs.length+ys.length) sz)))
  | .tip b d=>H b=some (.tip (d+xs.length) sz) ∧
    ∀ b' d',(H.del b) b'=none→K (.sl (.tip b' d') sz (xs++ys.map (·.map AV.strip1))) ((H.del b).upd b' (.tip (d'+(xs.length+ys.length)) sz))
 | _,_=>False
def eff (P:Program) (KP:AV→zc→Prop) (ρ:Env) (H:zc) (K:AV→zc→Prop):AOp→Prop
 | .st n x y=>match x.ev ρ with
  | .ptr b off=>match H b with
   | some (.cells cs)=>(y.ev ρ).cells.length=n∧off+n≤cs.length∧(y.ev ρ).boxable=true∧K (.tup []) (H.upd b (.cells (splice cs off (y.ev ρ).cells)))
   | _=>False
  | _=>False
 | .mup kt m k v=>match m.ev ρ with
  | .mp b=>match H b with
   | some (.map kt' es)=>kt'=kt∧kt.fits (k.ev ρ)=true∧K (.tup []) (H.upd b (.map kt (zbk es (k.ev ρ) (v.ev ρ))))
   | _=>False
  | _=>False
 | .app sz bytes x y=>zkZ sz bytes (x.ev ρ) (y.ev ρ) H K
 | .call f args=>zj P f (args.map (Opd.ev ρ)) H (ZP K KP)
 | .callv g args=>match g.ev ρ with
  | .clo f first caps=>Program.callable P f=true∧zj P f (first++args.map (Opd.ev ρ)++caps) H (ZP K KP)
  | _=>False
 | .pan x=>match x.ev ρ with
  | .ifc t y=>KP (.ifc t y) H
  | _=>False
 | _=>False
def zco (H:zc):Prop:=∃ n,∀ b,n≤b→H b≠none
def aop (P:Program) (KP:AV→zc→Prop) (o:AOp) (ρ:Env) (H:zc) (K:AV→zc→Prop):Prop :=
 match o.cls with
 | .pure=>match pev ρ o with
  | some v=>K v H
  | none=>False
 | .read=>match rev ρ H o with
  | some v=>K v H
  | none=>False
 | .alloc=>match oev ρ o with
  | some x=>∀ b,H b=none→K (yj ρ b o) (H.upd b x)
  | none=>zco H
 | .eff=>eff P KP ρ H K o
structure EnvRel (γ:Gh) (w:World) (ρ:Env) (tmps:Array Value):Prop where
 tab:za8 γ w
 rep:∀ n,Rep γ w (ρ n) (tmps.getD n undef)
theorem EnvRel.mono {γ γ':Gh} {w w':World} (m:Mono γ w γ' w') {ρ:Env} {tmps:Array Value} (h:EnvRel γ w ρ tmps):EnvRel γ' w' ρ tmps:=⟨h.tab.mono m,fun n=>(h.rep n).mono m⟩
def zhX:Value→AV→Bool
 | .bool b,.bool b'=>b==b'
 | .int k n,.int k' n'=>decide (k=k')&&decide (n=n')
 | .string s,.str l=>s.data.toList==l
 | .slice none 0 0,.sl .nil _ []=>true
 | .pointer none,.nilp=>true
 | .map none,.nilm=>true
 | .nilFunc,.oth .nilFunc=>true
 | .nilIface,.oth .nilIface=>true
 | _,_=>false
def zbc:List Value→List AV→Bool
 | [],[]=>true
 | v::vs,c::cs=>zhX v c&&zbc vs cs
 | _,_=>false
def zp0:Value→AV→Bool
 | .agg vs,.agg cs=>zbc vs.toList cs
 | v,c=>zhX v c
def zU:Operand→Opd→Bool
 | .tmp t,.t n=>t==n
 | .const v,.k c=>zp0 v c
 | .func f,.k (.clo f' [] [])=>f==f'
 | _,_=>false
theorem znt {v:Value} {c:AV} (h:zhX v c=true):v.oneCell'=true:=by
 unfold zhX at h
 split at h<;>first|rfl|cases h
theorem zh9 {v:Value} {c:AV} (h:zhX v c=true) (γ:Gh) (w:World):Rep γ w c v:=by
 unfold zhX at h
 split at h
 ·simp at h;subst h;exact .bool _
 ·simp at h;obtain⟨rfl,rfl⟩:=h;exact .int _ _
 ·rename_i s l
  simp at h
  subst h
  exact .str s.data.toList
 ·exact .slnil .nil _ (by simp)
 ·exact .nilp
 ·exact .nilm
 ·exact .oth _
 ·exact .oth _
 ·cases h
theorem zbW:∀ {vs:List Value} {cs:List AV},zbc vs cs=true→∀(γ:Gh) (w:World),
  cs.length=vs.length∧(∀(i:Nat) (v:Value),vs[i]?=some v→v.oneCell'=true)∧∀(i:Nat) (c:AV) (v:Value),cs[i]?=some c→vs[i]?=some v→Rep γ w c v
 | [],[],_,γ,w=>by simp
 | [],_::_,h,_,_=>by simp[zbc] at h
 | _::_,[],h,_,_=>by simp[zbc] at h
 | v::vs,c::cs,h,γ,w=>by
  simp only[zbc,Al0] at h
  obtain⟨h1,h2,h3⟩:=zbW h.2 γ w
  refine⟨by simp[h1],fun i u hu=>?_,fun i d u hd hu=>?_⟩
  ·cases i with
   | zero=>simp at hu;subst hu;exact znt h.1
   | succ i=>simp at hu;exact h2 i u hu
  ·cases i with
   | zero=>simp at hd hu;subst hd;subst hu;exact zh9 h.1 γ w
   | succ i=>simp at hd hu;exact h3 i d u hd hu
theorem zko {v:Value} {c:AV} (h:zp0 v c=true) (γ:Gh) (w:World):Rep γ w c v:=by
 unfold zp0 at h
 split at h
 ·rename_i vs cs
  obtain⟨h1,h2,h3⟩:=zbW h γ w
  exact .agg cs vs.toList h1 h2 h3
 ·exact zh9 h γ w
theorem zx {x:Operand} {y:Opd} (h:zU x y=true) {γ:Gh} {w:World} {ρ:Env} {a:Act} (he:EnvRel γ w ρ a.tmps):Rep γ w (y.ev ρ) (a.eval x):=by
 unfold zU at h
 split at h
 ·simp at h;subst h;exact he.rep _
 ·exact zko h γ w
 ·simp at h;subst h
  exact .clo _ [] [] [] [] rfl rfl (by simp) (by simp)
 ·cases h
def Y2:List Operand→List Opd→Bool
 | [],[]=>true
 | x::xs,y::ys=>zU x y&&Y2 xs ys
 | _,_=>false
theorem zb1:∀ {xs:List Operand} {ys:List Opd},Y2 xs ys=true→∀ {γ:Gh} {w:World} {ρ:Env} {a:Act},EnvRel γ w ρ a.tmps →
  yn γ w (ys.map (Opd.ev ρ)) (xs.map a.eval)
 | [],[],_,_,_,_,_,_=>yn.nil
 | [],_::_,h,_,_,_,_,_=>by simp[Y2] at h
 | _::_,[],h,_,_,_,_,_=>by simp[Y2] at h
 | x::xs,y::ys,h,_,_,_,_,he=>by
  simp only[Y2,Al0] at h
  exact yn.cons (zx h.1 he) (zb1 h.2 he)
def Zk (P:Program) (o:Oper) (ao:AOp):Prop :=
 ∀(γ:Gh) (w:World) (ρ:Env) (a:Act) (c:AV),EnvRel γ w ρ a.tmps→pev ρ ao=some c →
  ∃ v γ' w',(execOp a.eval o).run P w=.ok (.value v) w'∧Ext (fun _=>False) γ w γ' w'∧Rep γ' w' c v
theorem zT {P:Program} {o:Oper} {a:Act} {γ:Gh} {w:World} {c:AV} {v:Value} (h:(execOp a.eval o).run P w=.ok (.value v) w) (hr:Rep γ w c v) :
  ∃ v γ' w',(execOp a.eval o).run P w=.ok (.value v) w'∧Ext (fun _=>False) γ w γ' w'∧Rep γ' w' c v :=
 ⟨v,γ,w,h,.refl _ _ _,hr⟩
theorem zse {P:Program} {o:Oper} {x:Operand} {y:Opd} (ho:o.op=.move x∨o.op=.assign x) (h:zU x y=true):Zk P o (.mv y):=by
 intro γ w ρ a c he hc
 simp only[pev,Al1] at hc
 subst hc
 exact zT (by rcases ho with ho|ho<;>simp[execOp,ho]) (zx h he)
theorem zrd {P:Program} {o:Oper} {x y z:Operand} {x' y' z':Opd} (ho:o.op=.pick x y z) (h:zU x x'=true) (h2:zU y y'=true) (h3:zU z z'=true):Zk P o (.pick x' y' z'):=by
 intro γ w ρ a c he hc
 have r1:=zx h he
 have r2:=zx h2 he
 have r3:=zx h3 he
 simp only[pev] at hc
 cases hx:x'.ev ρ<;>simp only[hx] at hc r1<;>try (cases hc;done)
 rename_i t
 simp only[Al1] at hc
 subst hc
 generalize hv:a.eval x=v at r1
 cases r1
 cases t
 ·exact zT (v:=a.eval z) (by simp[execOp,ho,hv,asBool]) (by simpa using r3)
 ·exact zT (v:=a.eval y) (by simp[execOp,ho,hv,asBool]) (by simpa using r2)
theorem znS {P:Program} {o:Oper} {x:Operand} {x':Opd} (ho:o.op=.nilCheck x) (h:zU x x'=true):Zk P o (.nilchk x'):=by
 intro γ w ρ a c he hc
 have r1:=zx h he
 simp only[pev] at hc
 cases hx:x'.ev ρ<;>simp only[hx] at hc r1<;>try (cases hc;done)
 all_goals
  simp only[Al1] at hc
  subst hc
  generalize hv:a.eval x=v at r1
  have r1':=r1
  cases r1
  exact zT (by simp[execOp,ho,hv]) r1'
theorem zi3 {P:Program} {w:World} (op:BinOp) (k:IntKind) (a b:Int) {c:AV} (h:yt op k a b=some c) (h1:op≠.shl) (h2:op≠.shr) (t:TypeId) (γ:Gh) :
  ∃ v,(binOp op t (.int k a) (.int k b)).run P w=.ok v w∧Rep γ w c v:=by
 cases op
 case shl=>exact absurd rfl h1
 case shr=>exact absurd rfl h2
 case quo =>
  simp only[yt] at h
  split at h
  ·cases h
  ·rename_i hb;simp only[Al1] at h;subst h;exact⟨.int k _,by simp[binOp,Op.intDiv,hb];done,.int _ _⟩
 case rem =>
  simp only[yt] at h
  split at h
  ·cases h
  ·rename_i hb;simp only[Al1] at h;subst h;exact⟨.int k _,by simp[binOp,Op.intDiv,hb];done,.int _ _⟩
 case add=>simp only[yt,Al1] at h;subst h;exact⟨.int k _,by simp[binOp,Op.intArith];done,.int _ _⟩
 case sub=>simp only[yt,Al1] at h;subst h;exact⟨.int k _,by simp[binOp,Op.intArith];done,.int _ _⟩
 case mul=>simp only[yt,Al1] at h;subst h;exact⟨.int k _,by simp[binOp,Op.intArith];done,.int _ _⟩
 case and=>simp only[yt,Al1] at h;subst h;exact⟨.int k _,by simp[binOp,Op.intBits];done,.int _ _⟩
 case or=>simp only[yt,Al1] at h;subst h;exact⟨.int k _,by simp[binOp,Op.intBits];done,.int _ _⟩
 case xor=>simp only[yt,Al1] at h;subst h;exact⟨.int k _,by simp[binOp,Op.intBits];done,.int _ _⟩
 case andNot=>simp only[yt,Al1] at h;subst h;exact⟨.int k _,by simp[binOp,Op.intBits];done,.int _ _⟩
 all_goals (simp only[yt,Al1] at h;subst h;exact⟨.bool _,by simp[binOp,Op.intCmp];done,.bool _⟩)
theorem zam {P:Program} {w:World} (op:BinOp) (t:TypeId) (x y:Operand) (u v:Value) (h:∀ cs,u≠.agg cs) (h':u≠.nilIface):(eqGuard op t x y u v).run P w=.ok () w:=by
 unfold eqGuard
 split<;>first|rfl|(cases u<;>first|rfl|(simp at h';done)|(exact absurd rfl (h _))|(simp;done))
theorem zur {P:Program} {o:Oper} {op:BinOp} {t u:TypeId} {k:IntKind} {x y:Operand} {x' y':Opd} (ho:o.op=.binOp op t x y u) (h:zU x x'=true) (h2:zU y y'=true)
  (h3:op≠.shl) (h4:op≠.shr):Zk P o (.bi op k x' y'):=by
 intro γ w ρ a c he hc
 have r1:=zx h he
 have r2:=zx h2 he
 simp only[pev] at hc
 cases hx:x'.ev ρ<;>simp only[hx] at hc r1<;>try (cases hc;done)
 cases hy:y'.ev ρ<;>simp only[hy] at hc r2<;>try (cases hc;done)
 rename_i k1 n1 k2 n2
 split at hc
 ·rename_i hk
  obtain⟨rfl,rfl⟩:=hk
  generalize hv:a.eval x=v at r1
  generalize hu:a.eval y=v' at r2
  cases r1
  cases r2
  obtain⟨v,hr,hrep⟩:=zi3 (P:=P) (w:=w) op _ _ _ hc h3 h4 t γ
  refine zT ?_ hrep
  simp only[execOp,ho,hv,hu,Sem.run_bind,zam op t x y (.int _ _) _ (by simp) (by simp),Result.andThen_ok,hr,Sem.run_pure]
 ·cases hc
theorem ztV {P:Program} {o:Oper} {op:BinOp} {t u:TypeId} {x y:Operand} {x' y':Opd} (ho:o.op=.binOp op t x y u) (h:zU x x'=true) (h2:zU y y'=true):Zk P o (.shf op x' y'):=by
 intro γ w ρ a c he hc
 have r1:=zx h he
 have r2:=zx h2 he
 simp only[pev] at hc
 cases hx:x'.ev ρ<;>simp only[hx] at hc r1<;>try (cases hc;done)
 cases hy:y'.ev ρ<;>simp only[hy] at hc r2<;>try (cases hc;done)
 generalize hv:a.eval x=v at r1
 generalize hu:a.eval y=v' at r2
 cases r1
 cases r2
 cases op<;>simp only[yC] at hc<;>try (cases hc;done)
 all_goals
  split at hc
  ·cases hc
  ·rename_i hb
   simp only[Al1] at hc
   subst hc
   refine zT ?_ (.int _ _)
   simp only[execOp,ho,hv,hu,Sem.run_bind,zam _ t x y (.int _ _) _ (by simp) (by simp),Result.andThen_ok,binOp,Op.shift,hb,if_false,Sem.run_pure]
theorem zdm (s:List UInt8):(ByteArray.mk s.toArray).toList=s:=by
 rw[ByteArray.toList_eq]
theorem zei (s:List UInt8):(ByteArray.mk s.toArray).size=s.length:=by
 show s.toArray.size=s.length
 simp
theorem znC (a b:List UInt8):(ByteArray.mk a.toArray)++(ByteArray.mk b.toArray)=ByteArray.mk (a++b).toArray:=by
 apply ByteArray.ext
 simp
theorem zuO {P:Program} {o:Oper} {op:BinOp} {t u:TypeId} {x y:Operand} {x' y':Opd} (ho:o.op=.binOp op t x y u) (h:zU x x'=true) (h2:zU y y'=true):Zk P o (.bs op x' y'):=by
 intro γ w ρ a c he hc
 have r1:=zx h he
 have r2:=zx h2 he
 simp only[pev] at hc
 cases hx:x'.ev ρ<;>simp only[hx] at hc r1<;>try (cases hc;done)
 cases hy:y'.ev ρ<;>simp only[hy] at hc r2<;>try (cases hc;done)
 rename_i s1 s2
 generalize hv:a.eval x=v at r1
 generalize hu:a.eval y=v' at r2
 cases r1
 cases r2
 have key:∃ v,(Op.stringOp op ⟨s1.toArray⟩ ⟨s2.toArray⟩).run P w=.ok v w∧Rep γ w c v:=by
  unfold yB at hc
  unfold Op.stringOp
  rw[zdm,zdm,zei,zei,znC]
  cases op<;>simp only[] at hc ⊢<;>try (cases hc;done)
  case add =>
   split at hc
   ·rename_i hl
    simp only[Al1] at hc
    subst hc
    refine⟨.string ⟨(s1++s2).toArray⟩,?_,.str _⟩
    have hmax:¬ (((s1.length+s2.length:Nat):Int) > IntKind.i64.max):=by
     simp only[IntKind.max,IntKind.signed,IntKind.bits,if_true];omega
    rw[if_neg hmax]
    rfl
   ·cases hc
  all_goals (simp only[Al1] at hc;subst hc;exact⟨.bool _,rfl,.bool _⟩)
 obtain⟨v,hr,hrep⟩:=key
 refine zT ?_ hrep
 have hb:binOp op t (.string ⟨s1.toArray⟩) (.string ⟨s2.toArray⟩)=Op.stringOp op ⟨s1.toArray⟩ ⟨s2.toArray⟩:=by cases op<;>rfl
 simp only[execOp,ho,hv,hu,Sem.run_bind,zam op t x y (.string _) _ (by simp) (by simp),Result.andThen_ok,hb,hr,Sem.run_pure]
theorem zun {P:Program} {o:Oper} {op:BinOp} {neg:Bool} {t u:TypeId} {x y:Operand} {x' y':Opd} (ho:o.op=.binOp op t x y u) (h:zU x x'=true) (h2:zU y y'=true)
  (hop:op=if neg then .neq else .eql) (ht:P.underlying t=some .bool):Zk P o (.bb neg x' y'):=by
 intro γ w ρ a c he hc
 have r1:=zx h he
 have r2:=zx h2 he
 simp only[pev] at hc
 cases hx:x'.ev ρ<;>simp only[hx] at hc r1<;>try (cases hc;done)
 cases hy:y'.ev ρ<;>simp only[hy] at hc r2<;>try (cases hc;done)
 rename_i b1 b2
 generalize hv:a.eval x=v at r1
 generalize hu:a.eval y=v' at r2
 cases r1
 cases r2
 simp only[Al1] at hc
 subst hc
 have he:(Op.equal t (.bool b1) (.bool b2)).run P w=.ok (b1==b2) w:=by
  unfold Op.equal Op.maxDepth
  rw[Op.equalIn]
  simp[run_underlying ht]
 refine zT (v:=.bool (if neg=true then !(b1==b2) else b1==b2)) ?_ (.bool _)
 cases neg<;>simp only[Al7,if_false,if_true] at hop ⊢<;>subst hop <;>
  simp only[execOp,ho,hv,hu,Sem.run_bind,zam _ t x y (.bool _) _ (by simp) (by simp),Result.andThen_ok,binOp,he,Sem.run_pure]
theorem ztM {P:Program} {o:Oper} {t:TypeId} {x:Operand} {x':Opd} (ho:o.op=.unOp .not t x) (h:zU x x'=true):Zk P o (.not x'):=by
 intro γ w ρ a c he hc
 have r1:=zx h he
 simp only[pev] at hc
 cases hx:x'.ev ρ<;>simp only[hx] at hc r1<;>try (cases hc;done)
 simp only[Al1] at hc
 subst hc
 generalize hv:a.eval x=v at r1
 cases r1
 exact zT (v:=.bool _) (by simp[execOp,ho,hv,Op.unary];done) (.bool _)
theorem ztA {P:Program} {o:Oper} {s d:TypeId} {k:IntKind} {x:Operand} {x':Opd} {ds:TypeDesc} (ho:o.op=.convert s d x) (h:zU x x'=true) (hs:P.underlying s=some ds) (hd:P.underlying d=some (.int k)) :
  Zk P o (.cvi k x'):=by
 intro γ w ρ a c he hc
 have r1:=zx h he
 simp only[pev] at hc
 cases hx:x'.ev ρ<;>simp only[hx] at hc r1<;>try (cases hc;done)
 simp only[Al1] at hc
 subst hc
 generalize hv:a.eval x=v at r1
 cases r1
 refine zT (v:=.int k _) ?_ (.int _ _)
 simp[execOp,ho,hv,convert,run_underlying hs,run_underlying hd,Conv.intToInt]
theorem zql {P:Program} {o:Oper} {f:FuncId} {first caps:Array Operand} {first' caps':List Opd} (ho:o.op=.makeFunc (.func f) first caps) (h:Y2 first.toList first'=true) (h':Y2 caps.toList caps'=true) :
  Zk P o (.mkfn f first' caps'):=by
 intro γ w ρ a c he hc
 have r1:=zb1 h he
 have r2:=zb1 h' he
 simp only[pev,Al1] at hc
 subst hc
 refine zT (v:=.func (.func f) (first.toList.map a.eval).toArray (caps.toList.map a.eval).toArray) ?_ (.clo f _ _ _ _ r1.1 r2.1 r1.2 r2.2)
 have e:∀ l:Array Operand,l.map a.eval=(l.toList.map a.eval).toArray:=fun l=>by apply Array.ext';simp
 simp only[execOp,ho,Instr.makeFunc,Sem.run_bind,Sem.run_pure,Result.andThen_ok,e]
theorem zs7 {P:Program} {o:Oper} {i:Nat} {x:Operand} {x':Opd} (ho:o.op=.extract x i) (h:zU x x'=true):Zk P o (.ext x' i):=by
 intro γ w ρ a c he hc
 have r1:=zx h he
 simp only[pev] at hc
 cases hx:x'.ev ρ<;>simp only[hx] at hc r1<;>try (cases hc;done)
 generalize hv:a.eval x=v at r1
 cases r1 with
 | tup cs vs hl hr =>
  have hlt:i<vs.length:=by rw[← hl];exact(zaA.1 hc).1
  refine zT (v:=vs[i]) ?_ (hr i c _ hc (Al9 hlt))
  simp[execOp,ho,hv,Instr.extract,hlt]
theorem addr_add (b o n:Nat):(⟨b,o,none⟩:Addr).add n=⟨b,o+n,none⟩:=by
 unfold Addr.add;split<;>simp_all
def isIface:Option TypeDesc→Bool
 | some (.interface _)=>true
 | _=>false
theorem zo1 {P:Program} {o:Oper} {op:BinOp} {neg:Bool} {t u:TypeId} {x y:Operand} {x':Opd} (ho:o.op=.binOp op t x y u) (hop:op=if neg then .neq else .eql) (h:zU x x'=true) (hy:y=.const .nilIface) (ht:isIface (P.underlying t)=true):Zk P o (.ifnil neg x'):=by
 intro γ w ρ a c he hc
 have r1:=zx h he
 simp only[pev] at hc
 obtain⟨ms,hms⟩:∃ ms,P.underlying t=some (.interface ms):=by
  unfold isIface at ht
  split at ht
  ·rename_i ms hm;exact⟨ms,hm⟩
  ·cases ht
 subst hy
 have hy:a.eval (.const .nilIface)=.nilIface:=rfl
 cases hx:x'.ev ρ<;>simp only[hx] at hc r1<;>try (cases hc;done)
 ·rename_i v0
  cases v0<;>simp only[] at hc<;>try (cases hc;done)
  simp only[Al1] at hc
  subst hc
  generalize hv:a.eval x=v at r1
  cases r1
  refine zT (v:=.bool !neg) ?_ (.bool _)
  have e:(Op.equalIn 10000 t .nilIface .nilIface).run P w=.ok true w:=by
   rw[Op.equalIn];simp[run_underlying hms]
  cases neg<;>simp only[Al7,if_false,if_true] at hop<;>subst hop <;>
   simp[execOp,ho,hv,hy,eqGuard,binOp,Op.equal,Op.maxDepth,Sem.run_bind,e,Sem.run_pure,Result.andThen]
 ·rename_i ty cx
  simp only[Al1] at hc
  subst hc
  generalize hv:a.eval x=v at r1
  cases r1
  rename_i v1 hr1
  refine zT (v:=.bool neg) ?_ (.bool _)
  have e:(Op.equalIn 10000 t (.iface ty v1) .nilIface).run P w=.ok false w:=by
   rw[Op.equalIn];simp[run_underlying hms]
  cases neg<;>simp only[Al7,if_false,if_true] at hop<;>subst hop <;>
   simp[execOp,ho,hv,hy,eqGuard,binOp,Op.equal,Op.maxDepth,Sem.run_bind,e,Sem.run_pure,Result.andThen]
theorem zuC {P:Program} {o:Oper} {s:TypeId} {x:Operand} {x':Opd} {i off:Nat} {fs:Array Field} {f:Field} {fi:TypeInfo} (ho:o.op=.fieldAddr s x i) (h:zU x x'=true) (hs:P.underlying s=some (.struct fs))
  (hf:fs[i]?=some f) (hoff:f.offset=off) (hi:P.info? f.type=some fi) (h0:fi.size≠0):Zk P o (.fa off x'):=by
 intro γ w ρ a c he hc
 have r1:=zx h he
 simp only[pev] at hc
 have hrun:∀ b oo,a.eval x=.pointer (some ⟨b,oo,none⟩)→(execOp a.eval o).run P w=.ok (.value (.pointer (some ⟨b,oo+off,none⟩))) w:=by
  intro b oo hv
  simp[execOp,ho,hv,Instr.fieldAt,run_underlying hs,hf,Instr.sureAddr,fieldPlace,sizeOf,typeInfo,hi,h0,hoff,addr_add]
 cases hx:x'.ev ρ<;>simp only[hx] at hc r1<;>try (cases hc;done)
 ·rename_i b oo
  simp only[Al1] at hc
  subst hc
  generalize hv:a.eval x=v at r1
  cases r1 with
  | ptr _ _ hlt=>exact zT (hrun b oo hv) (.ptr b _ hlt)
 ·rename_i cs
  simp only[Al1] at hc
  subst hc
  generalize hv:a.eval x=v at r1
  cases r1 with
  | view cs b oo cv hcell hr =>
   refine zT (hrun b oo hv) (.view _ b (oo+off) (fun j=>cv (off+j)) (fun j hj=>?_) (fun j c hj=>?_))
   ·have:=hcell (off+j) (by simp at hj;omega)
    rwa [← Nat.add_assoc] at this
   ·rw[List.getElem?_drop] at hj
    exact hr (off+j) c hj
def zeV:Option TypeDesc→Bool
 | some (.struct _)|some (.array _ _)=>true
 | _=>false
theorem zhD {P:Program} {w:World} {t:TypeId} {d:TypeDesc} (h:P.underlying t=some d):(isAgg t).run P w=.ok (zeV (P.underlying t)) w:=by
 unfold isAgg
 rw[Sem.run_bind,run_underlying h w,h]
 cases d<;>rfl
theorem zuE {P:Program} {o:Oper} {t e:TypeId} {x y:Operand} {x' y':Opd} {sz:Nat} {ei:TypeInfo} (ho:o.op=.indexAddr t x y) (h:zU x x'=true) (h2:zU y y'=true)
  (ht:P.underlying t=some (.slice e)) (hi:P.info? e=some ei) (hsz:ei.size=sz):Zk P o (.ia sz x' y'):=by
 intro γ w ρ a c he hc
 have r1:=zx h he
 have r2:=zx h2 he
 simp only[pev] at hc
 have hrun:∀ b oo len cap k (n:Int),a.eval x=.slice (some ⟨b,oo,none⟩) len cap→a.eval y=.int k n→0≤n→n<len→(execOp a.eval o).run P w=.ok (.value (.pointer (some ⟨b,oo+n.toNat*sz,none⟩))) w:=by
  intro b oo len cap k n hv hu h0 hlt
  have hcond:0≤n∧n<(len:Int):=⟨h0,hlt⟩
  simp[execOp,ho,hv,hu,Instr.indexAt,asIntOf,run_underlying ht,hcond,sizeOf,typeInfo,hi,hsz,addr_add]
 cases hx:x'.ev ρ<;>simp only[hx] at hc r1<;>try (cases hc;done)
 all_goals (cases hy:y'.ev ρ<;>simp only[hy] at hc r2<;>try (cases hc;done))
 ·rename_i own sz' xs k n
  split at hc
  ·rename_i hk
   obtain⟨rfl,h0,hlt⟩:=hk
   simp only[Al1] at hc
   subst hc
   generalize hv:a.eval x=v at r1
   generalize hu:a.eval y=v' at r2
   cases r2
   cases r1 with
   | slnil _ _ _=>simp at hlt;omega
   | sl0 _ _ _ _=>simp at hlt;omega
   | sl _ _ _ b oo cap cv hcap hm huni hcell hr hown =>
    have hlt':n.toNat<xs.length:=by omega
    have hx':xs[n.toNat]?=some xs[n.toNat]:=Al9 hlt'
    have hg:xs.getD n.toNat []=xs[n.toNat]:=by simp[List.getD,hx']
    rw[hg]
    have hlen:(xs[n.toNat]).length=sz':=huni _ (List.getElem_mem hlt')
    refine zT (hrun b oo _ cap k n hv hu h0 hlt) (.view _ b (oo+n.toNat*sz') (cv n.toNat) (fun j hj=>?_) (fun j c hj=>hr _ _ hx' j c hj))
    have:=hcell n.toNat _ hx' j (by omega)
    rwa [← Nat.add_assoc] at this
  ·cases hc
 ·rename_i b oo len cap k n
  split at hc
  ·rename_i hk
   obtain⟨h0,hlt⟩:=hk
   simp only[Al1] at hc
   subst hc
   generalize hv:a.eval x=v at r1
   generalize hu:a.eval y=v' at r2
   cases r2
   cases r1 with
   | ms _ _ _ _ hb hcap hm=>exact zT (hrun b oo len cap k n hv hu h0 hlt) (.ptr b _ hb)
  ·cases hc
theorem zsF {P:Program} {o:Oper} {t:TypeId} {x y:Operand} {x' y':Opd} (ho:o.op=.index t x y) (h:zU x x'=true) (h2:zU y y'=true) (ht:P.underlying t=some .string):Zk P o (.ixs x' y'):=by
 intro γ w ρ a c he hc
 have r1:=zx h he
 have r2:=zx h2 he
 simp only[pev] at hc
 cases hx:x'.ev ρ<;>simp only[hx] at hc r1<;>try (cases hc;done)
 cases hy:y'.ev ρ<;>simp only[hy] at hc r2<;>try (cases hc;done)
 rename_i s k n
 split at hc
 ·rename_i hk
  obtain⟨h0,hlt⟩:=hk
  simp only[Al1] at hc
  subst hc
  generalize hv:a.eval x=v at r1
  generalize hu:a.eval y=v' at r2
  cases r1
  cases r2
  have hlt':n.toNat<s.length:=by omega
  have hb:(ByteArray.mk s.toArray)[n.toNat]?=some s[n.toNat]:=by
   rw[getElem?_pos _ _ (by rw[zei];exact hlt')]
   rfl
  have hg:s.getD n.toNat 0=s[n.toNat]:=by simp[List.getD,hlt']
  rw[hg]
  refine zT (v:=.int .u8 _) ?_ (.int _ _)
  simp[execOp,ho,hv,hu,Instr.index,asIntOf,run_underlying ht,h0,hb]
 ·cases hc
theorem zjD (s:List UInt8) (l h:Nat) (hh:h≤s.length):(ByteArray.mk s.toArray).extract l h=ByteArray.mk ((s.take h).drop l).toArray:=by
 apply ByteArray.ext
 apply Array.ext'
 simp[ByteArray.data_extract,List.extract_eq_take_drop,List.drop_take]
theorem zbY {P:Program} {w:World} {γ:Gh} {ρ:Env} {a:Act} {x:Operand} {y:Opd} {d:Nat} {n:Int} (hr:Rep γ w (y.ev ρ) (a.eval x)) (h:bound d ρ (some y)=some n) :
  ∃ k,a.eval x=.int k n:=by
 unfold bound at h
 simp only at h
 cases hy:y.ev ρ<;>simp only[hy] at h hr<;>try (cases h;done)
 simp only[Al1] at h
 subst h
 generalize hu:a.eval x=v at hr
 cases hr
 exact⟨_,rfl⟩
def zbg:Option Operand→Option Opd→Bool
 | none,none=>true
 | some x,some y=>zU x y
 | _,_=>false
theorem Z7 {P:Program} {w:World} (k:IntKind) (n:Int) (y:Nat) (code:BoundsCode) (h0:0≤n) (h1:n≤y):(Instr.sliceBound (.int k n) y code).run P w=.ok n.toNat w:=by
 have hc:0≤n∧n≤(y:Int):=⟨h0,h1⟩
 simp[Instr.sliceBound,asIntOf,hc]
theorem zc3 {P:Program} {w:World} {γ:Gh} {ρ:Env} {a:Act} (isSlice:Bool) (len cap:Nat) {lo hi:Option Operand} {lo' hi':Option Opd} (hlo:zbg lo lo'=true) (hhi:zbg hi hi'=true)
  (he:EnvRel γ w ρ a.tmps) {l h:Int} (hl:bound 0 ρ lo'=some l) (hh:bound len ρ hi'=some h) (h0:0≤l) (h1:l≤h) (h2:h≤len) (hc:len≤cap) :
  (Instr.sliceBounds isSlice len cap (lo.map a.eval) (hi.map a.eval) none).run P w=.ok (l.toNat,h.toNat,cap) w:=by
 have e1:∀(v:Value),hi.map a.eval=some v→∃ k,v=.int k h:=by
  intro v hv
  cases hi with
  | none=>cases hv
  | some x =>
   cases hi' with
   | none=>cases hhi
   | some y =>
    simp only[zaF,Al1] at hv
    obtain⟨k,hk⟩:=zbY (P:=P) (zx hhi he) hh
    exact⟨k,hv▸hk⟩
 have e2:∀(v:Value),lo.map a.eval=some v→∃ k,v=.int k l:=by
  intro v hv
  cases lo with
  | none=>cases hv
  | some x =>
   cases lo' with
   | none=>cases hlo
   | some y =>
    simp only[zaF,Al1] at hv
    obtain⟨k,hk⟩:=zbY (P:=P) (zx hlo he) hl
    exact⟨k,hv▸hk⟩
 have e3:hi.map a.eval=none→h=len:=by
  intro hv
  cases hi with
  | some x=>cases hv
  | none =>
   cases hi' with
   | some y=>cases hhi
   | none=>simpa[bound] using hh.symm
 have e4:lo.map a.eval=none→l=0:=by
  intro hv
  cases lo with
  | some x=>cases hv
  | none =>
   cases lo' with
   | some y=>cases hlo
   | none=>simpa[bound] using hl.symm
 have b1:∀ k code,(Instr.sliceBound (.int k h) cap code).run P w=.ok h.toNat w:=fun k code=>Z7 k h cap code (by omega) (by omega)
 have b2:∀ k code,(Instr.sliceBound (.int k l) h.toNat code).run P w=.ok l.toNat w:=fun k code=>Z7 k l _ code h0 (by omega)
 unfold Instr.sliceBounds
 cases hh':hi.map a.eval with
 | none =>
  have:=e3 hh'
  subst this
  cases hl':lo.map a.eval with
  | none=>have:=e4 hl';subst this;simp
  | some v=>obtain⟨k,rfl⟩:=e2 v hl';simp at b2;simp[b2]
 | some u =>
  obtain⟨k',rfl⟩:=e1 u hh'
  cases hl':lo.map a.eval with
  | none=>have:=e4 hl';subst this;simp[b1]
  | some v=>obtain⟨k,rfl⟩:=e2 v hl';simp[b1,b2]
theorem zt2 {P:Program} {o:Oper} {t:TypeId} {x:Operand} {lo hi:Option Operand} {x':Opd} {lo' hi':Option Opd} (ho:o.op=.slice t x lo hi none) (h:zU x x'=true) (hlo:zbg lo lo'=true) (hhi:zbg hi hi'=true)
  (ht:P.underlying t=some .string):Zk P o (.sls x' lo' hi'):=by
 intro γ w ρ a c he hc
 have r1:=zx h he
 simp only[pev] at hc
 cases hx:x'.ev ρ<;>simp only[hx] at hc r1<;>try (cases hc;done)
 rename_i s
 cases hl:bound 0 ρ lo' with
 | none=>simp only[hl] at hc;cases hc
 | some l =>
  cases hh:bound s.length ρ hi' with
  | none=>simp only[hl,hh] at hc;cases hc
  | some hv =>
   simp only[hl,hh] at hc
   split at hc
   ·rename_i hk
    obtain⟨h0,h1,h2⟩:=hk
    simp only[Al1] at hc
    subst hc
    generalize hv:a.eval x=v at r1
    cases r1
    refine zT (v:=.string _) ?_ (.str _)
    have hb:=zc3 (P:=P) false s.length s.length hlo hhi he hl hh h0 h1 h2 (Al4 _)
    simp only[execOp,ho,hv,Instr.sliceAt,Sem.run_bind,run_underlying ht,Result.andThen_ok,Instr.slice,Option.map_none,Option.isSome_none,Al7,if_false,Sem.run_pure,zei,hb]
    rw[zjD _ _ _ (by omega)]
   ·cases hc
theorem zmu {P:Program} {w:World} {o:Oper} {a:Act} {ts:Array TypeId} {x:Operand} (ho:o.op=.call { callee:=.builtin .len,args:=#[x],argTypes:=ts }) {v:Value} {n:Int} (hv:a.eval x=v)
  (hr:(Builtin.len_ ts o.type #[v]).run P w=.ok (.int .i64 n) w):(execOp a.eval o).run P w=.ok (.value (.int .i64 n)) w:=by
 simp[execOp,ho,resolve,invoke,builtin,hv,hr]
theorem zq2 {P:Program} {o:Oper} {t:TypeId} {ts:Array TypeId} {x:Operand} {x':Opd} (ho:o.op=.call { callee:=.builtin .len,args:=#[x],argTypes:=ts }) (hts:ts[0]?=some t) (h:zU x x'=true)
  (ht:P.underlying t=some .string):Zk P o (.lens x'):=by
 intro γ w ρ a c he hc
 have r1:=zx h he
 simp only[pev] at hc
 cases hx:x'.ev ρ<;>simp only[hx] at hc r1<;>try (cases hc;done)
 simp only[Al1] at hc
 subst hc
 generalize hv:a.eval x=v at r1
 cases r1
 exact zT (zmu ho hv (by simp[Builtin.len_,hts,run_underlying ht,goInt,zei])) (.int _ _)
theorem zs4 {P:Program} {o:Oper} {t e:TypeId} {ts:Array TypeId} {x:Operand} {x':Opd} (ho:o.op=.call { callee:=.builtin .len,args:=#[x],argTypes:=ts }) (hts:ts[0]?=some t) (h:zU x x'=true)
  (ht:P.underlying t=some (.slice e)):Zk P o (.len x'):=by
 intro γ w ρ a c he hc
 have r1:=zx h he
 simp only[pev] at hc
 cases hx:x'.ev ρ<;>simp only[hx] at hc r1<;>try (cases hc;done)
 all_goals simp only[Al1] at hc
 all_goals subst hc
 all_goals generalize hv:a.eval x=v at r1
 all_goals cases r1
 all_goals exact zT (zmu ho hv (by simp[Builtin.len_,hts,run_underlying ht,goInt])) (.int _ _)
theorem Z9 (F:Nat→Prop) (γ:Gh) (w:World) (k:BK) (c:Array Value) (t:TypeId) :
  Ext F γ w (fun b=>if b=w.heap.size then k else γ b) (w.alloc (.cells c t)):=by
 have hne:∀ b,b<w.heap.size→b≠w.heap.size:=fun b h=>Nat.ne_of_lt h
 refine⟨⟨by simp,fun b o v hc hp=>?_,fun b arr E fr hb=>?_⟩,rfl,rfl,fun a _=>RowKit.frozen?_alloc_cells w c t a,fun b hb _=>⟨by simp[hne b hb],heap_alloc_old w _ hb⟩⟩
 ·have hlt:=World.block_lt_of_cell? w _ hc
  refine⟨by simpa[zaN,hne b hlt] using hp,?_⟩
  rw[World.cell?_alloc_lt _ _ _ hlt];exact hc
 ·have hlt:=(zcC.1 hb).1
  exact⟨arr,by rw[heap_alloc_old w _ hlt];exact hb,rfl⟩
theorem Yr (F:Nat→Prop) (γ:Gh) (w:World):Ext F γ w γ w.drew :=
 ⟨⟨Al4 _,fun b o v hc hp=>⟨hp,hc⟩,fun b arr E fr hb=>⟨arr,hb,rfl⟩⟩,rfl,rfl,fun _ _=>rfl,fun b hb _=>⟨rfl,rfl⟩⟩
theorem zrc {P:Program} {o:Oper} {t:TypeId} {x:Operand} {x':Opd} (ho:o.op=.box t x) (h:zU x x'=true):Zk P o (.boxv x'):=by
 intro γ w ρ a c he hc
 have r1:=zx h he
 simp only[pev] at hc
 split at hc
 ·rename_i hb
  simp only[Al1] at hc
  subst hc
  obtain⟨hl,h1,hr⟩:=r1.cells hb
  have hext:=Z9 (fun _=>False) γ w .imm (a.eval x).cells t
  refine⟨.pointer (some ⟨w.heap.size,0,none⟩),_,_,?_,hext,?_⟩
  ·simp[execOp,ho,Instr.box,newVar,newRow]
  ·refine .view _ w.heap.size 0 (fun j=>(a.eval x).cells.toList.getD j undef) (fun j hj=>?_) (fun j d hd=>?_)
   ·rw[hl] at hj
    have hg:(a.eval x).cells.toList[j]?=some (a.eval x).cells.toList[j]:=Al9 hj
    have hg':(a.eval x).cells.toList.getD j undef=(a.eval x).cells.toList[j]:=by simp[List.getD,hg]
    rw[hg']
    refine⟨?_,by simp[zaN],h1 j _ hg⟩
    rw[World.cell?_alloc_new]
    simp
   ·have hj:j<(a.eval x).cells.toList.length:=by rw[← hl];exact(zaA.1 hd).1
    have hg:(a.eval x).cells.toList[j]?=some (a.eval x).cells.toList[j]:=Al9 hj
    have hg':(a.eval x).cells.toList.getD j undef=(a.eval x).cells.toList[j]:=by simp[List.getD,hg]
    rw[hg']
    exact(hr j d _ hd hg).mono hext.mono
 ·cases hc
theorem zo3 {P:Program} {w:World} {γ:Gh} {ρ:Env} {a:Act} {mx:Bool} {k:IntKind} (he:EnvRel γ w ρ a.tmps):∀(ys:List Operand) (ys':List Opd) (n m:Int),Y2 ys ys'=true→zM mx k ρ n ys'=some m →
  ((ys.map a.eval).foldlM (if mx then Builtin.max2 else Builtin.min2) (.int k n)).run P w=.ok (.int k m) w
 | [],[],n,m,_,hm=>by simp only[zM,Al1] at hm;subst hm;rfl
 | [],_::_,_,_,h,_=>by simp[Y2] at h
 | _::_,[],_,_,h,_=>by simp[Y2] at h
 | y::ys,y'::ys',n,m,h,hm=>by
  simp only[Y2,Al0] at h
  have r:=zx h.1 he
  simp only[zM] at hm
  cases hy:y'.ev ρ<;>simp only[hy] at hm r<;>try (cases hm;done)
  rename_i k' b
  split at hm
  ·rename_i hk
   subst hk
   generalize hu:a.eval y=v at r
   cases r
   have ih:=zo3 (P:=P) he ys ys' _ m h.2 hm
   simp only[List.map_cons,List.foldlM_cons,hu]
   cases mx
   ·simp only[Al7,if_false] at ih ⊢
    simp only[Sem.run_bind,Builtin.min2,Sem.run_pure,Result.andThen_ok]
    simpa[mm2] using ih
   ·simp only[if_true] at ih ⊢
    simp only[Sem.run_bind,Builtin.max2,Sem.run_pure,Result.andThen_ok]
    simpa[mm2] using ih
  ·cases hm
theorem zvd {P:Program} {o:Oper} {ts:Array TypeId} {mx:Bool} {x:Operand} {ys:List Operand} {x':Opd} {ys':List Opd} {args:Array Operand}
  (ho:o.op=.call { callee:=.builtin (if mx then .max else .min),args:=args,argTypes:=ts }) (ha:args.toList=x::ys) (h:zU x x'=true) (h2:Y2 ys ys'=true):Zk P o (.mm mx x' ys'):=by
 intro γ w ρ a c he hc
 have r1:=zx h he
 simp only[pev] at hc
 cases hx:x'.ev ρ<;>simp only[hx] at hc r1<;>try (cases hc;done)
 rename_i k n
 generalize hv:a.eval x=v at r1
 cases r1
 cases hm:zM mx k ρ n ys' with
 | none=>simp[hm] at hc
 | some m =>
  simp only[hm,zaF,Al1] at hc
  subst hc
  refine zT (v:=.int k m) ?_ (.int _ _)
  have hr:=zo3 (P:=P) (mx:=mx) he ys ys' n m h2 hm
  have hargs:args.toList.map a.eval=.int k n::ys.map a.eval:=by rw[ha];simp[hv]
  cases mx
  ·simp only[Al7,if_false] at ho hr
   simp[execOp,ho,resolve,invoke,builtin,Builtin.min_,hargs,hr]
  ·simp only[if_true] at ho hr
   simp[execOp,ho,resolve,invoke,builtin,Builtin.max_,hargs,hr]
def K1.isTy (P:Program) (k:K1) (t:TypeId):Bool :=
 match k,P.underlying t with
 | .b,some .bool=>true
 | .s,some .string=>true
 | .i k,some (.int k')=>decide (k=k')
 | _,_=>false
def zbi (P:Program):List Field→Nat→List K1→Bool
 | [],_,[]=>true
 | f :: fs, off, k :: ks => f.name != "_" && f.offset == off && k.isTy P f.type && zbi P fs (off + 1) ks
 | _,_,_=>false
theorem ZT {P:Program} {k:K1} {t:TypeId} (h:k.isTy P t=true) (w:World):(isAgg t).run P w=.ok false w:=by
 cases hd:P.underlying t with
 | none=>cases k<;>simp[K1.isTy,hd] at h
 | some d =>
  rw[zhD hd,hd]
  cases k<;>cases d<;>simp_all [K1.isTy,zeV]
theorem zeb {P:Program} {w:World} {γ:Gh} {k:K1} {t:TypeId} {c d:AV} {u v:Value} (hk:k.isTy P t=true) (hc:k.fits c=true) (hd:k.fits d=true) (rc:Rep γ w c u) (rd:Rep γ w d v) (n:Nat) :
  (Op.equalIn (n+1) t u v).run P w=.ok (c.keq1 d) w:=by
 cases k with
 | b =>
  have ht:P.underlying t=some .bool:=by
   cases hu:P.underlying t with
   | none=>simp[K1.isTy,hu] at hk
   | some x=>cases x<;>simp_all [K1.isTy]
  cases c<;>simp[K1.fits] at hc
  cases d<;>simp[K1.fits] at hd
  cases rc;cases rd
  rw[run_equalIn_bool' w n t _ _ ht];rfl
 | s =>
  have ht:P.underlying t=some .string:=by
   cases hu:P.underlying t with
   | none=>simp[K1.isTy,hu] at hk
   | some x=>cases x<;>simp_all [K1.isTy]
  cases c<;>simp[K1.fits] at hc
  cases d<;>simp[K1.fits] at hd
  cases rc;cases rd
  rw[run_equalIn_string w n t _ _ ht,zdm,zdm];rfl
 | i k =>
  have ht:P.underlying t=some (.int k):=by
   cases hu:P.underlying t with
   | none=>simp[K1.isTy,hu] at hk
   | some x=>cases x<;>simp_all [K1.isTy]
  cases c<;>simp[K1.fits] at hc
  cases d<;>simp[K1.fits] at hd
  subst hc;subst hd
  cases rc;cases rd
  rw[run_equalIn_int w n t _ _ _ _ ht];rfl
theorem zcn {P:Program} {w:World} {γ:Gh} (n:Nat) (xs ys:Array Value):∀(fs:List Field) (off:Nat) (ks:List K1) (as bs:List AV),zbi P fs off ks=true→zZ ks as=true→zZ ks bs=true →
  (∀ i c,as[i]?=some c→∃ v,xs[off+i]?=some v∧Rep γ w c v)→(∀ i c,bs[i]?=some c→∃ v,ys[off+i]?=some v∧Rep γ w c v) →
  (Op.eqFields (n+1) xs ys fs).run P w=.ok (zcE as bs) w
 | [],_,[],[],[],_,_,_,_,_=>rfl
 | [],_,[],_::_,_,_,h,_,_,_=>by simp[zZ] at h
 | [],_,[],[],_::_,_,_,h,_,_=>by simp[zZ] at h
 | [],_,_::_,_,_,h,_,_,_,_=>by simp[zbi] at h
 | _::_,_,[],_,_,h,_,_,_,_=>by simp[zbi] at h
 | _::_,_,_::_,[],_,_,h,_,_,_=>by simp[zZ] at h
 | _::_,_,_::_,_::_,[],_,_,h,_,_=>by simp[zZ] at h
 | f::fs,off,k::ks,a::as,b::bs,hf,ha,hb,hx,hy=>by
  simp only[zbi,Al0,bne_iff_ne,ne_eq,beq_iff_eq] at hf
  obtain⟨⟨⟨hname,hoff⟩,hty⟩,hrest⟩:=hf
  simp only[zZ,Al0] at ha hb
  obtain⟨u,hu,ru⟩:=hx 0 a rfl
  obtain⟨v,hv,rv⟩:=hy 0 b rfl
  simp only[Nat.add_zero] at hu hv
  have ih:=zcn n xs ys fs (off+1) ks as bs hrest ha.2 hb.2
   (fun i c hc=>by have:=hx (i+1) c (by simpa using hc);rwa [show off+(i+1)=off+1+i by omega] at this)
   (fun i c hc=>by have:=hy (i+1) c (by simpa using hc);rwa [show off+(i+1)=off+1+i by omega] at this)
  have p1:(part f.type xs f.offset).run P w=.ok u w:=by simp[part,ZT hty,hoff,hu]
  have p2:(part f.type ys f.offset).run P w=.ok v w:=by simp[part,ZT hty,hoff,hv]
  have e1:=zeb hty ha.1 hb.1 ru rv n
  simp only[Op.eqFields,hname,not_false_eq_true,ne_eq,if_true,Sem.run_bind,p1,p2,e1,Result.andThen_ok]
  cases hab:a.keq1 b
  ·simp[zcE,hab]
  ·simp[zcE,hab,ih]
theorem zsK {P:Program} {o:Oper} {op:BinOp} {neg:Bool} {t u:TypeId} {x y:Operand} {x' y':Opd} {ks:List K1} {fs:Array Field} (ho:o.op=.binOp op t x y u) (h:zU x x'=true) (h2:zU y y'=true)
  (hop:op=if neg then .neq else .eql) (ht:P.underlying t=some (.struct fs)) (hks:zbi P fs.toList 0 ks=true) (hp:P.stoodInHeld t=false) (hg:P.eqGuardType P.depth t=false):Zk P o (.eqa neg ks x' y'):=by
 intro γ w ρ a c he hc
 have r1:=zx h he
 have r2:=zx h2 he
 simp only[pev] at hc
 cases hx:x'.ev ρ<;>simp only[hx] at hc r1<;>try (cases hc;done)
 cases hy:y'.ev ρ<;>simp only[hy] at hc r2<;>try (cases hc;done)
 rename_i as bs
 split at hc
 ·rename_i hk
  obtain⟨hk1,hk2⟩:=hk
  simp only[Al1] at hc
  subst hc
  generalize hv:a.eval x=v at r1
  generalize hu:a.eval y=v' at r2
  cases r1 with
  | agg _ vs hl h1 hr =>
   cases r2 with
   | agg _ us hl' h1' hr' =>
    have hfo:P.fieldsOf t=fs:=by simp[Program.fieldsOf,ht]
    have hrun:(Op.equalIn 10000 t (.agg vs.toArray) (.agg us.toArray)).run P w=.ok (zcE as bs) w:=by
     rw[run_equalIn_struct w 9999 t _ _ (by rw[hfo];exact ht) hp,hfo]
     refine zcn (γ:=γ) 9998 _ _ fs.toList 0 ks as bs hks hk1 hk2 (fun i c hc=>?_) (fun i c hc=>?_)
     ·have hi:i<vs.length:=by rw[← hl];exact(zaA.1 hc).1
      exact⟨vs[i],by simp[hi],hr i c _ hc (Al9 hi)⟩
     ·have hi:i<us.length:=by rw[← hl'];exact(zaA.1 hc).1
      exact⟨us[i],by simp[hi],hr' i c _ hc (Al9 hi)⟩
    refine zT (v:=.bool (if neg=true then !zcE as bs else zcE as bs)) ?_ (.bool _)
    cases neg<;>simp only[Al7,if_false,if_true] at hop ⊢<;>subst hop <;>
     simp only[execOp,ho,hv,hu,Sem.run_bind,run_eqGuard_agg w _ t x y _ _ hg,Result.andThen_ok,run_eql_struct,run_neq_struct,hrun,Sem.run_pure]
 ·cases hc
theorem zef (vs:Array Value):∀(off:Nat) (cs:List Value),off+vs.size≤cs.length →
  (vs.zipIdx.foldl (fun cs (c,j)=>cs.setIfInBounds (off+j) c) cs.toArray)=(cs.take off++vs.toList++cs.drop (off+vs.size)).toArray:=by
 obtain⟨l⟩:=vs
 intro off cs h
 simp only[List.size_toArray] at h
 have key:∀(l:List Value) (k off:Nat) (cs:List Value),off+k+l.length≤cs.length →
   ((l.zipIdx k).foldl (fun(cs:Array Value) (x:Value×Nat)=>cs.setIfInBounds (off+x.2) x.1) cs.toArray)=(cs.take (off+k)++l++cs.drop (off+k+l.length)).toArray:=by
  intro l
  induction l with
  | nil=>intro k off cs h;simp
  | cons x l ih =>
   intro k off cs h
   simp only[Al2] at h
   simp only[List.zipIdx_cons,List.foldl_cons,List.setIfInBounds_toArray]
   rw[ih (k+1) off _ (by simp;omega)]
   congr 1
   have h1:(cs.set (off+k) x).take (off+(k+1))=cs.take (off+k)++[x]:=by
    rw[show off+(k+1)=off+k+1 by omega,List.take_succ_eq_append_getElem (by simp;omega)]
    rw[List.take_set_of_le (by omega)]
    simp
   have h2:(cs.set (off+k) x).drop (off+(k+1)+l.length)=cs.drop (off+k+(l.length+1)):=by
    rw[List.drop_set_of_lt (by omega)]
    congr 1
    omega
   rw[h1,h2]
   simp
 have:=key l 0 off cs (by omega)
 have hz:(l.toArray.zipIdx)=(l.zipIdx 0).toArray:=by simp
 rw[hz,List.foldl_toArray']
 ·simpa using this
 ·simp
def zy (γ:Gh) (w:World) (cs:List AV) (vs:List Value):Prop :=
 cs.length=vs.length∧(∀(i:Nat) (v:Value),vs[i]?=some v→v.oneCell'=true)∧∀(i:Nat) (c:AV) (v:Value),cs[i]?=some c→vs[i]?=some v→Rep γ w c v
theorem zy.append {γ : Gh} {w : World} {cs ds : List AV} {vs us : List Value} (h : zy γ w cs vs) (h' : zy γ w ds us) : zy γ w (cs ++ ds) (vs ++ us) :=
  ⟨by simp [h.1, h'.1], fun i u hu => by
    rcases Nat.lt_or_ge i vs.length with hi | hi
    · rw [zcH hi] at hu; exact h.2.1 i u hu
    · rw [zfW hi] at hu; exact h'.2.1 _ u hu,
   fun i d u hd hu => by
    rcases Nat.lt_or_ge i cs.length with hi | hi
    · rw [zcH hi] at hd
      rw [zcH (by rw [← h.1]; exact hi)] at hu
      exact h.2.2 i d u hd hu
    · rw [zfW hi] at hd
      rw [zfW (by rw [← h.1]; exact hi), ← h.1] at hu
      exact h'.2.2 _ d u hd hu⟩
theorem zy.take {γ : Gh} {w : World} {cs : List AV} {vs : List Value} (h : zy γ w cs vs) (n : Nat) : zy γ w (cs.take n) (vs.take n) :=
  ⟨by simp [h.1], fun i u hu => (by
    rw [znK] at hu
    split at hu
    · exact h.2.1 i u hu
    · cases hu),
   fun i d u hd hu => by
    rw [znK] at hd hu
    split at hd
    · rename_i hi; rw [if_pos hi] at hu; exact h.2.2 i d u hd hu
    · cases hd⟩
theorem zy.drop {γ : Gh} {w : World} {cs : List AV} {vs : List Value} (h : zy γ w cs vs) (n : Nat) : zy γ w (cs.drop n) (vs.drop n) :=
  ⟨by simp [h.1], fun i u hu => by rw [List.getElem?_drop] at hu; exact h.2.1 _ u hu,
   fun i d u hd hu => by rw [List.getElem?_drop] at hd hu; exact h.2.2 _ d u hd hu⟩
theorem zy.splice {γ:Gh} {w:World} {cs ds:List AV} {vs us:List Value} (h:zy γ w cs vs) (h':zy γ w ds us) (off:Nat) :
  zy γ w (splice cs off ds) (vs.take off++us++vs.drop (off+us.length)):=by
 unfold Ab.splice
 rw[h'.1]
 exact((h.take off).append h').append (h.drop _)
def za7 (place:Nat→Option (Nat×Nat)):List (Nat×Operand)→List (Nat×Nat×Opd)→Bool
 | [],[]=>true
 | (i,x)::r,(off,n,y)::s=>decide (place i=some (off,n))&&zU x y&&za7 place r s
 | _,_=>false
theorem zks {γ:Gh} {w:World} {ρ:Env} {a:Act} (place:Nat→Option (Nat×Nat)) (he:EnvRel γ w ρ a.tmps):∀(ps:List (Nat×Operand)) (qs:List (Nat×Nat×Opd)) (cs:List AV) (vs:List Value) (ds:List AV),
  za7 place ps qs=true→zL ρ cs qs=some ds→zy γ w cs vs →
  ∃ us,Instr.fill place vs.toArray (ps.map fun(i,x)=>(i,a.eval x))=some us.toArray∧zy γ w ds us
 | [],[],cs,vs,ds,_,hd,hr=>by simp only[zL,Al1] at hd;subst hd;exact⟨vs,rfl,hr⟩
 | [],_::_,_,_,_,h,_,_=>by simp[za7] at h
 | _::_,[],_,_,_,h,_,_=>by simp[za7] at h
 | (i,x)::ps,(off,n,y)::qs,cs,vs,ds,h,hd,hr=>by
  simp only[za7,Al0,yX] at h
  obtain⟨⟨hp,hxy⟩,hrest⟩:=h
  simp only[zL] at hd
  split at hd
  ·rename_i hc
   obtain⟨hlen,hle,hbox⟩:=hc
   obtain⟨hl,h1,h2⟩:=(zx hxy he).cells hbox
   have hsz:(a.eval x).cells.size=n:=by rw[← hlen,hl];simp
   obtain⟨us,hu,hru⟩:=zks place he ps qs _ _ ds hrest hd (hr.splice ⟨hl,h1,h2⟩ off)
   refine⟨us,?_,hru⟩
   simp only[List.map_cons,Instr.fill,hp]
   have hcond:¬ ((decide ((a.eval x).cells.size≠n)||decide (off+(a.eval x).cells.size > vs.toArray.size))=true):=by
    simp[hsz,← hr.1];omega
   rw[if_neg hcond,zef _ off vs (by rw[hsz,← hr.1];omega)]
   simpa using hu
  ·cases hd
theorem yZ (sz:Nat):∀(xs:List (List AV)),(∀ x∈xs,x.length=sz)→xs.flatten.length=xs.length*sz
 | [],_=>by simp
 | x::xs,h=>by
  have ih:=yZ sz xs fun y hy=>h y (Z0 _ hy)
  have hx:=h x (ZI ..)
  simp only[List.flatten_cons,Al5,ih,hx,Al2,Nat.add_mul]
  omega
theorem zc5 (sz:Nat):∀(xs:List (List AV)) (i j:Nat),(∀ x∈xs,x.length=sz)→j<sz→xs.flatten[i*sz+j]?=(xs[i]?).bind (·[j]?)
 | [],i,j,_,_=>by simp
 | x::xs,0,j,h,hj=>by
  have hx:=h x (ZI ..)
  simp only[Nat.zero_mul,Nat.zero_add,List.flatten_cons,List.getElem?_cons_zero,Option.bind_some]
  rw[zcH (by omega)]
 | x::xs,i+1,j,h,hj=>by
  have hx:=h x (ZI ..)
  have ih:=zc5 sz xs i j (fun y hy=>h y (Z0 _ hy)) hj
  simp only[List.flatten_cons,List.getElem?_cons_succ]
  rw[zfW (by rw[hx,Nat.add_mul];omega),hx,← ih]
  congr 1
  rw[Nat.add_mul]
  omega
theorem Rep.sl_flat {γ:Gh} {w:World} {o:Own} {sz:Nat} {xs:List (List AV)} {us:List Value} {b off cap:Nat} (hu:∀ x∈xs,x.length=sz) (hl:xs.flatten.length=us.length)
  (hrow:∀(k:Nat) (u:Value),us[k]?=some u→CellIs γ w b (off+k) u) (hrel:∀(k:Nat) (c:AV) (u:Value),xs.flatten[k]?=some c→us[k]?=some u→Rep γ w c u)
  (hc:xs.length≤cap) (hm:cap≤maxLen) (ho:zcU w o ⟨b,off,none⟩ xs.length cap sz):Rep γ w (.sl o sz xs) (.slice (some ⟨b,off,none⟩) xs.length cap):=by
 have hlen:=yZ sz xs hu
 have hin:∀ i x,xs[i]?=some x→∀ j,j<sz→∃ u,us[i*sz+j]?=some u:=by
  intro i x hx j hj
  have hi:i<xs.length:=(zaA.1 hx).1
  have h1:i*sz+j<us.length:=by
   rw[← hl,hlen]
   have:(i+1)*sz≤xs.length*sz:=Nat.mul_le_mul_right _ hi
   rw[Nat.add_mul] at this
   omega
  exact⟨us[i*sz+j],Al9 h1⟩
 refine .sl o sz xs b off cap (fun i j=>us.getD (i*sz+j) undef) hc hm hu (fun i x hx j hj=>?_) (fun i x hx j c hj=>?_) ho
 ·obtain⟨u,hu'⟩:=hin i x hx j hj
  have:=hrow _ u hu'
  simpa[List.getD,hu'] using this
 ·have hj':j<sz:=by
   have:=(zaA.1 hj).1
   rw[hu x (List.mem_of_getElem? hx)] at this
   exact this
  obtain⟨u,hu'⟩:=hin i x hx j hj'
  have:=hrel _ c u (by rw[zc5 sz xs i j hu hj',hx];exact hj) hu'
  simpa[List.getD,hu'] using this
theorem Rep.flat {γ : Gh} {w : World} {o : Own} {sz : Nat} {xs : List (List AV)} {b off n cap : Nat} (h : Rep γ w (.sl o sz xs) (.slice (some ⟨b, off, none⟩) n cap)) :
    n = xs.length ∧ (∀ x ∈ xs, x.length = sz) ∧ xs.length ≤ cap ∧ cap ≤ maxLen ∧ zcU w o ⟨b, off, none⟩ xs.length cap sz ∧
    ∃ us : List Value, xs.flatten.length = us.length ∧ (∀ (k : Nat) (u : Value), us[k]? = some u → CellIs γ w b (off + k) u) ∧
      ∀ (k : Nat) (c : AV) (u : Value), xs.flatten[k]? = some c → us[k]? = some u → Rep γ w c u := by
  cases h with
  | sl0 _ _ _ ho => exact ⟨rfl, by simp, Al4 _, Nat.zero_le _, by rcases ho with rfl | rfl <;> simp [zcU], [], rfl, by simp, by simp⟩
  | sl _ _ _ _ _ _ cv hc hm hu hcell hr ho =>
    have hlen := yZ sz xs hu
    refine ⟨rfl, hu, hc, hm, ho, (List.range (xs.length * sz)).map (fun k => cv (k / sz) (k % sz)), by simp [hlen], fun k u hk => ?_, fun k c u hck hk => ?_⟩
    · simp only [Y5, zc4] at hk
      obtain ⟨k', hk', rfl⟩ := hk
      obtain ⟨hlt, rfl⟩ : k < xs.length * sz ∧ k = k' := by
        obtain ⟨h1, h2⟩ := zaA.1 hk'
        simp at h1 h2
        exact ⟨h1, h2⟩
      have hsz : 0 < sz := by rcases Nat.eq_zero_or_pos sz with h | h; · simp [h] at hlt
                              · exact h
      have hdiv : k / sz < xs.length := (Nat.div_lt_iff_lt_mul hsz).2 hlt
      have := hcell (k / sz) _ (Al9 hdiv) (k % sz) (Nat.mod_lt _ hsz)
      rwa [Nat.mul_comm, Nat.div_add_mod] at this
    · simp only [Y5, zc4] at hk
      obtain ⟨k', hk', rfl⟩ := hk
      obtain ⟨hlt, rfl⟩ : k < xs.length * sz ∧ k = k' := by
        obtain ⟨h1, h2⟩ := zaA.1 hk'
        simp at h1 h2
        exact ⟨h1, h2⟩
      have hsz : 0 < sz := by rcases Nat.eq_zero_or_pos sz with h | h; · simp [h] at hlt
                              · exact h
      have hdiv : k / sz < xs.length := (Nat.div_lt_iff_lt_mul hsz).2 hlt
      have hg := zc5 sz xs (k / sz) (k % sz) hu (Nat.mod_lt _ hsz)
      rw [Nat.mul_comm, Nat.div_add_mod, hck, Al9 hdiv] at hg
      exact hr (k / sz) _ (Al9 hdiv) (k % sz) c hg.symm
def Ya:List (Nat×Operand)→List (Nat×Opd)→Bool
 | [],[]=>true
 | (i,x)::r,(k,y)::s=>i==k&&zU x y&&Ya r s
 | _,_=>false
theorem zcR (sz:Nat) (c:List AV) (hc:c.length=sz):∀(xs:List (List AV)) (i:Nat),(∀ x∈xs,x.length=sz)→i<xs.length→splice xs.flatten (i*sz) c=(xs.set i c).flatten
 | [],_,_,h=>by simp at h
 | x::xs,0,h,_=>by
  have hx:=h x (ZI ..)
  simp[splice,hc,← hx]
 | x::xs,i+1,h,hi=>by
  have hx:=h x (ZI ..)
  have ih:=zcR sz c hc xs i (fun y hy=>h y (Z0 _ hy)) (by simpa using hi)
  simp only[List.flatten_cons,List.set_cons_succ]
  rw[← ih]
  unfold splice
  have e1:(i+1)*sz=x.length+i*sz:=by rw[Nat.add_mul,hx];omega
  rw[e1,List.take_length_add_append,show x.length+i*sz+c.length=x.length+(i*sz+c.length) by omega,List.drop_length_add_append]
  simp
theorem zdS {γ:Gh} {w:World} {cs:List AV} {vs:List Value} (h:zy γ w cs vs):zy γ w (cs.map AV.strip1) vs :=
 ⟨by simpa using h.1,h.2.1,fun i c v hc hv=>by
  rw[Y5] at hc
  cases hx:cs[i]? with
  | none=>simp[hx] at hc
  | some x=>simp only[hx,zaF,Al1] at hc;subst hc;exact(h.2.2 i x v hx hv).strip1⟩
theorem ze1 {S:AV→AV} (hS:∀ {γ:Gh} {w:World} {cs:List AV} {vs:List Value},zy γ w cs vs→zy γ w (cs.map S) vs) {γ:Gh} {w:World} {ρ:Env} {a:Act} {sz:Nat} (he:EnvRel γ w ρ a.tmps):∀(ps:List (Nat×Operand)) (qs:List (Nat×Opd)) (xs:List (List AV)) (vs:List Value) (ys:List (List AV)),
  Ya ps qs=true→zI S ρ sz xs qs=some ys→(∀ x∈xs,x.length=sz)→zy γ w xs.flatten vs →
  ∃ us:List Value,Instr.fill (fun i=>some (i*sz,sz)) vs.toArray (ps.map fun(i,x)=>(i,a.eval x))=some us.toArray∧zy γ w ys.flatten us∧(∀ y∈ys,y.length=sz)∧ys.length=xs.length
 | [],[],xs,vs,ys,_,hd,hu,hr=>by simp only[zI,Al1] at hd;subst hd;exact⟨vs,rfl,hr,hu,rfl⟩
 | [],_::_,_,_,_,h,_,_,_=>by simp[Ya] at h
 | _::_,[],_,_,_,h,_,_,_=>by simp[Ya] at h
 | (i,x)::ps,(k,y)::qs,xs,vs,ys,h,hd,hu,hr=>by
  simp only[Ya,Al0,beq_iff_eq] at h
  obtain⟨⟨rfl,hxy⟩,hrest⟩:=h
  simp only[zI] at hd
  split at hd
  ·rename_i hc
   obtain⟨hlen,hlt,hbox⟩:=hc
   have hcells:zy γ w ((y.ev ρ).cells.map S) (a.eval x).cells.toList:=hS ((zx hxy he).cells hbox)
   have hlen':((y.ev ρ).cells.map S).length=sz:=by simpa using hlen
   have hsz:(a.eval x).cells.size=sz:=by rw[← hlen',hcells.1];simp
   have hfl:=yZ sz xs hu
   have hfit:i*sz+sz≤vs.length:=by
    rw[← hr.1,hfl,← Nat.succ_mul]
    exact Nat.mul_le_mul_right _ hlt
   have hspl:=hr.splice hcells (i*sz)
   rw[zcR sz _ hlen' xs i hu hlt] at hspl
   obtain⟨us,hus,hru,huy,hly⟩:=ze1 hS he ps qs _ _ ys hrest hd (fun z hz=>by
    rcases List.mem_or_eq_of_mem_set hz with hz|hz
    ·exact hu z hz
    ·rw[hz];exact hlen') hspl
   refine⟨us,?_,hru,huy,by rw[hly];simp⟩
   simp only[List.map_cons,Instr.fill]
   have hcond:¬ ((decide ((a.eval x).cells.size≠sz)||decide (i*sz+(a.eval x).cells.size > vs.toArray.size))=true):=by
    simp[hsz];omega
   rw[if_neg hcond,zef _ (i*sz) vs (by rw[hsz];exact hfit)]
   simpa using hus
  ·cases hd
theorem zbv (zero:List AV) (n:Nat):∀(k:Nat),k<(List.replicate n zero).flatten.length→(List.replicate n zero).flatten[k]?=zero[k % zero.length]?:=by
 induction n with
 | zero=>simp
 | succ n ih =>
  intro k hk
  simp only[List.replicate_succ,List.flatten_cons,Al5] at hk ⊢
  rcases Nat.lt_or_ge k zero.length with h|h
  ·rw[zcH h,Nat.mod_eq_of_lt h]
  ·rw[zfW h,ih (k-zero.length) (by omega)]
   congr 1
   rw[Nat.mod_eq_sub_mod h]
theorem ztv {P:Program} {o:Oper} {t e:TypeId} {n sz:Nat} {parts:Array (Nat×Operand)} {qs:List (Nat×Opd)} {zero:List AV} {ei:TypeInfo} {z:Value} (ho:o.op=.buildSlice t n parts)
  (ht:P.underlying t=some (.slice e)) (hi:P.info? e=some ei) (hz:ei.zero=some z) (hsz:ei.size=sz) (hpos:0<sz) (hsmall:n*sz≤2 ^ 24) (hzero:zbc z.cells.toList zero=true)
  (hparts:Ya parts.toList qs=true):Zk P o (.bls sz n zero qs):=by
 intro γ w ρ a c he hc
 simp only[pev] at hc
 split at hc
 ·rename_i hzl
  cases hf:zI AV.strip1 ρ sz (List.replicate n zero) qs with
  | none=>simp[hf] at hc
  | some ys =>
   simp only[hf,zaF,Al1] at hc
   subst hc
   obtain⟨hz1,hz2,hz3⟩:=zbW hzero γ w
   have huni:∀ x∈List.replicate n zero,x.length=sz:=fun x hx=>by rw[(List.mem_replicate.1 hx).2];exact hzl
   have hfl:(List.replicate n zero).flatten.length=n*sz:=by rw[yZ sz _ huni];simp
   have hzs:z.cells.size=sz:=by have:=hz1;simp at this;omega
   have hstart:zy γ w (List.replicate n zero).flatten ((List.range (n*sz)).map (fun k=>z.cells.toList.getD (k % sz) undef)):=by
    refine⟨by simp[hfl],fun i v hv=>?_,fun i c v hc hv=>?_⟩
    ·simp only[Y5,zc4] at hv
     obtain⟨k,_,rfl⟩:=hv
     have hlt:k % sz<z.cells.toList.length:=by simp[hzs];exact Nat.mod_lt _ hpos
     exact hz2 (k % sz) _ (by rw[List.getD,Al9 hlt];rfl)
    ·simp only[Y5,zc4] at hv
     obtain⟨k,hk,rfl⟩:=hv
     obtain⟨h1,h2⟩:=zaA.1 hk
     simp at h1 h2
     subst h2
     rw[zbv zero n i (by rw[hfl];exact h1),hzl] at hc
     have hlt:i % sz<z.cells.toList.length:=by simp[hzs];exact Nat.mod_lt _ hpos
     exact hz3 (i % sz) c _ hc (by rw[List.getD,Al9 hlt];rfl)
   obtain⟨us,hus,hru,huy,hly⟩:=ze1 zdS he parts.toList qs _ _ ys hparts hf huni hstart
   have hlen:ys.length=n:=by rw[hly];simp
   have hext:=Z9 (fun _=>False) γ w .imm us.toArray e
   have hcells:∀ f:Nat→Value,((List.range (n*sz)).map f).toArray=(Array.range (n*sz)).map f:=fun f=>by apply Array.ext';simp
   refine⟨.slice (some ⟨w.heap.size,0,none⟩) n n,_,_,?_,hext,?_⟩
   ·have hstart':(Array.range (n*sz)).map (z.cells[· % z.cells.size]!)=((List.range (n*sz)).map (fun k=>z.cells.toList.getD (k % sz) undef)).toArray:=by
     rw[hcells]
     apply Array.map_congr_left
     intro k hk
     have hlt:k % sz<z.cells.size:=by rw[hzs];exact Nat.mod_lt _ hpos
     rw[hzs]
     simp[List.getD,hlt]
    have hmap:(parts.map fun(x:Nat×Operand)=>(x.1,a.eval x.2)).toList=parts.toList.map fun(i,x)=>(i,a.eval x):=by simp
    have hnot:¬ n*ei.size > 2 ^ 24:=by rw[hsz];omega
    simp only[execOp,ho,Instr.buildSlice,Sem.run_bind,run_underlying ht,Result.andThen_ok,sizeOf,typeInfo,run_program,hi,Sem.run_pure,hsz,zeroValue,hz]
    rw[hsz] at hnot
    rw[← hstart'] at hus
    by_cases hn:n*sz=0
    ·have h0:∀ f:Nat→Value,(Array.range 0).map f=#[]:=fun f=>by apply Array.ext';simp
     rw[hn,h0] at hus
     simp[hn,h0,hus,newRow]
    ·simp[hn,hnot,hus,newRow,zeroValue,typeInfo,hi,hz]
   ·rw[← hlen]
    refine Rep.sl_flat huy hru.1 (fun k u hk=>?_) (fun k c u hc hk=>(hru.2.2 k c u hc hk).mono hext.mono) (by omega) ?_ rfl
    ·refine⟨?_,by simp[zaN],hru.2.1 k u hk⟩
     rw[Nat.zero_add,World.cell?_alloc_new]
     simpa using hk
    ·have:n*1≤n*sz:=Nat.mul_le_mul_left _ hpos
     unfold maxLen;omega
 ·cases hc
theorem zda {γ:Gh} {w:World} {vs:List Value} {cs:List AV} (h:zbc vs cs=true):zy γ w cs vs:=let ⟨a,b,c⟩:=zbW h γ w;⟨a,b,c⟩
def ziX (P:Program) (t:TypeId):Option (Nat→Option (Nat×Nat)) :=
 match P.underlying t with
 | some (.array _ e)=>(P.info? e).map fun ie=>fun i=>some (i*ie.size,ie.size)
 | some (.struct fields)=>(fields.toList.mapM (fun f=>(P.info? f.type).map fun i=>(f.offset,i.size))).map fun places=>fun i=>places.toArray[i]?
 | _=>none
theorem ztJ {P:Program} {o:Oper} {t:TypeId} {parts:Array (Nat×Operand)} {qs:List (Nat×Nat×Opd)} {zero:List AV} {ti:TypeInfo} {z:Value} {place:Nat→Option (Nat×Nat)} (ho:o.op=.build t parts)
  (hi:P.info? t=some ti) (hz:ti.zero=some z) (hzero:zbc z.cells.toList zero=true) (hpl:ziX P t=some place) (hparts:za7 place parts.toList qs=true):Zk P o (.bld zero qs):=by
 intro γ w ρ a c he hc
 simp only[pev] at hc
 cases hf:zL ρ zero qs with
 | none=>simp[hf] at hc
 | some ds =>
  simp only[hf,zaF,Al1] at hc
  subst hc
  obtain⟨us,hus,hr⟩:=zks place he parts.toList qs zero z.cells.toList ds hparts hf (zda hzero)
  refine zT (v:=.agg us.toArray) ?_ (.agg _ _ hr.1 hr.2.1 hr.2.2)
  have hbuilt:P.built t (parts.map fun(x:Nat×Operand)=>(x.1,a.eval x.2)).toList=some us.toArray:=by
   have hmap:(parts.map fun(x:Nat×Operand)=>(x.1,a.eval x.2)).toList=parts.toList.map fun(i,x)=>(i,a.eval x):=by simp
   rw[hmap]
   unfold ziX at hpl
   unfold Program.built
   cases hd:P.underlying t with
   | none=>simp[hd] at hpl
   | some d =>
    cases d<;>simp only[hd] at hpl<;>try (cases hpl;done)
    ·rename_i n e
     cases hie:P.info? e with
     | none=>simp[hie] at hpl
     | some ie =>
      simp only[hie,zaF,Al1] at hpl
      subst hpl
      simp only[hi,hz,hie]
      simpa using hus
    ·rename_i fields
     cases hm:fields.toList.mapM (fun f=>(P.info? f.type).map fun i=>(f.offset,i.size)) with
     | none=>simp[hm] at hpl
     | some places =>
      simp only[hm,zaF,Al1] at hpl
      subst hpl
      simp only[hi,hz,hm]
      simpa using hus
  simp only[execOp,ho,Sem.run_bind,run_build w t _ _ hbuilt,Result.andThen_ok,Sem.run_pure]
theorem Rep.cut {γ:Gh} {w:World} {o:Own} {sz:Nat} {xs:List (List AV)} {ad:Option Addr} {n cap:Nat} (hr:Rep γ w (.sl o sz xs) (.slice ad n cap)) {l h m:Nat} (h1:l≤h) (h2:h≤xs.length) (h3:h≤m) (h4:m≤cap)
  (o':Own) (ho':o'=.no∨(o'=.full∧m=h)∨(o'=o.cut l∧h=xs.length∧m=cap)):Rep γ w (.sl o' sz ((xs.take h).drop l)) (.slice (if m=l then ad else ad.map (·.add (l*sz))) (h-l) (m-l)):=by
 cases hr with
 | slnil _ _ hn =>
  simp only[Al3] at h2
  have e1:m=0:=by omega
  have e2:h=0:=by omega
  have e3:l=0:=by omega
  subst e1;subst e2;subst e3
  simp only[List.take_nil,List.drop_nil,if_true,Nat.sub_self]
  exact .slnil o' sz (by
   rcases ho' with rfl|⟨rfl,_⟩|⟨rfl,_⟩
   ·simp
   ·simp
   ·cases o with
    | tip b d=>exact absurd rfl (hn b d)
    | _=>simp[Own.cut])
 | sl0 _ _ ad hn =>
  simp only[Al3] at h2
  have e1:m=0:=by omega
  have e2:h=0:=by omega
  have e3:l=0:=by omega
  subst e1;subst e2;subst e3
  simp only[List.take_nil,List.drop_nil,if_true,Nat.sub_self]
  exact .sl0 o' sz ad (by
   rcases ho' with rfl|⟨rfl,_⟩|⟨rfl,_⟩
   ·simp
   ·simp
   ·rcases hn with rfl|rfl<;>simp[Own.cut])
 | sl _ _ _ b off _ cv hc hm hu hcell hrr ho =>
  have hlen:((xs.take h).drop l).length=h-l:=by simp;omega
  have hget:∀ i x,((xs.take h).drop l)[i]?=some x→xs[l+i]?=some x∧l+i<h:=by
   intro i x hx
   rw[List.getElem?_drop,znK] at hx
   split at hx
   ·rename_i hlt;exact⟨hx,hlt⟩
   ·cases hx
  have hown:zcU w o' ⟨b,off+l*sz,none⟩ ((xs.take h).drop l).length (m-l) sz:=by
   rcases ho' with rfl|⟨rfl,rfl⟩|⟨rfl,rfl,rfl⟩
   ·trivial
   ·simpa[zcU] using hlen
   ·cases o with
    | no=>trivial
    | nil=>exact ho.elim
    | full =>
     have:xs.length=m:=ho
     show ((xs.take xs.length).drop l).length=m-l
     omega
    | tip b' d =>
     rcases ho with h0|⟨ha,arr,E,hb,hs⟩
     ·exact .inl (by omega)
     ·simp only[Addr.mk.injEq] at ha
      obtain⟨rfl,rfl,_⟩:=ha
      refine .inr ⟨by rw[Nat.add_mul],arr,E,hb,?_⟩
      rw[hs]
      congr 1
      omega
  have hown2:m=l→zcU w o' ⟨b,off,none⟩ ((xs.take h).drop l).length (m-l) sz:=by
   intro hml
   rcases ho' with rfl|⟨rfl,rfl⟩|⟨rfl,rfl,rfl⟩
   ·trivial
   ·simpa[zcU] using hlen
   ·cases o with
    | no=>trivial
    | nil=>exact ho.elim
    | full =>
     have:xs.length=m:=ho
     show ((xs.take xs.length).drop l).length=m-l
     omega
    | tip b' d=>exact .inl (by omega)
  rw[← hlen]
  split
  ·rename_i hml
   have hnil:(xs.take h).drop l=[]:=List.eq_nil_of_length_eq_zero (by omega)
   refine .sl o' sz _ b off (m-l) (fun _ _=>undef) (by omega) (by omega) (fun x hx=>by rw[hnil] at hx;cases hx) (fun i x hx=>by rw[hnil] at hx;simp at hx) (fun i x hx=>by rw[hnil] at hx;simp at hx) (hown2 hml)
  ·simp only[zaF,addr_add]
   refine .sl o' sz _ b (off+l*sz) (m-l) (fun i j=>cv (l+i) j) (by omega) (by omega) (fun x hx=>?_) (fun i x hx j hj=>?_) (fun i x hx j c hj=>?_) hown
   ·exact hu x (List.mem_of_mem_take (List.mem_of_mem_drop hx))
   ·obtain⟨hx',_⟩:=hget i x hx
    have:=hcell (l+i) x hx' j hj
    rw[show off+l*sz+(i*sz+j)=off+((l+i)*sz+j) by rw[Nat.add_mul];omega]
    exact this
   ·obtain⟨hx',_⟩:=hget i x hx
    exact hrr (l+i) x hx' j c hj
theorem zjR {P:Program} {w:World} {γ:Gh} {ρ:Env} {a:Act} (len cap:Nat) {lo hi:Option Operand} {m0:Operand} {lo' hi':Option Opd} {m0':Opd} (hlo:zbg lo lo'=true) (hhi:zbg hi hi'=true) (hmx:zU m0 m0'=true)
  (he:EnvRel γ w ρ a.tmps) {l h m:Int} (hl:bound 0 ρ lo'=some l) (hh:bound len ρ hi'=some h) (hm:bound 0 ρ (some m0')=some m) (hhs:hi'.isSome=true) (h0:0≤l) (h1:l≤h) (h2:h≤m) (h3:m≤cap) :
  (Instr.sliceBounds true len cap (lo.map a.eval) (hi.map a.eval) (some (a.eval m0))).run P w=.ok (l.toNat,h.toNat,m.toNat) w:=by
 obtain⟨km,hkm⟩:=zbY (P:=P) (zx hmx he) hm
 cases hi with
 | none=>cases hi'<;>simp[zbg] at hhi hhs
 | some x =>
  cases hi' with
  | none=>cases hhi
  | some y =>
   obtain⟨kh,hkh⟩:=zbY (P:=P) (zx hhi he) hh
   have b0:∀ k code,(Instr.sliceBound (.int k m) cap code).run P w=.ok m.toNat w:=fun k code=>Z7 k m cap code (by omega) (by omega)
   have b1:∀ k code,(Instr.sliceBound (.int k h) m.toNat code).run P w=.ok h.toNat w:=fun k code=>Z7 k h _ code (by omega) (by omega)
   have b2:∀ k code,(Instr.sliceBound (.int k l) h.toNat code).run P w=.ok l.toNat w:=fun k code=>Z7 k l _ code h0 (by omega)
   unfold Instr.sliceBounds
   cases lo with
   | none =>
    cases lo' with
    | some y=>cases hlo
    | none =>
     have:l=0:=by simpa[bound] using hl.symm
     subst this
     simp[hkm,hkh,b0,b1]
   | some x2 =>
    cases lo' with
    | none=>cases hlo
    | some y2 =>
     obtain⟨kl,hkl⟩:=zbY (P:=P) (zx hlo he) hl
     simp[hkm,hkh,hkl,b0,b1,b2]
theorem Rep.slice_form {γ:Gh} {w:World} {o:Own} {sz:Nat} {xs:List (List AV)} {v:Value} (h:Rep γ w (.sl o sz xs) v):∃ ad cap,v=.slice ad xs.length cap∧xs.length≤cap:=by
 cases h with
 | slnil _ _ _=>exact⟨none,0,rfl,Al4 _⟩
 | sl0 _ _ ad _=>exact⟨some ad,0,rfl,Al4 _⟩
 | sl _ _ _ b off cap cv hc _ _ _ _ _=>exact⟨_,cap,rfl,hc⟩
theorem ztq {P:Program} {o:Oper} {t e:TypeId} {x:Operand} {lo hi mx:Option Operand} {x':Opd} {lo' hi' mx':Option Opd} {sz:Nat} {ei:TypeInfo} (ho:o.op=.slice t x lo hi mx) (h:zU x x'=true) (hlo:zbg lo lo'=true)
  (hhi:zbg hi hi'=true) (hmx:zbg mx mx'=true) (hsome:mx'.isSome=true→hi'.isSome=true) (ht:P.underlying t=some (.slice e)) (hei:P.info? e=some ei) (hsz:ei.size=sz):Zk P o (.sll sz x' lo' hi' mx'):=by
 intro γ w ρ a c he hc
 have r1:=zx h he
 simp only[pev] at hc
 cases hx:x'.ev ρ<;>simp only[hx] at hc r1<;>try (cases hc;done)
 rotate_left
 ·rename_i b off len cap
  generalize hv:a.eval x=v at r1
  cases r1 with
  | ms _ _ _ _ hlt hcap hm =>
   cases mx' with
   | some _=>cases hc
   | none =>
    cases mx with
    | some y=>cases hmx
    | none =>
     cases hl:bound 0 ρ lo' with
     | none=>simp only[hl,zm0] at hc;cases hc
     | some l =>
      cases hh:bound len ρ hi' with
      | none=>simp only[hl,hh,zm0] at hc;cases hc
      | some hb =>
       simp only[hl,hh,zm0] at hc
       split at hc
       ·rename_i hk
        obtain⟨h0,h1,h2⟩:=hk
        simp only[Al1] at hc
        subst hc
        have hbnd:=zc3 (P:=P) true len cap hlo hhi he hl hh h0 h1 h2 hcap
        have hr:Rep γ w (.ms b (if cap=l.toNat then off else off+l.toNat*sz) (hb.toNat-l.toNat) (cap-l.toNat)) (.slice (if cap=l.toNat then some ⟨b,off,none⟩ else (some (⟨b,off,none⟩:Addr)).map (·.add (l.toNat*sz))) (hb.toNat-l.toNat) (cap-l.toNat)):=by
         by_cases h:cap=l.toNat
         ·rw[if_pos h,if_pos h];exact .ms b off _ _ hlt (by omega) (by omega)
         ·rw[if_neg h,if_neg h]
          simp only[zaF,addr_add]
          exact .ms b _ _ _ hlt (by omega) (by omega)
        refine zT ?_ hr
        simp only[execOp,ho,hv,Instr.sliceAt,Sem.run_bind,run_underlying ht,Result.andThen_ok,Instr.slice,Option.map_none,hbnd,sizeOf,typeInfo,run_program,hei,Sem.run_pure,hsz]
       ·cases hc
 rename_i own sz' xs
 obtain⟨ad,cap,hv,hcap⟩:=r1.slice_form
 rw[hv] at r1
 cases hl:bound 0 ρ lo' with
 | none=>simp only[hl] at hc;cases hc
 | some l =>
  cases hh:bound xs.length ρ hi' with
  | none=>simp only[hl,hh] at hc;cases mx'<;>simp at hc
  | some hb =>
   cases mx' with
   | none =>
    cases mx with
    | some y=>cases hmx
    | none =>
     simp only[hl,hh] at hc
     split at hc
     ·rename_i hk
      obtain⟨rfl,h0,h1,h2⟩:=hk
      simp only[Al1] at hc
      subst hc
      have hbnd:=zc3 (P:=P) true xs.length cap hlo hhi he hl hh h0 h1 h2 hcap
      refine zT ?_ (r1.cut (l:=l.toNat) (h:=hb.toNat) (m:=cap) (by omega) (by omega) (by omega) (Al4 _) _ (by
       cases hi' with
       | none=>simp only[bound,Al1] at hh;subst hh;exact .inr (.inr ⟨by simp,by simp,rfl⟩)
       | some _=>exact .inl (by simp)))
      simp only[execOp,ho,hv,Instr.sliceAt,Sem.run_bind,run_underlying ht,Result.andThen_ok,Instr.slice,Option.map_none,hbnd,sizeOf,typeInfo,run_program,hei,Sem.run_pure,hsz]
     ·cases hc
   | some m' =>
    cases mx with
    | none=>cases hmx
    | some y =>
     simp only[hl,hh] at hc
     cases hm:m'.ev ρ<;>simp only[hm] at hc<;>try (cases hc;done)
     rename_i km m
     split at hc
     ·rename_i hk
      obtain⟨rfl,h0,h1,h2,h3⟩:=hk
      simp only[Al1] at hc
      subst hc
      have hbnd:=zjR (P:=P) xs.length cap hlo hhi hmx he hl hh (m:=m) (by simp[bound,hm]) (hsome rfl) h0 h1 h2 (by omega)
      refine zT ?_ (r1.cut (l:=l.toNat) (h:=hb.toNat) (m:=m.toNat) (by omega) (by omega) (by omega) (by omega) _ ?_)
      ·simp only[execOp,ho,hv,Instr.sliceAt,Sem.run_bind,run_underlying ht,Result.andThen_ok,Instr.slice,zaF,hbnd,sizeOf,typeInfo,run_program,hei,Sem.run_pure,hsz]
      ·split
       ·rename_i e;exact .inr (.inl ⟨rfl,by rw[e]⟩)
       ·exact .inl rfl
     ·cases hc
def yG (H:zc) (w:World) (H':zc):Prop:=∀ b,(H' b).isSome=true→(H b).isSome=true∨w.heap.size≤b
def keysOf (H:zc):Nat→Prop:=fun b=>(H b).isSome=true
def zfs (P:Program) (o:Oper) (ao:AOp):Prop :=
 ∀(γ:Gh) (w:World) (H:zc) (ρ:Env) (a:Act) (K KP:AV→zc→Prop) (next:Act→World→Prop) (Q:Exit→Act→World→Prop),
  EnvRel γ w ρ a.tmps→zz γ w H→aop P KP ao ρ H K →
  (∀ γ' w' H' c v,Ext (keysOf H) γ w γ' w'→zz γ' w' H'→yG H w H'→Rep γ' w' c v→K c H'→next (a.put o.dst v) w') →
  (∀ γ' w' H' c v,Ext (keysOf H) γ w γ' w'→zz γ' w' H'→yG H w H'→Rep γ' w' c v→KP c H'→Q (.panic [{ v,recovered:=false }]) a w') →
  o.wp P a w next Q
theorem yG.refl (H:zc) (w:World):yG H w H:=fun _ h=>.inl h
theorem yU {P:Program} {o:Oper} {a:Act} {w w':World} {v:Value} {next:Act→World→Prop} {Q:Exit→Act→World→Prop} (h:(execOp a.eval o).run P w=.ok (.value v) w') (hn:next (a.put o.dst v) w'):o.wp P a w next Q:=by
 unfold Oper.wp
 rw[h]
 exact hn
theorem zdN {P:Program} {o:Oper} {a:Act} {w w':World} {next:Act→World→Prop} {Q:Exit→Act→World→Prop} (h:(execOp a.eval o).run P w=.ok .skip w') (hn:next (a.put o.dst undef) w'):o.wp P a w next Q:=by
 unfold Oper.wp
 rw[h]
 exact hn
theorem zS {P:Program} {o:Oper} {ao:AOp} (hcls:ao.cls=.pure) (h:Zk P o ao):zfs P o ao:=by
 intro γ w H ρ a K KP next Q he hs hop hn hp
 unfold aop at hop
 rw[hcls] at hop
 simp only at hop
 cases hv:pev ρ ao with
 | none=>simp[hv] at hop
 | some c =>
  simp only[hv] at hop
  obtain⟨v,γ',w',hr,hext,hrep⟩:=h γ w ρ a c he hv
  exact yU hr (hn γ' w' H c v (hext.weaken fun _ f=>f.elim) (hs.kept hext fun _ _ _ f=>f) (yG.refl _ _) hrep hop)
def zlH (P:Program) (o:Oper) (ao:AOp):Prop :=
 ∀(γ:Gh) (w:World) (H:zc) (ρ:Env) (a:Act) (c:AV),EnvRel γ w ρ a.tmps→zz γ w H→rev ρ H ao=some c →
  ∃ v,(execOp a.eval o).run P w=.ok (.value v) w∧Rep γ w c v
theorem zgV {P:Program} {o:Oper} {ao:AOp} (hcls:ao.cls=.read) (h:zlH P o ao):zfs P o ao:=by
 intro γ w H ρ a K KP next Q he hs hop hn hp
 unfold aop at hop
 rw[hcls] at hop
 simp only at hop
 cases hv:rev ρ H ao with
 | none=>simp[hv] at hop
 | some c =>
  simp only[hv] at hop
  obtain⟨v,hr,hrep⟩:=h γ w H ρ a c he hs hv
  exact yU hr (hn γ w H c v (.refl _ _ _) hs (yG.refl _ _) hrep hop)
theorem zha {P:Program} {w:World} {t:TypeId} {ti:TypeInfo} {d:TypeDesc} {n:Nat} {ag:Bool} (hi:P.info? t=some ti) (hn:ti.size=n) (hd:P.underlying t=some d) (hag:zeV (P.underlying t)=ag) (h1:ag=true∨n=1)
  (b off:Nat) (us:List Value) (hlen:us.length=n) (hc:∀(j:Nat) (v:Value),us[j]?=some v→w.cell? ⟨b,off+j,none⟩=some v) :
  (loadVar t ⟨b,off,none⟩).run P w=.ok (if ag then .agg us.toArray else us.headD undef) w:=by
 unfold loadVar
 rw[Sem.run_bind,zhD hd,hag]
 cases ag with
 | true =>
  have hl:(loadCells ⟨b,off,none⟩ us.length).run P w=.ok us.toArray w:=run_loadCells_list w _ us (fun j v hj=>by rw[addr_add];exact hc j v hj)
  rw[hlen] at hl
  simp[sizeOf,typeInfo,hi,hn,hl]
 | false =>
  have hn1:n=1:=by rcases h1 with h|h<;>simp_all
  subst hn1
  cases us with
  | nil=>simp at hlen
  | cons u us =>
   have h0:=hc 0 u rfl
   simp only[Nat.add_zero] at h0
   simp[h0]
theorem zsI {γ:Gh} {w:World} {cs:List AV} {us:List Value} {n:Nat} {ag:Bool} (h1:ag=true∨n=1) (hl:cs.length=n) (h:zy γ w cs us):Rep γ w (mk ag cs) (if ag then .agg us.toArray else us.headD undef):=by
 cases ag with
 | true=>exact .agg _ _ h.1 h.2.1 h.2.2
 | false =>
  have hn1:n=1:=by rcases h1 with h|h<;>simp_all
  subst hn1
  cases cs with
  | nil=>simp at hl
  | cons c cs =>
   cases us with
   | nil=>simp[zy] at h
   | cons u us=>exact h.2.2 0 c u rfl rfl
theorem zsm {P:Program} {o:Oper} {t:TypeId} {x:Operand} {x':Opd} {n:Nat} {ag:Bool} {ti:TypeInfo} {d:TypeDesc} (ho:o.op=.load t x) (h:zU x x'=true) (hi:P.info? t=some ti) (hn:ti.size=n) (hd:P.underlying t=some d)
  (hag:zeV (P.underlying t)=ag) (h1:ag=true∨n=1):zlH P o (.ld n ag x'):=by
 intro γ w H ρ a c he hs hc
 have r1:=zx h he
 simp only[rev] at hc
 have fin:∀ b off us cs,a.eval x=.pointer (some ⟨b,off,none⟩)→cs.length=n→zy γ w cs us→(∀(j:Nat) (v:Value),us[j]?=some v→w.cell? ⟨b,off+j,none⟩=some v)→c=mk ag cs →
   ∃ v,(execOp a.eval o).run P w=.ok (.value v) w∧Rep γ w c v:=by
  intro b off us cs hv hl hr hcell hceq
  subst hceq
  refine⟨_,?_,zsI h1 hl hr⟩
  have hrun:=zha hi hn hd hag h1 b off us (by rw[← hr.1];exact hl) hcell
  simp[execOp,ho,hv,Instr.loadAt,Instr.sureAddr,hrun]
 cases hx:x'.ev ρ<;>simp only[hx] at hc r1<;>try (cases hc;done)
 ·rename_i b off
  cases hb:H b with
  | none=>simp[hb] at hc
  | some ob =>
   cases ob<;>simp only[hb] at hc<;>try (cases hc;done)
   rename_i cs
   split at hc
   ·rename_i hle
    simp only[Al1] at hc
    generalize hv:a.eval x=v at r1
    cases r1
    cases hs b _ hb with
    | cells _ vs E hk hbb hl hone hr =>
     have hfr:zy γ w ((cs.drop off).take n) ((vs.drop off).take n):=(zy.drop ⟨hl,hone,hr⟩ off).take n
     refine fin b off _ _ hv (by simp;omega) hfr (fun j u hj=>?_) hc.symm
     rw[znK] at hj
     split at hj
     ·rw[List.getElem?_drop] at hj
      rw[cell_of_row w b _ _ _ _ hbb]
      simpa using hj
     ·cases hj
   ·cases hc
 ·rename_i cs
  split at hc
  ·rename_i hle
   simp only[Al1] at hc
   generalize hv:a.eval x=v at r1
   cases r1 with
   | view _ b off cv hcell hr =>
    refine fin b off ((List.range n).map cv) (cs.take n) hv (by simp;omega) ⟨by simp;omega,fun i u hu=>?_,fun i c u hc hu=>?_⟩ (fun j u hj=>?_) hc.symm
    ·simp only[Y5,zc4] at hu
     obtain⟨k,hk,rfl⟩:=hu
     obtain⟨h1,h2⟩:=zaA.1 hk
     simp at h1 h2
     exact(hcell k (by omega)).2.2
    ·simp only[Y5,zc4] at hu
     obtain⟨k,hk,rfl⟩:=hu
     obtain⟨h1,h2⟩:=zaA.1 hk
     simp at h1 h2
     subst h2
     rw[znK,if_pos h1] at hc
     exact hr i _ hc
    ·simp only[Y5,zc4] at hj
     obtain⟨k,hk,rfl⟩:=hj
     obtain⟨h1,h2⟩:=zaA.1 hk
     simp at h1 h2
     subst h2
     exact(hcell j (by omega)).1
  ·cases hc
theorem zk3 (F:Nat→Prop) (γ:Gh) (w:World) (k:BK) (es:Array MapEntry) (clock:Nat) :
  Ext F γ w (fun b=>if b=w.heap.size then k else γ b) (w.alloc (.map es clock)):=by
 have hne:∀ b,b<w.heap.size→b≠w.heap.size:=fun b h=>Nat.ne_of_lt h
 have hold:∀ b,b<w.heap.size→(w.alloc (.map es clock)).heap[b]?=w.heap[b]?:=fun b hb=>heap_alloc_old w _ hb
 refine⟨⟨by simp,fun b o v hc hp=>?_,fun b arr E fr hb=>?_⟩,rfl,rfl,fun a _=>?_,fun b hb _=>⟨by simp[hne b hb],hold b hb⟩⟩
 ·have hlt:=World.block_lt_of_cell? w _ hc
  refine⟨by simpa[zaN,hne b hlt] using hp,?_⟩
  rw[World.cell?_alloc_lt _ _ _ hlt];exact hc
 ·have hlt:=(zcC.1 hb).1
  exact⟨arr,by rw[hold b hlt];exact hb,rfl⟩
 ·by_cases h:a.block=w.heap.size
  ·have e1:(w.alloc (.map es clock)).heap[a.block]?=some (.map es clock):=by rw[h];exact heap_alloc_new w _
   have e2:w.heap[a.block]?=none:=by rw[h];simp
   simp[World.frozen?,e1,e2]
  ·exact World.frozen?_alloc_old _ _ _ h
theorem zaz {γ γ':Gh} {w w':World} {H:zc} {x:AObj} {F:Nat→Prop} (hs:zz γ w H) (hext:Ext (fun _=>False) γ w γ' w') (hx:ObjRel γ' w' w.heap.size x):zz γ' w' (H.upd w.heap.size x):=by
 intro b o hb
 unfold zc.upd at hb
 split at hb
 ·rename_i e;subst e;simp only[Al1] at hb;subst hb;exact hx
 ·exact hs.kept hext (fun _ _ _ f=>f) b o hb
theorem ZB {H:zc} {w:World} {x:AObj}:yG H w (H.upd w.heap.size x):=by
 intro b hb
 unfold zc.upd at hb
 split at hb
 ·rename_i e;exact .inr (by omega)
 ·exact .inl hb
theorem ZU {γ:Gh} {w:World} {H:zc} (hs:zz γ w H):H w.heap.size=none:=by
 cases h:H w.heap.size with
 | none=>rfl
 | some o=>exact absurd (hs _ _ h).lt (Nat.lt_irrefl _)
theorem zd5 {γ:Gh} {w:World} {H:zc} (hs:zz γ w H):¬ zco H:=fun⟨n,h⟩=>by
 cases hb:H (max n w.heap.size) with
 | none=>exact h _ (Nat.le_max_left ..) hb
 | some o=>have:=(hs _ _ hb).lt;omega
theorem zoE {P:Program} {o:Oper} {t:TypeId} {zero:List AV} {ti:TypeInfo} {z:Value} (ho:o.op=.alloc t) (hi:P.info? t=some ti) (hz:ti.zero=some z) (hzero:zbc z.cells.toList zero=true):zfs P o (.alloc zero):=by
 intro γ w H ρ a K KP next Q he hs hop hn hp
 simp only[aop,AOp.cls,oev,yj] at hop
 have hext:=Z9 (fun _=>False) γ w .own z.cells t
 have hf:=zda (γ:=fun b=>if b=w.heap.size then BK.own else γ b) (w:=w.alloc (.cells z.cells t)) hzero
 refine yU (v:=.pointer (some ⟨w.heap.size,0,none⟩)) ?_ (hn _ _ _ _ _ (hext.weaken fun _ f=>f.elim) (zaz (F:=fun _=>False) hs hext (.cells zero z.cells.toList t (by simp) ?_ hf.1 hf.2.1 hf.2.2)) ZB (.ptr _ 0 (by simp)) (hop _ (ZU hs)))
 ·simp[execOp,ho,Instr.alloc,zeroValue,typeInfo,hi,hz,newVar,newRow]
 ·rw[heap_alloc_new]
theorem ztR {P:Program} {o:Oper} {t:TypeId} {x:Operand} {x':Opd} (ho:o.op=.box t x) (h:zU x x'=true):zfs P o (.box x'):=by
 intro γ w H ρ a K KP next Q he hs hop hn hp
 simp only[aop,AOp.cls,oev,yj] at hop
 split at hop
 ·rename_i ob hob
  split at hob
  ·rename_i hbox
   simp only[Al1] at hob
   subst hob
   have hext:=Z9 (fun _=>False) γ w .own (a.eval x).cells t
   obtain⟨hl,h1,hr⟩:=((zx h he).mono hext.mono).cells hbox
   refine yU (v:=.pointer (some ⟨w.heap.size,0,none⟩)) ?_ (hn _ _ _ _ _ (hext.weaken fun _ f=>f.elim) (zaz (F:=fun _=>False) hs hext (.cells _ (a.eval x).cells.toList t (by simp) ?_ hl h1 hr)) ZB (.ptr _ 0 (by simp)) (hop _ (ZU hs)))
   ·simp[execOp,ho,Instr.box,newVar,newRow]
   ·rw[heap_alloc_new]
  ·cases hob
 ·exact(zd5 hs hop).elim
theorem ztG {P:Program} {o:Oper} {t:TypeId} {kt:KT} (ho:o.op=.makeMap t none):zfs P o (.mkm kt):=by
 intro γ w H ρ a K KP next Q he hs hop hn hp
 simp only[aop,AOp.cls,oev,yj] at hop
 have hext:=zk3 (fun _=>False) γ w .own #[] 0
 refine yU (v:=.map (some w.heap.size)) ?_ (hn _ _ _ _ _ (hext.weaken fun _ f=>f.elim) (zaz (F:=fun _=>False) hs hext (.map kt [] [] 0 (by simp) (by simp) ?_ rfl (by simp))) ZB (.mp _ (by simp)) (hop _ (ZU hs)))
 ·simp[execOp,ho,Instr.makeMap]
 ·rw[heap_alloc_new]
theorem zru {P:Program} {o:Oper} {f:FuncId} {args:Array Operand} {args':List Opd} {ts:Array TypeId} (ho:o.op=.call { callee:=.value (.func f),args:=args,argTypes:=ts }) (h:Y2 args.toList args'=true) (hf:Program.callable P f=true) :
  zfs P o (.call f args'):=by
 intro γ w H ρ a K KP next Q he hs hop hn hp
 simp only[aop,AOp.cls,eff] at hop
 have hargs:=zb1 h he
 have hc:=hop γ w _ he.tab hs hargs
 unfold Program.callable at hf
 cases hfn:P.funcs[f]? with
 | none=>simp[hfn] at hf
 | some fn =>
  simp only[hfn,Al0,bne_iff_ne,ne_eq] at hf
  obtain⟨hbody,hname⟩:=hf
  obtain⟨bd,hb⟩:=zjF.1 hbody
  have hmap:args.map a.eval=(args.toList.map a.eval).toArray:=by apply Array.ext';simp
  have hrun:(execOp a.eval o).run P w=.ok (.enter f (args.toList.map a.eval).toArray) w:=by
   simp[execOp,ho,resolve,Act.eval,Deferred.ofValue,invoke,callFunc,hfn,hname,hb,hmap]
  unfold Oper.wp
  rw[hrun]
  refine Calls.mono hc fun e w' ⟨γ',H',r,hext,hst,hnew,hend,hq⟩=>?_
  cases e with
  | returned v =>
   cases r with
   | ret c=>exact hn γ' w' H' c v hext hst hnew hend hq
   | pan c=>exact hend.elim
  | panicked ch =>
   cases r with
   | ret c=>exact hend.elim
   | pan c =>
    obtain⟨v,rfl,hrep⟩:=hend
    exact hp γ' w' H' c v hext hst hnew hrep hq
  | outgrown=>cases r<;>exact hend.elim
theorem zn5 {P:Program} {o:Oper} {g:Operand} {g':Opd} {args:Array Operand} {args':List Opd} {ts:Array TypeId} (ho:o.op=.call { callee:=.value g,args:=args,argTypes:=ts }) (hg:zU g g'=true) (h:Y2 args.toList args'=true) :
  zfs P o (.callv g' args'):=by
 intro γ w H ρ a K KP next Q he hs hop hn hp
 simp only[aop,AOp.cls,eff] at hop
 have r1:=zx hg he
 cases hx:g'.ev ρ<;>simp only[hx] at hop r1<;>try (exact hop.elim)
 rename_i f first caps
 obtain⟨hf,hop⟩:=hop
 generalize hv:a.eval g=v at r1
 cases r1 with
 | clo _ _ _ vs us hl hl' hr hr' =>
  have hargs:=zb1 h he
  have hall:yn γ w (first++args'.map (Opd.ev ρ)++caps) (vs++args.toList.map a.eval++us):=(yn.append ⟨hl,hr⟩ hargs).append ⟨hl',hr'⟩
  have hc:=hop γ w _ he.tab hs hall
  unfold Program.callable at hf
  cases hfn:P.funcs[f]? with
  | none=>simp[hfn] at hf
  | some fn =>
   simp only[hfn,Al0,bne_iff_ne,ne_eq] at hf
   obtain⟨hbody,hname⟩:=hf
   obtain⟨bd,hb⟩:=zjF.1 hbody
   have hmap:vs.toArray++args.map a.eval++us.toArray=(vs++args.toList.map a.eval++us).toArray:=by apply Array.ext';simp
   have hrun:(execOp a.eval o).run P w=.ok (.enter f (vs++args.toList.map a.eval++us).toArray) w:=by
    rw[← hmap]
    simp only[execOp,ho,resolve,hv,Deferred.ofValue,Sem.run_bind,Sem.run_pure,Result.andThen_ok,invoke,callFunc,run_program,hfn]
    simp[hname,hb]
   unfold Oper.wp
   rw[hrun]
   refine Calls.mono hc fun e w' ⟨γ',H',r,hext,hst,hnew,hend,hq⟩=>?_
   cases e with
   | returned v =>
    cases r with
    | ret c=>exact hn γ' w' H' c v hext hst hnew hend hq
    | pan c=>exact hend.elim
   | panicked ch =>
    cases r with
    | ret c=>exact hend.elim
    | pan c =>
     obtain⟨v,rfl,hrep⟩:=hend
     exact hp γ' w' H' c v hext hst hnew hrep hq
   | outgrown=>cases r<;>exact hend.elim
theorem zt5 {P:Program} {o:Oper} {x:Operand} {x':Opd} (ho:o.op=.panic x) (h:zU x x'=true):zfs P o (.pan x'):=by
 intro γ w H ρ a K KP next Q he hs hop hn hp
 simp only[aop,AOp.cls,eff] at hop
 have r1:=zx h he
 cases hx:x'.ev ρ<;>simp only[hx] at hop r1<;>try (exact hop.elim)
 rename_i t y
 generalize hv:a.eval x=v at r1
 have r2:=r1
 cases r1 with
 | ifc _ _ u hr =>
  have hrun:(execOp a.eval o).run P w=.halt (.panic (.iface t u)) w:=by
   simp[execOp,ho,hv,Instr.panic]
  unfold Oper.wp
  rw[hrun]
  exact hp γ w H _ _ (.refl _ _ _) hs (yG.refl _ _) r2 hop
theorem za4 (w:World) (b:Nat) (cs:Array Value) (old:Array Value) (E:TypeId) (fr:Nat×Nat) (h:w.heap[b]?=some (.cells old E fr)):(w.setRow b cs).heap[b]?=some (.cells cs E fr):=setRow_heap w b old cs E fr h
theorem zae {F:Nat→Prop} {γ γ':Gh} {w:World} {b:Nat} {old cs:Array Value} {E:TypeId} (hb:w.heap[b]?=some (.cells old E (0,0))) (hsz:cs.size=old.size) (hF:F b)
  (hk:∀ o,zaN γ b o→zaN γ' b o∧cs[o]?=old[o]?) (hg:∀ c,c≠b→γ' c=γ c):Ext F γ w γ' (w.setRow b cs):=by
 have hother:∀ c,c≠b→(w.setRow b cs).heap[c]?=w.heap[c]?:=fun c hc=>setRow_other w b c cs (by omega)
 have hself:(w.setRow b cs).heap[b]?=some (.cells cs E (0,0)):=za4 w b cs old E _ hb
 refine⟨⟨by simp,fun c o v hc hp=>?_,fun c arr E' fr hc=>?_⟩,rfl,rfl,fun a _=>?_,fun c hc hn=>?_⟩
 ·by_cases hcb:c=b
  ·subst hcb
   obtain⟨h1,h2⟩:=hk o hp
   refine⟨h1,?_⟩
   rw[cell_of_row _ _ _ _ _ _ hself,h2]
   rw[cell_of_row _ _ _ _ _ _ hb] at hc
   exact hc
  ·refine⟨by simpa[zaN,hg c hcb] using hp,?_⟩
   rw[World.cell?_of_block (w:=w) (hother c hcb)]
   exact hc
 ·by_cases hcb:c=b
  ·subst hcb
   rw[hb] at hc
   simp only[Al1,Obj.cells.injEq] at hc
   obtain⟨rfl,rfl,rfl⟩:=hc
   exact⟨cs,hself,hsz⟩
  ·exact⟨arr,(hother c hcb).trans hc,rfl⟩
 ·by_cases hcb:a.block=b
  ·simp[World.frozen?,hcb,hself,hb]
  ·exact World.frozen?_of_block (hother _ hcb)
 ·have hcb:c≠b:=fun e=>hn (e▸hF)
  exact⟨hg c hcb,hother c hcb⟩
theorem za2 {γ γ':Gh} {w w':World} {H:zc} {b:Nat} {x:AObj} (hs:zz γ w H) (hext:Ext (fun c=>c=b) γ w γ' w') (hx:ObjRel γ' w' b x):zz γ' w' (H.upd b x):=by
 intro c o hc
 unfold zc.upd at hc
 split at hc
 ·rename_i e;subst e;simp only[Al1] at hc;subst hc;exact hx
 ·rename_i hne
  have ho:=hs c o hc
  obtain⟨g,k⟩:=hext.frame c ho.lt hne
  exact ho.kept hext.mono g k
theorem zaU {H:zc} {w:World} {b:Nat} {x:AObj} (hb:(H b).isSome=true):yG H w (H.upd b x):=by
 intro c hc
 unfold zc.upd at hc
 split at hc
 ·rename_i e;subst e;exact .inl hb
 ·exact .inl hc
theorem zuU {P:Program} {o:Oper} {t:TypeId} {x y:Operand} {x' y':Opd} {n:Nat} {ti:TypeInfo} (ho:o.op=.store t x y) (h:zU x x'=true) (h2:zU y y'=true) (hi:P.info? t=some ti) (hn0:ti.size=n):zfs P o (.st n x' y'):=by
 intro γ w H ρ a K KP next Q he hs hop hn hp
 simp only[aop,AOp.cls,eff] at hop
 have r1:=zx h he
 have r2:=zx h2 he
 cases hx:x'.ev ρ<;>simp only[hx] at hop r1<;>try (exact hop.elim)
 rename_i b off
 cases hb:H b with
 | none=>simp[hb] at hop
 | some ob =>
  cases ob<;>simp only[hb] at hop<;>try (exact hop.elim)
  rename_i cs
  obtain⟨hlen,hle,hbox,hK⟩:=hop
  generalize hv:a.eval x=v at r1
  cases r1
  cases hs b _ hb with
  | cells _ vs E hk hbb hl hone hr =>
   obtain⟨cl,c1,c2⟩:=r2.cells hbox
   have hsz:(a.eval y).cells.size=n:=by rw[← hlen,cl];simp
   have hst:=run_storeCells_at P b off E (a.eval y).cells.toList 0 vs.toArray w hbb (by simp[hsz];omega) (fun u hu=>by
    obtain⟨i,hi⟩:=List.mem_iff_getElem?.1 hu
    exact c1 i u hi)
   simp only[Nat.add_zero] at hst
   have hrun:(execOp a.eval o).run P w=.ok .skip (w.setRow b (vs.take off++(a.eval y).cells.toList++vs.drop (off+(a.eval y).cells.toList.length)).toArray):=by
    simp[execOp,ho,hv,Instr.storeAt,Instr.sureAddr,storeVar,sizeOf,typeInfo,hi,hn0,hsz,hst]
   have hext:Ext (fun c=>c=b) γ w γ (w.setRow b (vs.take off++(a.eval y).cells.toList++vs.drop (off+(a.eval y).cells.toList.length)).toArray) :=
    zae hbb (by simp[hsz];omega) rfl (fun q hq=>by simp[zaN,hk] at hq) (fun _ _=>rfl)
   have hf:zy γ w (splice cs off (y'.ev ρ).cells) (vs.take off++(a.eval y).cells.toList++vs.drop (off+(a.eval y).cells.toList.length)):=zy.splice ⟨hl,hone,hr⟩ ⟨cl,c1,c2⟩ off
   refine zdN hrun (hn γ _ _ _ _ (hext.weaken fun c e=>by subst e;simp[keysOf,hb]) (za2 hs hext (.cells _ _ E hk (za4 w b _ _ E _ hbb) hf.1 hf.2.1 fun i c v hc hv=>(hf.2.2 i c v hc hv).mono hext.mono))
    (zaU (by simp[hb])) (.tup [] [] rfl (by simp)) hK)
theorem zk8 {P:Program} {γ:Gh} {w:World} {o:Own} {sz:Nat} {ys:List (List AV)} {v:Value} {tx e':TypeId} (hk:P.underlying tx=some (.slice e')) (h:Rep γ w (.sl o sz ys) v) :
  ∃ news,Src P sz tx v ys.length news w∧zy γ w ys.flatten news∧(ys≠[]→∀ y∈ys,y.length=sz):=by
 obtain⟨ad,cap,hv,hcap⟩:=h.slice_form
 subst hv
 cases h with
 | slnil _ _ _=>exact⟨[],Src.ofNil w hk 0,⟨rfl,by simp,by simp⟩,by simp⟩
 | sl0 _ _ ad _=>exact⟨[],Src.ofSlice w hk ad 0 0 [] (by simp) (by simp) (by simp),⟨rfl,by simp,by simp⟩,by simp⟩
 | sl _ _ _ b off _ cv hc hm hu hcell hr ho =>
  obtain⟨_,_,_,_,_,us,hul,hrow,hrel⟩:=(Rep.sl o sz ys b off cap cv hc hm hu hcell hr ho).flat
  refine⟨us,Src.ofSlice w hk _ _ _ us (by rw[← hul,yZ sz ys hu]) (fun j u hj=>by rw[addr_add];exact(hrow j u hj).1) (fun u hu'=>?_),⟨hul,fun i u hi=>(hrow i u hi).2.2,hrel⟩,fun _=>hu⟩
  obtain⟨i,hi⟩:=List.mem_iff_getElem?.1 hu'
  exact(hrow i u hi).2.2
theorem zhs (ys:List (List AV)):(ys.map (·.map AV.strip1)).flatten=ys.flatten.map AV.strip1:=by
 induction ys with
 | nil=>rfl
 | cons y ys ih=>rw[List.map_cons,List.flatten_cons,List.flatten_cons,List.map_append,ih]
section
variable {P:Program} {w:World}
theorem zcw (t tx ty e:TypeId) (i:TypeInfo) (ht:P.underlying t=some (.slice e)) (hi:P.info? e=some i) (x:Value) (news:List Value) (hs:Src P i.size tx x 0 news w) :
  (Builtin.append_ #[t,tx] ty #[.slice none 0 0,x]).run P w=.ok (.slice none 0 0) w:=by
 rcases hs.kind with ⟨e',hk⟩|hk<;>simp[Builtin.append_,run_underlying ht,run_underlying hk,sizeOf,typeInfo,hi,hs.len,hs.cells]
theorem zgM (t tx ty e:TypeId) (i:TypeInfo) (ht:P.underlying t=some (.slice e)) (hi:P.info? e=some i) (b off sLen sCap:Nat) (cur:Array Value) (E:TypeId) (hb:w.heap[b]?=some (.cells cur E (0,0)))
  (x:Value) (n:Nat) (news:List Value) (hs:Src P i.size tx x n news w) (hroom:sLen+n≤sCap) (hfit:off+sLen*i.size+news.length≤cur.size) :
  (Builtin.append_ #[t,tx] ty #[.slice (some ⟨b,off,none⟩) sLen sCap,x]).run P w =
   .ok (.slice (some ⟨b,off,none⟩) (sLen+n) sCap) (w.setRow b (cur.toList.take (off+sLen*i.size)++news++cur.toList.drop (off+sLen*i.size+news.length)).toArray):=by
 have hst:=run_storeCells_at P b (off+sLen*i.size) E news 0 cur w hb (by simpa using hfit) hs.one
 simp only[Nat.add_zero] at hst
 rcases hs.kind with ⟨e',hk⟩|hk<;>simp[Builtin.append_,run_underlying ht,run_underlying hk,sizeOf,typeInfo,hi,hs.len,hroom,hs.cells,Addr.add_lit,hst]
theorem zaP (t tx ty e:TypeId) (i:TypeInfo) (ht:P.underlying t=some (.slice e)) (hi:P.info? e=some i) (ad:Addr) (sLen:Nat)
  (x:Value) (news:List Value) (hs:Src P i.size tx x 0 news w) (hnews:news=[]) :
  (Builtin.append_ #[t,tx] ty #[.slice (some ad) sLen sLen,x]).run P w=.ok (.slice (some ad) sLen sLen) w:=by
 have h1:=hs.cells
 rw[hnews] at h1
 rcases hs.kind with ⟨e',hk⟩|hk<;>simp[Builtin.append_,run_underlying ht,run_underlying hk,sizeOf,typeInfo,hi,hs.len,h1,storeCells]
end
theorem zfx {H:zc} {w:World} {b:Nat} {x:AObj} (hb:(H b).isSome=true) {b':Nat} (h':b'=b∨w.heap.size≤b'):yG H w ((H.del b).upd b' x):=by
 intro c hc
 unfold zc.upd at hc
 split at hc
 ·rename_i e
  subst e
  rcases h' with rfl|h'
  ·exact .inl hb
  ·exact .inr h'
 ·unfold zc.del at hc
  split at hc
  ·cases hc
  ·exact .inl hc
theorem zhQ {γ:Gh} {w:World} {H:zc} (hs:zz γ w H) (b:Nat):zz γ w (H.del b):=hs.sub fun c o hc=>by
 unfold zc.del at hc
 split at hc
 ·cases hc
 ·exact hc
theorem zli {P:Program} {o:Oper} {a:Act} {γ:Gh} {w:World} {H:zc} {K:AV→zc→Prop} {next:Act→World→Prop} {Q:Exit→Act→World→Prop}
  {t tx e:TypeId} {i:TypeInfo} {z:Value} {sz bytes:Nat} (ht:P.underlying t=some (.slice e)) (hi:P.info? e=some i) (hz:i.zero=some z) (hsz:i.size=sz) (hby:i.bytes=bytes) (hzs:z.cells.size=sz) (hpos:0<sz)
  {own own':Own} {s1 s2:Nat} {xs ys:List (List AV)} {v x:Value} (hx:Rep γ w (.sl own s1 xs) v) {news:List Value} (hsrc:Src P sz tx x ys.length news w) (hnews:zy γ w ys.flatten news) (hys:ys≠[]→∀ y∈ys,y.length=sz)
  (hs:zz γ w H) (hop:zkZ sz bytes (.sl own s1 xs) (.sl own' s2 ys) H K)
  (hexec:∀ r w',(Builtin.append_ #[t,tx] o.type #[v,x]).run P w=.ok r w'→(execOp a.eval o).run P w=.ok (.value r) w')
  (hn:∀ γ' w' H' c v,Ext (keysOf H) γ w γ' w'→zz γ' w' H'→yG H w H'→Rep γ' w' c v→K c H'→next (a.put o.dst v) w'):o.wp P a w next Q:=by
 obtain⟨e1,e2,hbytes,hmax,hK⟩:=hop
 subst e2
 subst e1
 have hys':∀ y∈ys.map (·.map AV.strip1),y.length=s1:=by
  intro y hy
  simp only[List.mem_map] at hy
  obtain⟨y',hy',rfl⟩:=hy
  rw[List.length_map]
  exact hys (List.ne_nil_of_mem hy') y' hy'
 have hnews':zy γ w (ys.map (·.map AV.strip1)).flatten news:=by rw[zhs];exact zdS hnews
 have hnl:news.length=ys.length*s1:=by rw[hsrc.newsLen]
 have hsrc':Src P i.size tx x ys.length news w:=by rw[hsz];exact hsrc
 have grown:∀(base:Option Addr) (cap:Nat) (olds:List Value) (H':zc),v=.slice base xs.length cap→(Builtin.firstCells i.size xs.length (.slice base xs.length cap)).run P w.drew=.ok olds.toArray w.drew →
   zy γ w xs.flatten olds→olds.length=xs.length*s1→(∀ y∈xs,y.length=s1)→cap<xs.length+ys.length→zz γ w H' →
   yG H w (H'.upd w.heap.size (.tip (xs.length+ys.length) s1)) →
   K (.sl (.tip w.heap.size 0) s1 (xs++ys.map (·.map AV.strip1))) (H'.upd w.heap.size (.tip (xs.length+ys.length) s1))→o.wp P a w next Q:=by
  intro base cap olds H' hv hold hfr holen hux hlt hs' hkeys hk
  have hr:=run_append_grow_src (P:=P) w t tx o.type e i z ht hi hz base xs.length cap olds hold x ys.length news hsrc' hlt (by simp only[maxLen] at hmax;omega) (growslice_fits hlt (by rw[hby];exact hbytes))
  rw[← hv] at hr
  generalize hcap:grownCap w (xs.length+ys.length) cap e=cap' at hr
  have hge:xs.length+ys.length≤cap':=hcap▸grownCap_ge w _ cap e
  have hle:cap'≤maxLen:=hcap▸grownCap_le_maxLen w _ cap e hmax
  generalize harr:(olds++news).toArray++Builtin.zeroCells z.cells (cap'-(xs.length+ys.length))=arr at hr
  have harrsz:arr.size=cap'*s1:=by
   rw[← harr]
   simp only[Array.size_append,List.size_toArray,Al5,size_zeroCells,hzs,holen,hnl,← Nat.add_mul]
   congr 1
   omega
  have hext:Ext (fun _=>False) γ w (fun b=>if b=w.heap.size then .buf ((xs.length+ys.length)*s1) else γ b) (w.drew.alloc (.cells arr e)) :=
   (Yr (fun _=>False) γ w).trans (Z9 (fun _=>False) γ w.drew (.buf ((xs.length+ys.length)*s1)) arr e) (fun _ _ f=>f)
  have hnewb:(w.drew.alloc (.cells arr e)).heap[w.heap.size]?=some (.cells arr e (0,0)):=heap_alloc_new w.drew _
  have hrel:zy (fun b=>if b=w.heap.size then .buf ((xs.length+ys.length)*s1) else γ b) (w.drew.alloc (.cells arr e)) (xs++ys.map (·.map AV.strip1)).flatten (olds++news):=by
   rw[List.flatten_append]
   have h0:=zy.append hfr hnews'
   exact⟨h0.1,h0.2.1,fun i c u hc hu=>(h0.2.2 i c u hc hu).mono hext.mono⟩
  have hlen:(xs++ys.map (·.map AV.strip1)).length=xs.length+ys.length:=by simp
  have huni:∀ y∈xs++ys.map (·.map AV.strip1),y.length=s1:=fun y hy=>by
   rcases List.mem_append.1 hy with h|h
   ·exact hux y h
   ·exact hys' y h
  refine yU (hexec _ _ hr) (hn _ _ _ _ _ (hext.weaken fun _ f=>f.elim) (zaz (F:=fun _=>False) hs' hext (.tip _ _ arr e (by simp) hnewb (by rw[harrsz];exact Nat.mul_le_mul_right _ hge))) hkeys ?_ hk)
  rw[show (Value.slice (some ⟨w.heap.size,0,none⟩) (xs.length+ys.length) cap')=Value.slice (some ⟨w.heap.size,0,none⟩) (xs++ys.map (·.map AV.strip1)).length cap' from by rw[hlen]]
  refine Rep.sl_flat huni hrel.1 (fun k u hk=>?_) hrel.2.2 (by rw[hlen];exact hge) hle (.inr ⟨by rw[Nat.zero_mul],arr,e,hnewb,by rw[harrsz,Nat.zero_add]⟩)
  have hkl:k<(olds++news).length:=(zaA.1 hk).1
  refine⟨?_,?_,hrel.2.1 k u hk⟩
  ·rw[Nat.zero_add,cell_of_row _ _ _ _ _ _ hnewb,← harr]
   rw[Array.getElem?_append_left (by simpa using hkl)]
   simpa using hk
  ·simp only[zaN,if_true,Nat.zero_add]
   rw[Al5,holen,hnl,← Nat.add_mul] at hkl
   exact hkl
 obtain⟨ad,cap,hv,hcap⟩:=hx.slice_form
 cases own with
 | no=>exact hK.elim
 | nil =>
  obtain⟨hK1,hK2⟩:=hK
  rw[hv] at hx
  cases hx with
  | sl _ _ _ b off _ cv hc hm hu hcell hr ho=>exact ho.elim
  | sl0 _ _ _ ho=>simp at ho
  | slnil _ _ _ =>
   by_cases hy:ys=[]
   ·subst hy
    have hr:=zcw (P:=P) t tx o.type e i ht hi x news hsrc'
    rw[hv] at hexec
    exact yU (hexec _ _ hr) (hn γ w H _ _ (.refl _ _ _) hs (yG.refl _ _) (.slnil .nil _ (by simp)) (hK1 rfl))
   ·have hp:0<ys.length:=List.length_pos_iff.2 hy
    refine grown none 0 [] H hv (run_firstCells_none _ _ _ _ _) ⟨rfl,by simp,by simp⟩ (by simp) (by simp) (by simpa using hp) hs ZB (hK2 hy _ (ZU hs))
 | full =>
  obtain⟨hK1,hK2⟩:=hK
  have hx0:=hx
  rw[hv] at hx
  cases hx with
  | slnil _ _ _ =>
   by_cases hy:ys=[]
   ·subst hy
    have hr:=zcw (P:=P) t tx o.type e i ht hi x news hsrc'
    rw[hv] at hexec
    exact yU (hexec _ _ hr) (hn γ w H _ _ (.refl _ _ _) hs (yG.refl _ _) (.slnil .full _ (by simp)) (hK1 rfl))
   ·have hp:0<ys.length:=List.length_pos_iff.2 hy
    refine grown none 0 [] H hv (run_firstCells_none _ _ _ _ _) ⟨rfl,by simp,by simp⟩ (by simp) (by simp) (by simpa using hp) hs ZB (hK2 hy _ (ZU hs))
  | sl0 _ _ ad _ =>
   by_cases hy:ys=[]
   ·subst hy
    have hnil:news=[]:=List.eq_nil_of_length_eq_zero (by rw[hnl];simp)
    have hr:=zaP (P:=P) t tx o.type e i ht hi ad 0 x news hsrc' hnil
    rw[hv] at hexec hx0
    exact yU (hexec _ _ hr) (hn γ w H _ _ (.refl _ _ _) hs (yG.refl _ _) hx0 (hK1 rfl))
   ·have hp:0<ys.length:=List.length_pos_iff.2 hy
    refine grown (some ad) 0 [] H hv ?_ ⟨rfl,by simp,by simp⟩ (by simp) (by simp) (by simpa using hp) hs ZB (hK2 hy _ (ZU hs))
    exact run_firstCells_some w.drew i.size 0 ad 0 0 [] (by simp) (by simp)
  | sl _ _ _ b off _ cv hc hm hu hcell hr ho =>
   have hfull:xs.length=cap:=ho
   by_cases hy:ys=[]
   ·subst hy
    have hnil:news=[]:=List.eq_nil_of_length_eq_zero (by rw[hnl];simp)
    have hr:=zaP (P:=P) t tx o.type e i ht hi ⟨b,off,none⟩ xs.length x news hsrc' hnil
    rw[hv,← hfull] at hexec
    rw[hv,← hfull] at hx0
    exact yU (hexec _ _ hr) (hn γ w H _ _ (.refl _ _ _) hs (yG.refl _ _) hx0 (hK1 rfl))
   ·have hp:0<ys.length:=List.length_pos_iff.2 hy
    rw[hv] at hx0
    obtain⟨_,_,_,_,_,us,hul,hrow,hrel⟩:=hx0.flat
    have hulen:us.length=xs.length*s1:=by rw[← hul,yZ s1 xs hu]
    refine grown (some ⟨b,off,none⟩) cap us H hv ?_ ⟨hul,fun i u hi=>(hrow i u hi).2.2,hrel⟩ hulen hu (by omega) hs ZB (hK2 hy _ (ZU hs))
    exact run_firstCells_some w.drew i.size xs.length ⟨b,off,none⟩ xs.length cap us (by rw[hsz];exact hulen) (fun j u hj=>by rw[addr_add];exact(hrow j u hj).1)
 | tip b d =>
  obtain⟨hHb,hK2⟩:=hK
  have hx0:=hx
  rw[hv] at hx
  cases hx with
  | slnil _ _ hno=>exact absurd rfl (hno b d)
  | sl0 _ _ _ ho=>simp at ho
  | sl _ _ _ b1 off _ cv hc hm hu hcell hr ho =>
   rw[hv] at hx0
   have hx1:=hx0
   obtain⟨_,_,_,_,_,us,hul,hrow,hrel⟩:=hx0.flat
   have hulen:us.length=xs.length*s1:=by rw[← hul,yZ s1 xs hu]
   by_cases hroom:xs.length+ys.length≤cap
   ·rcases ho with hcap0|⟨hadr,arr,E,hb,hasz⟩
    ·-- nothing there,nothing new
     have hx00:xs.length=0:=by omega
     have hy00:ys.length=0:=by omega
     have hye:ys=[]:=List.eq_nil_of_length_eq_zero hy00
     have hxe:xs=[]:=List.eq_nil_of_length_eq_zero hx00
     subst hye
     subst hxe
     subst hcap0
     have hnil:news=[]:=List.eq_nil_of_length_eq_zero (by rw[hnl];simp)
     have hr:=zaP (P:=P) t tx o.type e i ht hi ⟨b1,off,none⟩ 0 x news hsrc' hnil
     rw[hv] at hexec
     have hup:(H.del b).upd b (.tip (d+(([]:List (List AV)).length+([]:List (List AV)).length)) s1)=H:=by
      funext c
      simp only[zc.upd,zc.del]
      split
      ·rename_i e;subst e;rw[hHb];simp
      ·rfl
     have hk:=hK2 b d (by simp[zc.del])
     rw[hup] at hk
     exact yU (hexec _ _ hr) (hn γ w H _ _ (.refl _ _ _) hs (yG.refl _ _) (by simpa using hx1) hk)
    simp only[Addr.mk.injEq] at hadr
    obtain⟨rfl,rfl,_⟩:=hadr
    have hfit:d*s1+xs.length*i.size+news.length≤arr.size:=by
     rw[hsz,hnl,hasz,← Nat.add_mul,← Nat.add_mul]
     exact Nat.mul_le_mul_right _ (by omega)
    have hrun:=zgM (P:=P) t tx o.type e i ht hi b1 (d*s1) xs.length cap arr E hb x ys.length news hsrc' hroom hfit
    rw[hv] at hexec
    rw[hsz] at hrun
    rw[hsz] at hfit
    generalize hoff:d*s1+xs.length*s1=off at hrun hfit
    generalize hrow':(arr.toList.take off++news++arr.toList.drop (off+news.length)).toArray=arr' at hrun
    have htl:(arr.toList.take off).length=off:=by simp;omega
    have hsz':arr'.size=arr.size:=by
     rw[← hrow']
     simp
     omega
    have hlow:∀ k,k<off→arr'[k]?=arr[k]?:=by
     intro k hk
     rw[← hrow',List.getElem?_toArray,zbM,zcH (by omega),znK,if_pos hk]
     simp
    have hpre:∀ k,k<(us++news).length→arr'[d*s1+k]?=(us++news)[k]?:=by
     intro k hk
     rcases Nat.lt_or_ge k us.length with hku|hku
     ·rw[zcH hku,hlow _ (by omega)]
      have:=(hrow k us[k] (Al9 hku)).1
      rw[cell_of_row w b1 _ arr E _ hb] at this
      rw[Al9 hku,← this]
     ·rw[Al5] at hk
      rw[zfW hku,← hrow',List.getElem?_toArray,zbM,zfW (by omega),htl,zcH (by omega)]
      congr 1
      omega
    have hk:γ b1=.buf ((d+xs.length)*s1):=by
     cases hs b1 _ hHb with
     | tip _ _ _ _ hk _ _=>exact hk
    have hext:Ext (fun c=>c=b1) γ w (fun c=>if c=b1 then .buf ((d+(xs.length+ys.length))*s1) else γ c) (w.setRow b1 arr') :=
     zae hb hsz' rfl (fun q hq=>by
      simp only[zaN,hk] at hq
      rw[Nat.add_mul,hoff] at hq
      refine⟨?_,hlow q hq⟩
      simp only[zaN,if_true]
      rw[Nat.add_mul,Nat.add_mul];omega) (fun c hc=>by simp[hc])
    have hself:=za4 w b1 arr' arr E _ hb
    have hrel':zy (fun c=>if c=b1 then .buf ((d+(xs.length+ys.length))*s1) else γ c) (w.setRow b1 arr') (xs++ys.map (·.map AV.strip1)).flatten (us++news):=by
     rw[List.flatten_append]
     have h0:=zy.append (γ:=γ) (w:=w) ⟨hul,fun i u hi=>(hrow i u hi).2.2,hrel⟩ hnews'
     exact⟨h0.1,h0.2.1,fun i c u hc hu=>(h0.2.2 i c u hc hu).mono hext.mono⟩
    have hlen:(xs++ys.map (·.map AV.strip1)).length=xs.length+ys.length:=by simp
    have huni:∀ y∈xs++ys.map (·.map AV.strip1),y.length=s1:=fun y hy=>by
     rcases List.mem_append.1 hy with h|h
     ·exact hu y h
     ·exact hys' y h
    refine yU (hexec _ _ hrun) (hn _ _ _ _ _ (hext.weaken fun c e=>by subst e;simp[keysOf,hHb])
     (za2 (zhQ hs b1) hext (.tip _ _ arr' E (by simp) hself (by rw[hsz',hasz];exact Nat.mul_le_mul_right _ (by omega)))) (zfx (by simp[hHb]) (.inl rfl)) ?_ (hK2 b1 d (by simp[zc.del])))
    rw[show (Value.slice (some ⟨b1,d*s1,none⟩) (xs.length+ys.length) cap)=Value.slice (some ⟨b1,d*s1,none⟩) (xs++ys.map (·.map AV.strip1)).length cap from by rw[hlen]]
    refine Rep.sl_flat huni hrel'.1 (fun k u hk'=>?_) hrel'.2.2 (by rw[hlen];exact hroom) hm (.inr ⟨rfl,arr',E,hself,by rw[hsz',hasz]⟩)
    have hkl:k<(us++news).length:=(zaA.1 hk').1
    refine⟨?_,?_,hrel'.2.1 k u hk'⟩
    ·rw[cell_of_row _ _ _ _ _ _ hself,hpre k hkl]
     exact hk'
    ·simp only[zaN,if_true]
     rw[Al5,hulen,hnl,← Nat.add_mul] at hkl
     rw[Nat.add_mul]
     omega
   ·have hk3:=hK2 w.heap.size 0 (by
     unfold zc.del;split
     ·rfl
     ·exact ZU hs)
    rw[Nat.zero_add] at hk3
    refine grown (some ⟨b1,off,none⟩) cap us (H.del b) hv ?_ ⟨hul,fun i u hi=>(hrow i u hi).2.2,hrel⟩ hulen hu (by omega) (zhQ hs b) (zfx (by simp[hHb]) (.inr (Al4 _))) hk3
    exact run_firstCells_some w.drew i.size xs.length ⟨b1,off,none⟩ xs.length cap us (by rw[hsz];exact hulen) (fun j u hj=>by rw[addr_add];exact(hrow j u hj).1)
theorem zt1 {P:Program} {o:Oper} {t tx e ex:TypeId} {x y:Operand} {x' y':Opd} {i:TypeInfo} {z:Value} {sz bytes:Nat} (ho:o.op=.call { callee:=.builtin .append,args:=#[x,y],argTypes:=#[t,tx] }) (h:zU x x'=true) (h2:zU y y'=true)
  (ht:P.underlying t=some (.slice e)) (htx:P.underlying tx=some (.slice ex)) (hi:P.info? e=some i) (hz:i.zero=some z) (hsz:i.size=sz) (hby:i.bytes=bytes) (hzs:z.cells.size=sz) (hpos:0<sz):zfs P o (.app sz bytes x' y'):=by
 intro γ w H ρ a K KP next Q he hs hop hn hp
 simp only[aop,AOp.cls,eff] at hop
 have r1:=zx h he
 have r2:=zx h2 he
 cases hx:x'.ev ρ<;>rw[hx] at hop r1<;>try (exact False.elim hop)
 cases hy:y'.ev ρ<;>rw[hy] at hop r2<;>try (exact False.elim hop)
 rename_i own s1 xs own' s2 ys
 have hs2:s2=sz:=hop.2.1
 subst hs2
 obtain⟨news,hsrc,hnews,hys⟩:=zk8 (P:=P) htx r2
 refine zli ht hi hz hsz hby hzs hpos r1 hsrc hnews hys hs hop (fun r w' hr=>?_) hn
 simp[execOp,ho,resolve,invoke,builtin,hr]
def zbG (P:Program) (n:Nat) (e:TypeId) (ks:List K1):Bool :=
 match ks with
 | [k,k']=>decide (n=2)&&decide (k'=k)&&k.isTy P e&&(match P.info? e with|some i=>decide (i.size=1)|none=>false)
 | _=>false
theorem zdb {P:Program} {e:TypeId} (h:(match P.info? e with|some i=>decide (i.size=1)|none=>false)=true) (w:World):(sizeOf e).run P w=.ok 1 w:=by
 cases hi:P.info? e with
 | none=>simp[hi] at h
 | some i =>
  simp only[hi,yX] at h
  simp[sizeOf,typeInfo,Sem.run_bind,hi,h]
theorem zo8:List.range' 0 2 1=[0,1]:=rfl
theorem zlO {P:Program} {w:World} {γ:Gh} {t e:TypeId} {n:Nat} {ks:List K1} {as bs:List AV} {us vs:List Value} (ht:P.underlying t=some (.array n e)) (hk:zbG P n e ks=true) (ha:zZ ks as=true) (hb:zZ ks bs=true)
  (hl:as.length=us.length) (hl':bs.length=vs.length) (hr:∀(i:Nat) (c:AV) (v:Value),as[i]?=some c→us[i]?=some v→Rep γ w c v) (hr':∀(i:Nat) (c:AV) (v:Value),bs[i]?=some c→vs[i]?=some v→Rep γ w c v) (m:Nat) :
  (Op.equalIn (m+2) t (.agg us.toArray) (.agg vs.toArray)).run P w=.ok (zcE as bs) w:=by
 match ks,hk with
 | [k,k'],hk =>
  simp only[zbG,Al0,yX] at hk
  obtain⟨⟨⟨rfl,rfl⟩,hty⟩,hsz⟩:=hk
  match as,us,hl with
  | [a0,a1],[u0,u1],_ =>
   match bs,vs,hl' with
   | [b0,b1],[v0,v1],_ =>
    simp only[zZ,Al0,Bool.and_true] at ha hb
    have r0:=hr 0 a0 u0 rfl rfl
    have r1:=hr 1 a1 u1 rfl rfl
    have s0:=hr' 0 b0 v0 rfl rfl
    have s1:=hr' 1 b1 v1 rfl rfl
    have e0:=zeb hty ha.1 hb.1 r0 s0 m
    have e1:=zeb hty ha.2 hb.2 r1 s1 m
    have p0:(part e #[u0,u1] (0*1)).run P w=.ok u0 w:=by simp[part,ZT hty]
    have p1:(part e #[u0,u1] (1*1)).run P w=.ok u1 w:=by simp[part,ZT hty]
    have q0:(part e #[v0,v1] (0*1)).run P w=.ok v0 w:=by simp[part,ZT hty]
    have q1:(part e #[v0,v1] (1*1)).run P w=.ok v1 w:=by simp[part,ZT hty]
    rw[Op.equalIn]
    simp only[Sem.run_bind,run_underlying ht,Result.andThen_ok,zdb hsz]
    rw[Std.Legacy.Range.forIn_eq_forIn_range']
    simp only[Std.Legacy.Range.size,Nat.sub_zero,Nat.add_one_sub_one,Nat.div_one,zo8,List.forIn_cons,List.forIn_nil,Sem.run_bind,p0,q0,e0,Result.andThen_ok]
    cases h0:a0.keq1 b0
    ·simp[zcE,h0]
    ·simp only[Bool.not_true,Al7,if_false,Sem.run_bind,Sem.run_pure,p1,q1,e1,Result.andThen_ok]
     cases h1:a1.keq1 b1
     ·simp[zcE,h0,h1]
     ·simp[zcE,h0,h1]
   | [],_,_=>simp[zZ] at hb
   | [_],_,_=>simp[zZ] at hb
   | _::_::_::_,_,_=>simp[zZ] at hb
  | [],_,_=>simp[zZ] at ha
  | [_],_,_=>simp[zZ] at ha
  | _::_::_::_,_,_=>simp[zZ] at ha
 | [],hk=>simp[zbG] at hk
 | [_],hk=>simp[zbG] at hk
 | _::_::_::_,hk=>simp[zbG] at hk
def zcz (P:Program) (t:TypeId) (kt:KT):Bool :=
 match kt with
 | .one k=>k.isTy P t
 | .agg ks=>match P.underlying t with
  | some (.struct fs)=>zbi P fs.toList 0 ks&&!P.stoodInHeld t
  | some (.array n e)=>zbG P n e ks
  | _=>false
theorem zhA {c:AV} {v:Value} (h:c.conc1=some v) (γ:Gh) (w:World):Rep γ w c v:=by
 cases c<;>simp only[AV.conc1,Al1] at h<;>try (cases h;done)
 ·subst h;exact .bool _
 ·subst h;exact .int _ _
 ·subst h;exact .str _
theorem znR {c:AV} {v:Value} (h:c.conc1=some v):v.oneCell'=true:=by
 cases c<;>simp only[AV.conc1,Al1] at h<;>first|(cases h;done)|(subst h;rfl)
theorem zie:∀ {cs:List AV} {vs:List Value},za6 cs=some vs→∀(γ:Gh) (w:World),zy γ w cs vs
 | [],vs,h,γ,w=>by simp only[za6,Al1] at h;subst h;exact⟨rfl,by simp,by simp⟩
 | c::cs,vs,h,γ,w=>by
  unfold za6 at h
  cases h1:c.conc1 with
  | none=>simp[h1] at h
  | some v =>
   cases h2:za6 cs with
   | none=>simp[h1,h2] at h
   | some us =>
    simp only[h1,h2,Al1] at h
    subst h
    have ih:=zie h2 γ w
    have hone:zy γ w [c] [v]:=⟨rfl,fun i u hu=>by
     cases i with
     | zero=>simp at hu;subst hu;exact znR h1
     | succ i=>simp at hu,fun i d u hd hu=>by
     cases i with
     | zero=>simp at hd hu;subst hd;subst hu;exact zhA h1 γ w
     | succ i=>simp at hd⟩
    exact hone.append ih
theorem zjq {c:AV} {v:Value} (h:c.conc=some v) (γ:Gh) (w:World):Rep γ w c v:=by
 cases c with
 | agg cs =>
  simp only[AV.conc,zc4] at h
  obtain⟨vs,hvs,rfl⟩:=h
  have:=zie hvs γ w
  exact .agg _ _ this.1 this.2.1 this.2.2
 | _=>(simp only[AV.conc] at h;exact zhA h γ w)
theorem zhP {c:AV} {v:Value} {k:K1} {γ:Gh} {w:World} (hf:k.fits c=true) (h:Rep γ w c v):c.conc1=some v:=by
 cases k<;>cases c<;>simp[K1.fits] at hf<;>cases h<;>rfl
theorem zhK {γ:Gh} {w:World}:∀ {ks:List K1} {cs:List AV} {vs:List Value},zZ ks cs=true→cs.length=vs.length→(∀(i:Nat) (c:AV) (v:Value),cs[i]?=some c→vs[i]?=some v→Rep γ w c v)→za6 cs=some vs
 | _,[],[],_,_,_=>rfl
 | _,[],_::_,_,h,_=>by simp at h
 | _,_::_,[],_,h,_=>by simp at h
 | [],_::_,_::_,h,_,_=>by simp[zZ] at h
 | k::ks,c::cs,v::vs,hf,hl,hr=>by
  simp only[zZ,Al0] at hf
  have h1:=zhP hf.1 (hr 0 c v rfl rfl)
  have h2:=zhK hf.2 (by simpa using hl) (fun i c v hc hv=>hr (i+1) c v (by simpa using hc) (by simpa using hv))
  simp[za6,h1,h2]
theorem zgY {c:AV} {v:Value} {kt:KT} {γ:Gh} {w:World} (hf:kt.fits c=true) (h:Rep γ w c v):c.conc=some v:=by
 cases kt with
 | one k =>
  have:=zhP (k:=k) hf h
  cases c<;>first|exact this|(cases k<;>simp[KT.fits,K1.fits] at hf)
 | agg ks =>
  cases c<;>simp[KT.fits] at hf
  cases h with
  | agg _ vs hl h1 hr=>simp[AV.conc,zhK hf hl hr]
theorem zmz {c d:AV} {k:K1} (h:k.fits c=true):c.keq d=c.keq1 d:=by
 cases k<;>cases c<;>simp[K1.fits] at h<;>cases d<;>rfl
theorem zmR {P:Program} {w:World} {kt:KT} {t:TypeId} {c d:AV} {u v:Value} (hk:zcz P t kt=true) (hc:kt.fits c=true) (hd:kt.fits d=true) (hu:c.conc=some u) (hv:d.conc=some v) :
  (Op.equal t u v).run P w=.ok (c.keq d) w:=by
 have γ:Gh:=fun _=>.imm
 have rc:=zjq hu γ w
 have rd:=zjq hv γ w
 unfold Op.equal Op.maxDepth
 cases kt with
 | one k=>rw[zmz (k:=k) hc];exact zeb hk hc hd rc rd 9999
 | agg ks =>
  cases c<;>simp[KT.fits] at hc
  cases d<;>simp[KT.fits] at hd
  rename_i as bs
  unfold zcz at hk
  simp only at hk
  cases hd':P.underlying t with
  | none=>simp[hd'] at hk
  | some ds =>
   cases ds<;>simp only[hd'] at hk<;>try (cases hk;done)
   case array n e =>
    cases rc with
    | agg _ vs hl h1 hr =>
     cases rd with
     | agg _ us hl' h1' hr'=>exact zlO (m:=9998) hd' hk hc hd hl hl' hr hr'
   rename_i fs
   simp only[Al0,Bool.not_eq_true'] at hk
   cases rc with
   | agg _ vs hl h1 hr =>
    cases rd with
    | agg _ us hl' h1' hr' =>
     have hfo:P.fieldsOf t=fs:=by simp[Program.fieldsOf,hd']
     rw[run_equalIn_struct w 9999 t _ _ (by rw[hfo];exact hd') hk.2,hfo]
     exact zcn (γ:=γ) 9998 _ _ fs.toList 0 ks as bs hk.1 hc hd
      (fun i c hc=>by
       have hi:i<vs.length:=by rw[← hl];exact(zaA.1 hc).1
       exact⟨vs[i],by simp[hi],hr i c _ hc (Al9 hi)⟩)
      (fun i c hc=>by
       have hi:i<us.length:=by rw[← hl'];exact(zaA.1 hc).1
       exact⟨us[i],by simp[hi],hr' i c _ hc (Al9 hi)⟩)
def zaR (es:List (AV×AV)) (k:AV):Option Nat :=
 match es with
 | []=>none
 | (a,_)::r=>if k.keq a then some 0 else (zaR r k).map (·+1)
theorem zcL {P:Program} {w:World} {γ:Gh} {kt:KT} {t:TypeId} {k:AV} {kv:Value} (hk:zcz P t kt=true) (hf:kt.fits k=true) (hkv:k.conc=some kv):∀(es:List (AV×AV)) (cs:List MapEntry) (n:Nat),
  es.length=cs.length→(∀ x∈es,kt.fits x.1=true)→(∀(i:Nat) (x:AV×AV) (e:MapEntry),es[i]?=some x→cs[i]?=some e→EntryRel γ w x e) →
  (Instr.findAsking t kv cs n).run P w=.ok ((zaR es k).map fun i=>(n+i,(cs.getD i default).val)) w
 | [],[],n,_,_,_=>rfl
 | [],_::_,_,h,_,_=>by simp at h
 | _::_,[],_,h,_,_=>by simp at h
 | x::es,e::cs,n,hl,hfit,hr=>by
  have hx:=hr 0 x e rfl rfl
  have he:=zmR (w:=w) hk hf (hfit x (ZI ..)) hkv hx.key
  have ih:=zcL hk hf hkv es cs (n+1) (by simpa using hl) (fun y hy=>hfit y (Z0 _ hy)) (fun i y e' hy he'=>hr (i+1) y e' (by simpa using hy) (by simpa using he'))
  simp only[Instr.findAsking,Sem.run_bind,he,Result.andThen_ok,zaR]
  cases hq:k.keq x.1
  ·simp only[Al7,if_false,ih]
   cases zaR es k with
   | none=>rfl
   | some i=>simp;omega
  ·simp
theorem zj4 {P:Program} {w:World} {t:TypeId} {d:TypeDesc} (hd:P.underlying t=some d) {u v:Value} {b:Bool} (hb:Instr.sameNow d u v=some b):(Op.equal t u v).run P w=.ok b w:=by
 unfold Instr.sameNow at hb
 unfold Op.equal Op.maxDepth
 rw[Op.equalIn]
 split at hb
 ·split at hb
  ·rename_i hkk
   simp only[Al1] at hb
   simp[run_underlying hd,hkk,hb]
  ·cases hb
 ·simp only[Al1] at hb
  simp[run_underlying hd,hb]
 ·simp only[Al1] at hb
  simp[run_underlying hd,hb]
 ·cases hb
theorem zfC {P:Program} {w:World} {γ:Gh} {kt:KT} {t:TypeId} {d:TypeDesc} {k:AV} {kv:Value} (hd:P.underlying t=some d) (hk:zcz P t kt=true) (hf:kt.fits k=true) (hkv:k.conc=some kv):∀(es:List (AV×AV)) (cs:List MapEntry) (n:Nat) (r:Option (Nat×Value)),
  es.length=cs.length→(∀ x∈es,kt.fits x.1=true)→(∀(i:Nat) (x:AV×AV) (e:MapEntry),es[i]?=some x→cs[i]?=some e→EntryRel γ w x e) →
  Instr.findNow d kv cs n=some r→r=(zaR es k).map fun i=>(n+i,(cs.getD i default).val)
 | [],[],n,r,_,_,_,h=>by simp only[Instr.findNow,Al1] at h;subst h;rfl
 | [],_::_,_,_,h,_,_,_=>by simp at h
 | _::_,[],_,_,h,_,_,_=>by simp at h
 | x::es,e::cs,n,r,hl,hfit,hr,h=>by
  have hx:=hr 0 x e rfl rfl
  have he:=zmR (w:=w) hk hf (hfit x (ZI ..)) hkv hx.key
  simp only[Instr.findNow] at h
  have hsame:∀ b,Instr.sameNow d kv e.key=some b→k.keq x.1=b:=by
   intro b hb
   have h2:=zj4 (P:=P) (w:=w) hd hb
   rw[he] at h2
   simpa using h2
  cases hs:Instr.sameNow d kv e.key with
  | none=>simp[hs] at h
  | some b =>
   have hq:=hsame b hs
   cases b
   ·simp only[hs] at h
    have ih:=zfC hd hk hf hkv es cs (n+1) r (by simpa using hl) (fun y hy=>hfit y (Z0 _ hy)) (fun i y e' hy he'=>hr (i+1) y e' (by simpa using hy) (by simpa using he')) h
    rw[ih]
    simp only[zaR,hq,Al7,if_false]
    cases zaR es k with
    | none=>rfl
    | some i=>simp;omega
   ·simp only[hs,Al1] at h
    subst h
    simp[zaR,hq]
theorem zcG {P:Program} {w:World} {γ:Gh} {kt:KT} {t:TypeId} {d:TypeDesc} {k:AV} {kv:Value} (hd:P.underlying t=some d) (hk:zcz P t kt=true) (hf:kt.fits k=true) (hkv:k.conc=some kv) (es:List (AV×AV)) (cs:List MapEntry)
  (hl:es.length=cs.length) (hfit:∀ x∈es,kt.fits x.1=true) (hr:∀(i:Nat) (x:AV×AV) (e:MapEntry),es[i]?=some x→cs[i]?=some e→EntryRel γ w x e) :
  (Instr.findKey t kv cs).run P w=.ok ((zaR es k).map fun i=>(i,(cs.getD i default).val)) w:=by
 unfold Instr.findKey
 rw[Sem.run_bind,run_underlying hd w]
 simp only[Result.andThen_ok]
 cases h:Instr.findNow d kv cs 0 with
 | some r =>
  have:=zfC (γ:=γ) (w:=w) hd hk hf hkv es cs 0 r hl hfit hr h
  simp[this]
 | none =>
  have:=zcL (P:=P) (w:=w) (γ:=γ) hk hf hkv es cs 0 hl hfit hr
  simpa using this
theorem zdX:∀ {es:List (AV×AV)} {k:AV},zaR es k=none→zaO es k=none∧∀ v,zbk es k v=es++[(k,v)]
 | [],_,_=>⟨rfl,fun _=>rfl⟩
 | (a,u)::es,k,h=>by
  unfold zaR at h
  split at h
  ·cases h
  ·rename_i hq
   have ih:=zdX (es:=es) (k:=k) (by simpa using h)
   exact⟨by unfold zaO;simp[hq,ih.1],fun v=>by unfold zbk;simp[hq,ih.2 v]⟩
theorem zd0:∀ {es:List (AV×AV)} {k:AV} {i:Nat},zaR es k=some i→∃ x,es[i]?=some x∧zaO es k=some x.2∧k.keq x.1=true∧∀ v,zbk es k v=es.set i (k,v)
 | [],_,_,h=>by simp[zaR] at h
 | (a,u)::es,k,i,h=>by
  unfold zaR at h
  split at h
  ·rename_i hq
   simp only[Al1] at h
   subst h
   exact⟨(a,u),rfl,by unfold zaO;simp[hq],hq,fun v=>by unfold zbk;simp[hq]⟩
  ·rename_i hq
   simp only[zc4] at h
   obtain⟨j,hj,rfl⟩:=h
   obtain⟨x,h1,h2,h3,h4⟩:=zd0 (es:=es) (k:=k) hj
   exact⟨x,by simpa using h1,by unfold zaO;simp[hq,h2],h3,fun v=>by unfold zbk;simp[hq,h4 v]⟩
theorem zbE {P:Program} {k:K1} {t:TypeId} (h:k.isTy P t=true) (empty:Bool) (n:Nat) (v:Value) (w:World):(Instr.checkKey empty (n+1) t v).run P w=.ok () w:=by
 cases hd:P.underlying t with
 | none=>cases k<;>simp[K1.isTy,hd] at h
 | some d =>
  unfold Instr.checkKey
  rw[Sem.run_bind,run_underlying hd w]
  cases k<;>cases d<;>simp_all [K1.isTy]
theorem zcA {P:Program} {w:World} {empty:Bool} (n:Nat) (xs:Array Value):∀(fs:List Field) (off:Nat) (ks:List K1),zbi P fs off ks=true→off+ks.length≤xs.size →
  (forIn fs PUnit.unit fun f _ => (if f.name ≠ "_" then do
    let __do_lift ← part f.type xs f.offset
    Instr.checkKey empty (n+1) f.type __do_lift
    pure (ForInStep.yield PUnit.unit)
   else pure (ForInStep.yield PUnit.unit):Sem (ForInStep PUnit))).run P w=.ok PUnit.unit w
 | [],_,_,_,_=>by simp
 | _::_,_,[],h,_=>by simp[zbi] at h
 | f::fs,off,k::ks,hf,hl=>by
  simp only[zbi,Al0,bne_iff_ne,ne_eq,beq_iff_eq] at hf
  obtain⟨⟨⟨hname,hoff⟩,hty⟩,hrest⟩:=hf
  simp only[Al2] at hl
  have ih:=zcA (P:=P) (w:=w) (empty:=empty) n xs fs (off+1) ks hrest (by omega)
  have hlt:off<xs.size:=by omega
  have p1:(part f.type xs f.offset).run P w=.ok xs[off] w:=by simp[part,ZT hty,hoff,hlt]
  simp only[List.forIn_cons,ne_eq,hname,not_false_eq_true,if_true,Sem.run_bind,p1,Result.andThen_ok,zbE hty empty n _ w,Sem.run_pure]
  simpa using ih
theorem zbf:∀ {ks:List K1} {cs:List AV},zZ ks cs=true→cs.length=ks.length
 | [],[],_=>rfl
 | [],_::_,h=>by simp[zZ] at h
 | _::_,[],h=>by simp[zZ] at h
 | _::ks,_::cs,h=>by simp only[zZ,Al0] at h;simp[zbf h.2]
theorem zeB {P:Program} {w:World} {γ:Gh} {kt:KT} {t:TypeId} {k:AV} {kv:Value} (hk:zcz P t kt=true) (hf:kt.fits k=true) (hkv:Rep γ w k kv) (empty:Bool):(Instr.checkKey empty 10000 t kv).run P w=.ok () w:=by
 cases kt with
 | one k1=>exact zbE hk empty 9999 kv w
 | agg ks =>
  cases k<;>simp[KT.fits] at hf
  unfold zcz at hk
  simp only at hk
  cases hd:P.underlying t with
  | none=>simp[hd] at hk
  | some ds =>
   cases ds<;>simp only[hd] at hk<;>try (cases hk;done)
   case array n e =>
    match ks,hk with
    | [k,k'],hk =>
     simp only[zbG,Al0,yX] at hk
     obtain⟨⟨⟨rfl,rfl⟩,hty⟩,hsz⟩:=hk
     cases hkv with
     | agg _ vs hl h1 hr =>
      have hlen:=zbf hf
      rw[hl] at hlen
      match vs,hlen with
      | [v0,v1],_ =>
       have p0:(part e #[v0,v1] (0*1)).run P w=.ok v0 w:=by simp[part,ZT hty]
       have p1:(part e #[v0,v1] (1*1)).run P w=.ok v1 w:=by simp[part,ZT hty]
       unfold Instr.checkKey
       rw[Sem.run_bind,run_underlying hd w]
       simp only[Result.andThen_ok]
       rw[Std.Legacy.Range.forIn_eq_forIn_range']
       simp only[Std.Legacy.Range.size,Nat.sub_zero,Nat.add_one_sub_one,Nat.div_one,zo8,List.forIn_cons,List.forIn_nil,Sem.run_bind,zdb hsz,Result.andThen_ok,p0,p1,zbE hty empty 9998 _ w,Sem.run_pure]
    | [],hk=>simp[zbG] at hk
    | [_],hk=>simp[zbG] at hk
    | _::_::_::_,hk=>simp[zbG] at hk
   rename_i cs fs
   simp only[Al0,Bool.not_eq_true'] at hk
   cases hkv with
   | agg _ vs hl h1 hr =>
    unfold Instr.checkKey
    rw[Sem.run_bind,run_underlying hd w]
    simp only[Result.andThen_ok]
    have:=zcA (P:=P) (w:=w) (empty:=empty) 9998 vs.toArray fs.toList 0 ks hk.1 (by simp[← hl,zbf hf])
    rw[← Array.forIn_toList]
    simpa using this
theorem zt8 {P:Program} {o:Oper} {t key elem:TypeId} {m k:Operand} {m' k':Opd} {ok:Bool} {kt:KT} {d:TypeDesc} {ei:TypeInfo} {z:Value} {zero:AV} (ho:o.op=.lookup t m k ok) (hm:zU m m'=true) (hk:zU k k'=true)
  (ht:P.underlying t=some (.map key elem)) (hkt:zcz P key kt=true) (hd:P.underlying key=some d) (hei:P.info? elem=some ei) (hz:ei.zero=some z) (hzero:zp0 z zero=true):zlH P o (.lkp kt zero ok m' k'):=by
 intro γ w H ρ a c he hs hc
 have r1:=zx hm he
 have r2:=zx hk he
 simp only[rev] at hc
 split at hc
 ·rename_i hfit
  have hck:=fun empty=>zeB (P:=P) hkt hfit r2 empty
  have hzr:=zko hzero γ w
  cases hx:m'.ev ρ<;>simp only[hx] at hc r1<;>try (cases hc;done)
  ·simp only[Al1] at hc
   subst hc
   generalize hv:a.eval m=v at r1
   cases r1
   have hfk:(Instr.findKey key (a.eval k) []).run P w=.ok none w:=zcG (γ:=γ) hd hkt hfit (zgY hfit r2) [] [] rfl (by simp) (by simp)
   cases ok with
   | true =>
    refine⟨.tuple #[z,.bool false],?_,?_⟩
    ·simp[execOp,ho,hv,Instr.lookup,run_underlying ht,hck,hfk,zeroValue,typeInfo,hei,hz]
    ·simp only[YB,if_true,Option.getD_none,Option.isSome_none]
     exact .tup _ [z,.bool false] rfl (yn.cons hzr (yn.cons (.bool _) yn.nil)).2
   | false =>
    refine⟨z,?_,?_⟩
    ·simp[execOp,ho,hv,Instr.lookup,run_underlying ht,hck,hfk,zeroValue,typeInfo,hei,hz]
    ·simpa[YB] using hzr
  ·rename_i b
   cases hb:H b with
   | none=>simp[hb] at hc
   | some ob =>
    cases ob<;>simp only[hb] at hc<;>try (cases hc;done)
    rename_i kt' es
    split at hc
    ·rename_i hkk
     subst hkk
     simp only[Al1] at hc
     subst hc
     generalize hv:a.eval m=v at r1
     cases r1
     cases hs b _ hb with
     | map _ _ cs clock hff hgk hbb hl hr =>
      have hfk:=zcG (P:=P) (w:=w) (γ:=γ) hd hkt hfit (zgY hfit r2) es cs hl hff hr
      have hobj:(getObj b).run P w=.ok (.map cs.toArray clock) w:=by simp[getObj,Sem.run,hbb]
      cases hmf:zaR es (k'.ev ρ) with
      | none =>
       have hg:=(zdX hmf).1
       rw[hmf] at hfk
       simp only[Option.map_none] at hfk
       rw[hg]
       cases ok with
       | true =>
        refine⟨.tuple #[z,.bool false],?_,?_⟩
        ·simp[execOp,ho,hv,Instr.lookup,run_underlying ht,hobj,hck,hfk,zeroValue,typeInfo,hei,hz]
        ·simp only[YB,if_true,Option.getD_none,Option.isSome_none]
         exact .tup _ [z,.bool false] rfl (yn.cons hzr (yn.cons (.bool _) yn.nil)).2
       | false =>
        refine⟨z,?_,?_⟩
        ·simp[execOp,ho,hv,Instr.lookup,run_underlying ht,hobj,hck,hfk,zeroValue,typeInfo,hei,hz]
        ·simpa[YB] using hzr
      | some i =>
       obtain⟨x,hxi,hg,_,_⟩:=zd0 hmf
       rw[hmf] at hfk
       simp only[zaF] at hfk
       rw[hg]
       have hi:i<cs.length:=by rw[← hl];exact(zaA.1 hxi).1
       have hci:cs[i]?=some cs[i]:=Al9 hi
       have hgd:(cs.getD i default)=cs[i]:=by simp[List.getD,hci]
       rw[hgd] at hfk
       have hval:=(hr i x _ hxi hci).val
       cases ok with
       | true =>
        refine⟨.tuple #[cs[i].val,.bool true],?_,?_⟩
        ·simp[execOp,ho,hv,Instr.lookup,run_underlying ht,hobj,hck,hfk]
        ·simp only[YB,if_true,Option.getD_some,Option.isSome_some]
         exact .tup _ [cs[i].val,.bool true] rfl (yn.cons hval (yn.cons (.bool _) yn.nil)).2
       | false =>
        refine⟨cs[i].val,?_,?_⟩
        ·simp[execOp,ho,hv,Instr.lookup,run_underlying ht,hobj,hck,hfk]
        ·simpa[YB] using hval
    ·cases hc
 ·cases hc
theorem zhG {k:K1} {c d:AV} (hc:k.fits c=true) (hd:k.fits d=true) (h:c.keq1 d=true):c.conc1=d.conc1:=by
 cases k<;>cases c<;>simp[K1.fits] at hc<;>cases d<;>simp[K1.fits] at hd<;>simp[AV.keq1] at h
 ·subst h;rfl
 ·subst h;rfl
 ·subst h;subst hc;subst hd;rfl
theorem zgz:∀ {ks:List K1} {cs ds:List AV},zZ ks cs=true→zZ ks ds=true→zcE cs ds=true→za6 cs=za6 ds
 | [],[],[],_,_,_=>rfl
 | [],_::_,_,h,_,_=>by simp[zZ] at h
 | [],[],_::_,_,h,_=>by simp[zZ] at h
 | _::_,[],_,h,_,_=>by simp[zZ] at h
 | _::_,_::_,[],_,h,_=>by simp[zZ] at h
 | k::ks,c::cs,d::ds,hc,hd,h=>by
  simp only[zZ,Al0] at hc hd
  simp only[zcE,Al0] at h
  unfold za6
  rw[zhG hc.1 hd.1 h.1,zgz hc.2 hd.2 h.2]
theorem zoz {kt:KT} {c d:AV} (hc:kt.fits c=true) (hd:kt.fits d=true) (h:c.keq d=true):c.conc=d.conc:=by
 cases kt with
 | one k =>
  rw[zmz (k:=k) hc] at h
  have:=zhG (k:=k) hc hd h
  cases k<;>cases c<;>simp[KT.fits,K1.fits] at hc<;>cases d<;>simp[KT.fits,K1.fits] at hd<;>exact this
 | agg ks =>
  cases c<;>simp[KT.fits] at hc
  cases d<;>simp[KT.fits] at hd
  simp only[AV.conc]
  rw[zgz hc hd h]
theorem zdi {c:AV} {v:Value} (h:c.conc1=some v) (n:Nat):Instr.sameBits n v v=true:=by
 cases c<;>simp only[AV.conc1,Al1] at h<;>first|(cases h;done)|(subst h;cases n<;>simp[Instr.sameBits,beq_toListBytes])
theorem zcM:∀ {cs:List AV} {vs:List Value},za6 cs=some vs→∀ n,(vs.zip vs).all (fun(x,y)=>Instr.sameBits n x y)=true
 | [],vs,h,n=>by simp only[za6,Al1] at h;subst h;rfl
 | c::cs,vs,h,n=>by
  unfold za6 at h
  cases h1:c.conc1 with
  | none=>simp[h1] at h
  | some v =>
   cases h2:za6 cs with
   | none=>simp[h1,h2] at h
   | some us =>
    simp only[h1,h2,Al1] at h
    subst h
    simp only[List.zip_cons_cons,List.all_cons,zdi h1 n,Bool.true_and]
    exact zcM h2 n
theorem zhr {c:AV} {v:Value} (h:c.conc=some v):Instr.sameBits 10000 v v=true:=by
 cases c with
 | agg cs =>
  simp only[AV.conc,zc4] at h
  obtain⟨vs,hvs,rfl⟩:=h
  have:=zcM hvs 9999
  show (vs.toArray.size==vs.toArray.size&&(vs.toArray.toList.zip vs.toArray.toList).all fun(x,y)=>Instr.sameBits 9999 x y)=true
  simpa using this
 | _=>(simp only[AV.conc] at h;exact zdi h 10000)
theorem zgp {γ:Gh} {w:World} {b:Nat} {es es':Array MapEntry} {clock clock':Nat} (hb:w.heap[b]?=some (.map es clock)) :
  Ext (fun c=>c=b) γ w γ { w with heap:=w.heap.setIfInBounds b (.map es' clock') }∧({ w with heap:=w.heap.setIfInBounds b (.map es' clock') }:World).heap[b]?=some (.map es' clock'):=by
 have hlt:b<w.heap.size:=(zcC.1 hb).1
 have hother:∀ c,c≠b→(w.heap.setIfInBounds b (.map es' clock'))[c]?=w.heap[c]?:=fun c hc=>by rw[Array.getElem?_setIfInBounds_ne (Ne.symm hc)]
 have hself:(w.heap.setIfInBounds b (.map es' clock'))[b]?=some (.map es' clock'):=by simp[hlt]
 refine⟨⟨⟨by simp,fun c o v hc hp=>⟨hp,?_⟩,fun c arr E fr hc=>?_⟩,rfl,rfl,fun a _=>?_,fun c hc hn=>⟨rfl,hother c hn⟩⟩,hself⟩
 ·have hcb:c≠b:=fun e=>by subst e;simp[World.cell?,hb] at hc
  simp only[World.cell?] at hc ⊢
  rw[hother c hcb];exact hc
 ·have hcb:c≠b:=fun e=>by subst e;rw[hb] at hc;simp at hc
  exact⟨arr,(hother c hcb).trans hc,rfl⟩
 ·by_cases hcb:a.block=b
  ·simp only[World.frozen?,hcb,hself,hb]
  ·simp only[World.frozen?,hother _ hcb]
theorem zpQ {P:Program} {o:Oper} {t key elem:TypeId} {m k x:Operand} {m' k' x':Opd} {kt:KT} {d:TypeDesc} (ho:o.op=.mapUpdate t m k x∨o.op=.insert t m k x) (hm:zU m m'=true) (hk:zU k k'=true) (hx':zU x x'=true)
  (ht:P.underlying t=some (.map key elem)) (hkt:zcz P key kt=true) (hd:P.underlying key=some d):zfs P o (.mup kt m' k' x'):=by
 intro γ w H ρ a K KP next Q he hs hop hn hp
 simp only[aop,AOp.cls,eff] at hop
 have r1:=zx hm he
 have r2:=zx hk he
 have r3:=zx hx' he
 cases hx:m'.ev ρ<;>simp only[hx] at hop r1<;>try (exact False.elim hop)
 rename_i b
 cases hb:H b with
 | none=>simp[hb] at hop
 | some ob =>
  cases ob<;>simp only[hb] at hop<;>try (exact False.elim hop)
  rename_i kt' es
  obtain⟨rfl,hfit,hK⟩:=hop
  have hck:=fun empty=>zeB (P:=P) hkt hfit r2 empty
  have hconc:=zgY hfit r2
  generalize hv:a.eval m=v at r1
  cases r1
  cases hs b _ hb with
  | map _ _ cs clock hff hgk hbb hl hr =>
   have hfk:=zcG (P:=P) (w:=w) (γ:=γ) hd hkt hfit hconc es cs hl hff hr
   have hobj:(getObj b).run P w=.ok (.map cs.toArray clock) w:=by simp[getObj,Sem.run,hbb]
   have hset:∀ es' clock',(setObj b (.map es' clock')).run P w=.ok () { w with heap:=w.heap.setIfInBounds b (.map es' clock') }:=fun es' clock'=>by simp[setObj,Sem.run,hbb]
   have hexec:∀ w',(Instr.mapUpdate t (.map (some b)) (a.eval k) (a.eval x)).run P w=.ok () w'→(execOp a.eval o).run P w=.ok .skip w':=by
    intro w' hr
    rcases ho with ho|ho<;>simp[execOp,ho,hv,hr]
   cases hmf:zaR es (k'.ev ρ) with
   | none =>
    rw[hmf] at hfk
    simp only[Option.map_none] at hfk
    rw[(zdX hmf).2] at hK
    have hrun:(Instr.mapUpdate t (.map (some b)) (a.eval k) (a.eval x)).run P w=.ok () { w with heap:=w.heap.setIfInBounds b (.map (cs++[(⟨a.eval k,a.eval x,clock⟩:MapEntry)]).toArray (clock+1)) }:=by
     simp[Instr.mapUpdate,run_underlying ht,hobj,hck,hfk,hset]
    obtain⟨hext,hself⟩:=zgp (γ:=γ) (es':=(cs++[(⟨a.eval k,a.eval x,clock⟩:MapEntry)]).toArray) (clock':=clock+1) hbb
    refine zdN (hexec _ hrun) (hn _ _ _ _ _ (hext.weaken fun c e=>by subst e;simp[keysOf,hb]) (za2 hs hext (.map kt' _ _ _ (fun y hy=>?_) hgk hself (by simp[hl]) (fun i y e hy he=>?_))) (zaU (by simp[hb])) (.tup [] [] rfl (by simp)) hK)
    ·rcases List.mem_append.1 hy with h|h
     ·exact hff y h
     ·simp at h;subst h;exact hfit
    ·rcases Nat.lt_or_ge i es.length with hi|hi
     ·rw[zcH hi] at hy
      rw[zcH (by omega)] at he
      exact(hr i y e hy he).mono hext.mono
     ·rw[zfW hi] at hy
      rw[zfW (by omega),← hl] at he
      cases hj:i-es.length with
      | zero=>rw[hj] at hy he;simp at hy he;subst hy;subst he;exact⟨hconc,r3.mono hext.mono⟩
      | succ j=>rw[hj] at hy;simp at hy
   | some i =>
    obtain⟨y,hyi,_,hq,hms⟩:=zd0 hmf
    rw[hmf] at hfk
    simp only[zaF] at hfk
    rw[hms] at hK
    have hi:i<cs.length:=by rw[← hl];exact(zaA.1 hyi).1
    have hci:cs[i]?=some cs[i]:=Al9 hi
    have hkey:cs[i].key=a.eval k:=by
     have h1:=(hr i y _ hyi hci).key
     have h2:=zoz hfit (hff y (List.mem_of_getElem? hyi)) hq
     rw[hconc,h1] at h2
     exact(Option.some.inj h2).symm
    have hstay:(Instr.keyThatStays (((cs.toArray[i]?).map (·.key)).getD (a.eval k)) (a.eval k)).run P w=.ok (a.eval k) w:=by
     have e1:((cs.toArray[i]?).map (·.key)).getD (a.eval k)=a.eval k:=by simp[hci,hkey]
     rw[e1]
     simp[Instr.keyThatStays,zhr hconc]
    have hmod:(cs.toArray.modify i fun e=>{ e with key:=a.eval k,val:=a.eval x })=(cs.set i { cs[i] with key:=a.eval k,val:=a.eval x }).toArray:=by
     apply Array.ext'
     apply List.ext_getElem?
     intro j
     simp only[Array.getElem?_toList,Array.getElem?_modify,List.getElem?_set]
     by_cases hij:i=j
     ·subst hij;simp[hi]
     ·simp[hij]
    have hrun:(Instr.mapUpdate t (.map (some b)) (a.eval k) (a.eval x)).run P w=.ok () { w with heap:=w.heap.setIfInBounds b (.map (cs.set i { cs[i] with key:=a.eval k,val:=a.eval x }).toArray clock) }:=by
     simp only[Instr.mapUpdate,Sem.run_bind,run_underlying ht,Result.andThen_ok,hobj,hck,hfk,hstay,hmod,hset]
    obtain⟨hext,hself⟩:=zgp (γ:=γ) (es':=(cs.set i { cs[i] with key:=a.eval k,val:=a.eval x }).toArray) (clock':=clock) hbb
    refine zdN (hexec _ hrun) (hn _ _ _ _ _ (hext.weaken fun c e=>by subst e;simp[keysOf,hb]) (za2 hs hext (.map kt' _ _ _ (fun y hy=>?_) hgk hself (by simp[hl]) (fun j y e hy he=>?_))) (zaU (by simp[hb])) (.tup [] [] rfl (by simp)) hK)
    ·rcases List.mem_or_eq_of_mem_set hy with h|h
     ·exact hff y h
     ·rw[h];exact hfit
    ·rw[List.getElem?_set] at hy he
     by_cases hij:i=j
     ·subst hij
      have hi':i<es.length:=by omega
      simp only[if_true,hi,hi',Al1] at hy he
      subst hy;subst he
      exact⟨hconc,r3.mono hext.mono⟩
     ·simp only[hij,if_false] at hy he
      exact(hr j y e hy he).mono hext.mono
theorem zy.mono {γ γ':Gh} {w w':World} (m:Mono γ w γ' w') {cs:List AV} {vs:List Value} (h:zy γ w cs vs):zy γ' w' cs vs:=⟨h.1,h.2.1,fun i c v hc hv=>(h.2.2 i c v hc hv).mono m⟩
theorem zqW {P:Program} {o:Oper} {t e:TypeId} {n sz:Nat} {parts:Array (Nat×Operand)} {qs:List (Nat×Opd)} {zero:List AV} {ei:TypeInfo} {z:Value} (ho:o.op=.buildSlice t n parts)
  (ht:P.underlying t=some (.slice e)) (hi:P.info? e=some ei) (hz:ei.zero=some z) (hsz:ei.size=sz) (hpos:0<sz) (hsmall:n*sz≤2 ^ 24) (hzero:zbc z.cells.toList zero=true)
  (hparts:Ya parts.toList qs=true):zfs P o (.blsm sz n zero qs):=by
 intro γ w H ρ a K KP next Q he hs hop hn hp
 simp only[aop,AOp.cls,oev,yj] at hop
 by_cases hzl:zero.length=sz
 case neg=>simp only[hzl,if_false] at hop;exact(zd5 hs hop).elim
 simp only[hzl,if_true] at hop
 cases hf:zI AV.strip1 ρ sz (List.replicate n zero) qs with
 | none=>simp only[hf,Option.map_none] at hop;exact(zd5 hs hop).elim
 | some ys =>
  simp only[hf,zaF] at hop
  obtain⟨hz1,hz2,hz3⟩:=zbW hzero γ w
  have huni:∀ x∈List.replicate n zero,x.length=sz:=fun x hx=>by rw[(List.mem_replicate.1 hx).2];exact hzl
  have hfl:(List.replicate n zero).flatten.length=n*sz:=by rw[yZ sz _ huni];simp
  have hzs:z.cells.size=sz:=by have:=hz1;simp at this;omega
  have hstart:zy γ w (List.replicate n zero).flatten ((List.range (n*sz)).map (fun k=>z.cells.toList.getD (k % sz) undef)):=by
   refine⟨by simp[hfl],fun i v hv=>?_,fun i c v hc hv=>?_⟩
   ·simp only[Y5,zc4] at hv
    obtain⟨k,_,rfl⟩:=hv
    have hlt:k % sz<z.cells.toList.length:=by simp[hzs];exact Nat.mod_lt _ hpos
    exact hz2 (k % sz) _ (by rw[List.getD,Al9 hlt];rfl)
   ·simp only[Y5,zc4] at hv
    obtain⟨k,hk,rfl⟩:=hv
    obtain⟨h1,h2⟩:=zaA.1 hk
    simp at h1 h2
    subst h2
    rw[zbv zero n i (by rw[hfl];exact h1),hzl] at hc
    have hlt:i % sz<z.cells.toList.length:=by simp[hzs];exact Nat.mod_lt _ hpos
    exact hz3 (i % sz) c _ hc (by rw[List.getD,Al9 hlt];rfl)
  obtain⟨us,hus,hru,huy,hly⟩:=ze1 zdS he parts.toList qs _ _ ys hparts hf huni hstart
  have hext:=Z9 (fun _=>False) γ w .own us.toArray e
  have hcells:∀ f:Nat→Value,((List.range (n*sz)).map f).toArray=(Array.range (n*sz)).map f:=fun f=>by apply Array.ext';simp
  have hrun:(execOp a.eval o).run P w=.ok (.value (.slice (some ⟨w.heap.size,0,none⟩) n n)) (w.alloc (.cells us.toArray e)):=by
   have hstart':(Array.range (n*sz)).map (z.cells[· % z.cells.size]!)=((List.range (n*sz)).map (fun k=>z.cells.toList.getD (k % sz) undef)).toArray:=by
    rw[hcells]
    apply Array.map_congr_left
    intro k hk
    have hlt:k % sz<z.cells.size:=by rw[hzs];exact Nat.mod_lt _ hpos
    rw[hzs]
    simp[List.getD,hlt]
   have hmap:(parts.map fun(x:Nat×Operand)=>(x.1,a.eval x.2)).toList=parts.toList.map fun(i,x)=>(i,a.eval x):=by simp
   have hnot:¬ n*ei.size > 2 ^ 24:=by rw[hsz];omega
   simp only[execOp,ho,Instr.buildSlice,Sem.run_bind,run_underlying ht,Result.andThen_ok,sizeOf,typeInfo,run_program,hi,Sem.run_pure,hsz,zeroValue,hz]
   rw[hsz] at hnot
   rw[← hstart'] at hus
   by_cases hn:n*sz=0
   ·have h0:∀ f:Nat→Value,(Array.range 0).map f=#[]:=fun f=>by apply Array.ext';simp
    rw[hn,h0] at hus
    simp[hn,h0,hus,newRow]
   ·simp[hn,hnot,hus,newRow,zeroValue,typeInfo,hi,hz]
  have hnm:n≤maxLen:=by
   have:n*1≤n*sz:=Nat.mul_le_mul_left _ hpos
   unfold maxLen;omega
  have hru':=zy.mono hext.mono hru
  exact yU hrun (hn _ _ _ _ _ (hext.weaken fun _ f=>f.elim) (zaz (F:=fun _=>False) hs hext (.cells _ us e (by simp) (heap_alloc_new w _) hru'.1 hru'.2.1 hru'.2.2)) ZB (.ms _ 0 n n (by simp) (Al4 _) hnm) (hop _ (ZU hs)))
def zai (P:Program) (t:TypeId):Option TypeInfo :=
 match P.underlying t with
 | some (.slice e)=>P.info? e
 | _=>none
def y7 (P:Program) (o:Oper):AOp→Bool
 | .mv y=>match o.op with
  | .move x=>zU x y
  | .assign x=>zU x y
  | _=>false
 | .pick a b c=>match o.op with
  | .pick x y z=>zU x a&&zU y b&&zU z c
  | _=>false
 | .nilchk y=>match o.op with
  | .nilCheck x=>zU x y
  | _=>false
 | .bi op k a b=>match o.op with
  | .binOp op' _ x y _=>decide (op'=op)&&decide (op≠.shl)&&decide (op≠.shr)&&zU x a&&zU y b
  | _=>false
 | .shf op a b=>match o.op with
  | .binOp op' _ x y _=>decide (op'=op)&&zU x a&&zU y b
  | _=>false
 | .bs op a b=>match o.op with
  | .binOp op' _ x y _=>decide (op'=op)&&zU x a&&zU y b
  | _=>false
 | .bb neg a b=>match o.op with
  | .binOp op' t x y _=>decide (op'=if neg then .neq else .eql)&&zU x a&&zU y b&&(match P.underlying t with|some .bool=>true|_=>false)
  | _=>false
 | .eqa neg ks a b=>match o.op with
  | .binOp op' t x y _=>decide (op'=if neg then .neq else .eql)&&zU x a&&zU y b&&(match P.underlying t with|some (.struct fs)=>zbi P fs.toList 0 ks|_=>false)&&!P.stoodInHeld t&&!P.eqGuardType P.depth t
  | _=>false
 | .ifnil neg a=>match o.op with
  | .binOp op' t x y _=>decide (op'=if neg then .neq else .eql)&&zU x a&&(match y with|.const .nilIface=>true|_=>false)&&isIface (P.underlying t)
  | _=>false
 | .not a=>match o.op with
  | .unOp .not _ x=>zU x a
  | _=>false
 | .cvi k a=>match o.op with
  | .convert s d x=>zU x a&&(P.underlying s).isSome&&(match P.underlying d with|some (.int k')=>decide (k'=k)|_=>false)
  | _=>false
 | .bld zero qs=>match o.op with
  | .build t parts=>((P.info? t).any fun ti=>ti.zero.any fun z=>zbc z.cells.toList zero)&&((ziX P t).any fun place=>za7 place parts.toList qs)
  | _=>false
 | .bls sz n zero qs=>match o.op with
  | .buildSlice t n' parts=>decide (n'=n)&&((zai P t).any fun ei=>decide (ei.size=sz)&&ei.zero.any fun z=>zbc z.cells.toList zero)&&decide (0<sz)&&decide (n*sz≤2 ^ 24)&&Ya parts.toList qs
  | _=>false
 | .mkfn f first caps=>match o.op with
  | .makeFunc (.func f') a b=>decide (f'=f)&&Y2 a.toList first&&Y2 b.toList caps
  | _=>false
 | .ext a i=>match o.op with
  | .extract x i'=>decide (i'=i)&&zU x a
  | _=>false
 | .fa off a=>match o.op with
  | .fieldAddr s x i=>zU x a&&(match P.underlying s with
    | some (.struct fs)=>(fs[i]?.any fun f=>decide (f.offset=off)&&(P.info? f.type).any fun fi=>decide (fi.size≠0))
    | _=>false)
  | _=>false
 | .ia sz a i=>match o.op with
  | .indexAddr t x y=>zU x a&&zU y i&&((zai P t).any fun ei=>decide (ei.size=sz))
  | _=>false
 | .ixs a i=>match o.op with
  | .index t x y=>zU x a&&zU y i&&(match P.underlying t with|some .string=>true|_=>false)
  | _=>false
 | .sls a lo hi=>match o.op with
  | .slice t x l h none=>zU x a&&zbg l lo&&zbg h hi&&(match P.underlying t with|some .string=>true|_=>false)
  | _=>false
 | .sll sz a lo hi mx=>match o.op with
  | .slice t x l h m=>zU x a&&zbg l lo&&zbg h hi&&zbg m mx&&(!mx.isSome||hi.isSome)&&((zai P t).any fun ei=>decide (ei.size=sz))
  | _=>false
 | .len a=>match o.op with
  | .call { callee:=.builtin .len,args:=as,argTypes:=ts }=>match as.toList with
   | [x]=>zU x a&&(ts[0]?.any fun t=>match P.underlying t with|some (.slice _)=>true|_=>false)
   | _=>false
  | _=>false
 | .lens a=>match o.op with
  | .call { callee:=.builtin .len,args:=as,argTypes:=ts }=>match as.toList with
   | [x]=>zU x a&&(ts[0]?.any fun t=>match P.underlying t with|some .string=>true|_=>false)
   | _=>false
  | _=>false
 | .mm mx a ys=>match o.op with
  | .call { callee:=.builtin b,args:=args,argTypes:=_ }=>decide (b=if mx then .max else .min)&&(match args.toList with|x::r=>zU x a&&Y2 r ys|[]=>false)
  | _=>false
 | .boxv a=>match o.op with
  | .box _ x=>zU x a
  | _=>false
 | .ld n ag a=>match o.op with
  | .load t x=>zU x a&&((P.info? t).any fun ti=>decide (ti.size=n))&&(P.underlying t).isSome&&decide (zeV (P.underlying t)=ag)&&(ag||decide (n=1))
  | _=>false
 | .lkp kt zero ok m k=>match o.op with
  | .lookup t m' k' ok'=>decide (ok'=ok)&&zU m' m&&zU k' k&&(match P.underlying t with
    | some (.map key elem)=>zcz P key kt&&(P.underlying key).isSome&&((P.info? elem).any fun ei=>ei.zero.any fun z=>zp0 z zero)
    | _=>false)
  | _=>false
 | .alloc zero=>match o.op with
  | .alloc t=>((P.info? t).any fun ti=>ti.zero.any fun z=>zbc z.cells.toList zero)
  | _=>false
 | .box a=>match o.op with
  | .box _ x=>zU x a
  | _=>false
 | .mkm _=>match o.op with
  | .makeMap _ none=>true
  | _=>false
 | .st n a b=>match o.op with
  | .store t x y=>zU x a&&zU y b&&((P.info? t).any fun ti=>decide (ti.size=n))
  | _=>false
 | .mup kt m k v=>match o.op with
  | .mapUpdate t m' k' v'=>zU m' m&&zU k' k&&zU v' v&&(match P.underlying t with|some (.map key _)=>zcz P key kt&&(P.underlying key).isSome|_=>false)
  | .insert t m' k' v'=>zU m' m&&zU k' k&&zU v' v&&(match P.underlying t with|some (.map key _)=>zcz P key kt&&(P.underlying key).isSome|_=>false)
  | _=>false
 | .app sz bytes a b=>match o.op with
  | .call { callee:=.builtin .append,args:=as,argTypes:=ts }=>match as.toList,ts.toList with
   | [x,y],[t,tx]=>zU x a&&zU y b&&((zai P t).any fun ei=>decide (ei.size=sz)&&decide (ei.bytes=bytes)&&ei.zero.any fun z=>decide (z.cells.size=sz))&&decide (0<sz)&&(match P.underlying tx with|some (.slice _)=>true|_=>false)
   | _,_=>false
  | _=>false
 | .blsm sz n zero qs=>match o.op with
  | .buildSlice t n' parts=>decide (n'=n)&&((zai P t).any fun ei=>decide (ei.size=sz)&&ei.zero.any fun z=>zbc z.cells.toList zero)&&decide (0<sz)&&decide (n*sz≤2 ^ 24)&&Ya parts.toList qs
  | _=>false
 | .call f args=>match o.op with
  | .call { callee:=.value (.func f'),args:=as,argTypes:=_ }=>decide (f'=f)&&Y2 as.toList args&&Program.callable P f
  | _=>false
 | .callv g args=>match o.op with
  | .call { callee:=.value g',args:=as,argTypes:=_ }=>zU g' g&&Y2 as.toList args
  | _=>false
 | .pan a=>match o.op with
  | .panic x=>zU x a
  | _=>false
theorem Z8 {P:Program} {t:TypeId} {ei:TypeInfo} (h:zai P t=some ei):∃ e,P.underlying t=some (.slice e)∧P.info? e=some ei:=by
 unfold zai at h
 split at h
 ·rename_i e he;exact⟨e,he,h⟩
 ·cases h
theorem yO {α:Type} {x:Option α} {p:α→Bool} (h:x.any p=true):∃ y,x=some y∧p y=true:=by
 cases x with
 | none=>simp at h
 | some y=>exact⟨y,rfl,by simpa using h⟩
theorem zjc {α:Type} {a:Array α} {l:List α} (h:a.toList=l):a=l.toArray:=by
 apply Array.ext';simpa using h
theorem zjr {P:Program} {o:Oper} {ao:AOp} (h:y7 P o ao=true):zfs P o ao:=by
 cases ao with
 | mv y =>
  simp only[y7] at h
  split at h
  ·rename_i ho;exact zS rfl (zse (.inl ho) h)
  ·rename_i ho;exact zS rfl (zse (.inr ho) h)
  ·cases h
 | pick a b c =>
  simp only[y7] at h
  split at h
  ·rename_i ho;simp only[Al0] at h;exact zS rfl (zrd ho h.1.1 h.1.2 h.2)
  ·cases h
 | nilchk y =>
  simp only[y7] at h
  split at h
  ·rename_i ho;exact zS rfl (znS ho h)
  ·cases h
 | bi op k a b =>
  simp only[y7] at h
  split at h
  ·rename_i ho
   simp only[Al0,yX] at h
   obtain⟨⟨⟨⟨rfl,h1⟩,h2⟩,h3⟩,h4⟩:=h
   exact zS rfl (zur ho h3 h4 h1 h2)
  ·cases h
 | shf op a b =>
  simp only[y7] at h
  split at h
  ·rename_i ho
   simp only[Al0,yX] at h
   obtain⟨⟨rfl,h3⟩,h4⟩:=h
   exact zS rfl (ztV ho h3 h4)
  ·cases h
 | bs op a b =>
  simp only[y7] at h
  split at h
  ·rename_i ho
   simp only[Al0,yX] at h
   obtain⟨⟨rfl,h3⟩,h4⟩:=h
   exact zS rfl (zuO ho h3 h4)
  ·cases h
 | bb neg a b =>
  simp only[y7] at h
  split at h
  ·rename_i ho
   simp only[Al0,yX] at h
   obtain⟨⟨⟨h1,h3⟩,h4⟩,h5⟩:=h
   split at h5
   ·rename_i ht;exact zS rfl (zun ho h3 h4 h1 ht)
   ·cases h5
  ·cases h
 | eqa neg ks a b =>
  simp only[y7] at h
  split at h
  ·rename_i ho
   simp only[Al0,yX,Bool.not_eq_true'] at h
   obtain⟨⟨⟨⟨⟨h1,h3⟩,h4⟩,h5⟩,h6⟩,h7⟩:=h
   split at h5
   ·rename_i ht;exact zS rfl (zsK ho h3 h4 h1 ht h5 h6 h7)
   ·cases h5
  ·cases h
 | ifnil neg a =>
  simp only[y7] at h
  split at h
  ·rename_i ho
   simp only[Al0,yX] at h
   obtain⟨⟨⟨h1,h2⟩,h3⟩,h4⟩:=h
   split at h3
   ·exact zS rfl (zo1 ho h1 h2 rfl h4)
   ·cases h3
  ·cases h
 | not a =>
  simp only[y7] at h
  split at h
  ·rename_i ho;exact zS rfl (ztM ho h)
  ·cases h
 | cvi k a =>
  simp only[y7] at h
  split at h
  ·rename_i ho
   simp only[Al0] at h
   obtain⟨⟨h1,h2⟩,h3⟩:=h
   obtain⟨ds,hds⟩:=zjF.1 h2
   split at h3
   ·rename_i hd;simp only[yX] at h3;subst h3;exact zS rfl (ztA ho h1 hds hd)
   ·cases h3
  ·cases h
 | bld zero qs =>
  simp only[y7] at h
  split at h
  ·rename_i ho
   simp only[Al0] at h
   obtain⟨h1,h2⟩:=h
   obtain⟨ti,hti,h1⟩:=yO h1
   obtain⟨z,hz,h1⟩:=yO h1
   obtain⟨pl,hpl,h2⟩:=yO h2
   exact zS rfl (ztJ ho hti hz h1 hpl h2)
  ·cases h
 | bls sz n zero qs =>
  simp only[y7] at h
  split at h
  ·rename_i ho
   simp only[Al0,yX] at h
   obtain⟨⟨⟨⟨rfl,h1⟩,h2⟩,h3⟩,h4⟩:=h
   obtain⟨ei,hei,h1⟩:=yO h1
   simp only[Al0,yX] at h1
   obtain⟨h1,h5⟩:=h1
   obtain⟨z,hz,h5⟩:=yO h5
   obtain⟨e,he,hi⟩:=Z8 hei
   exact zS rfl (ztv ho he hi hz h1 h2 h3 h5 h4)
  ·cases h
 | mkfn f first caps =>
  simp only[y7] at h
  split at h
  ·rename_i ho
   simp only[Al0,yX] at h
   obtain⟨⟨rfl,h1⟩,h2⟩:=h
   exact zS rfl (zql ho h1 h2)
  ·cases h
 | ext a i =>
  simp only[y7] at h
  split at h
  ·rename_i ho
   simp only[Al0,yX] at h
   obtain⟨rfl,h1⟩:=h
   exact zS rfl (zs7 ho h1)
  ·cases h
 | fa off a =>
  simp only[y7] at h
  split at h
  ·rename_i ho
   simp only[Al0] at h
   obtain⟨h1,h2⟩:=h
   split at h2
   ·rename_i fs hfs
    obtain⟨f,hf,h2⟩:=yO h2
    simp only[Al0,yX] at h2
    obtain⟨h2,h3⟩:=h2
    obtain⟨fi,hfi,h3⟩:=yO h3
    exact zS rfl (zuC ho h1 hfs hf h2 hfi (by simpa using h3))
   ·cases h2
  ·cases h
 | ia sz a i =>
  simp only[y7] at h
  split at h
  ·rename_i ho
   simp only[Al0] at h
   obtain⟨⟨h1,h2⟩,h3⟩:=h
   obtain⟨ei,hei,h3⟩:=yO h3
   obtain⟨e,he,hi⟩:=Z8 hei
   exact zS rfl (zuE ho h1 h2 he hi (by simpa using h3))
  ·cases h
 | ixs a i =>
  simp only[y7] at h
  split at h
  ·rename_i ho
   simp only[Al0] at h
   obtain⟨⟨h1,h2⟩,h3⟩:=h
   split at h3
   ·rename_i ht;exact zS rfl (zsF ho h1 h2 ht)
   ·cases h3
  ·cases h
 | sls a lo hi =>
  simp only[y7] at h
  split at h
  ·rename_i ho
   simp only[Al0] at h
   obtain⟨⟨⟨h1,h2⟩,h3⟩,h4⟩:=h
   split at h4
   ·rename_i ht;exact zS rfl (zt2 ho h1 h2 h3 ht)
   ·cases h4
  ·cases h
 | sll sz a lo hi mx =>
  simp only[y7] at h
  split at h
  ·rename_i ho
   simp only[Al0,zhn,Bool.not_eq_true'] at h
   obtain⟨⟨⟨⟨⟨h1,h2⟩,h3⟩,h4⟩,h5⟩,h6⟩:=h
   obtain⟨ei,hei,h6⟩:=yO h6
   obtain⟨e,he,hi⟩:=Z8 hei
   exact zS rfl (ztq ho h1 h2 h3 h4 (fun hs=>by rcases h5 with h5|h5<;>simp_all) he hi (by simpa using h6))
  ·cases h
 | len a =>
  simp only[y7] at h
  split at h
  ·rename_i ho
   split at h
   ·rename_i hl
    simp only[Al0] at h
    obtain⟨h1,h2⟩:=h
    obtain⟨t,ht,h2⟩:=yO h2
    split at h2
    ·rename_i hu;exact zS rfl (zs4 (by rw[ho,zjc hl]) ht h1 hu)
    ·cases h2
   ·cases h
  ·cases h
 | lens a =>
  simp only[y7] at h
  split at h
  ·rename_i ho
   split at h
   ·rename_i hl
    simp only[Al0] at h
    obtain⟨h1,h2⟩:=h
    obtain⟨t,ht,h2⟩:=yO h2
    split at h2
    ·rename_i hu;exact zS rfl (zq2 (by rw[ho,zjc hl]) ht h1 hu)
    ·cases h2
   ·cases h
  ·cases h
 | mm mx a ys =>
  simp only[y7] at h
  split at h
  ·rename_i ho
   simp only[Al0,yX] at h
   obtain⟨rfl,h2⟩:=h
   split at h2
   ·rename_i ha
    simp only[Al0] at h2
    exact zS rfl (zvd ho ha h2.1 h2.2)
   ·cases h2
  ·cases h
 | boxv a =>
  simp only[y7] at h
  split at h
  ·rename_i ho;exact zS rfl (zrc ho h)
  ·cases h
 | ld n ag a =>
  simp only[y7] at h
  split at h
  ·rename_i ho
   simp only[Al0,yX,zhn] at h
   obtain⟨⟨⟨⟨h1,h3⟩,h4⟩,h5⟩,h6⟩:=h
   obtain⟨ti,hti,h3⟩:=yO h3
   obtain⟨d,hd⟩:=zjF.1 h4
   exact zgV rfl (zsm ho h1 hti (by simpa using h3) hd h5 h6)
  ·cases h
 | lkp kt zero ok m k =>
  simp only[y7] at h
  split at h
  ·rename_i ho
   simp only[Al0,yX] at h
   obtain⟨⟨⟨rfl,h1⟩,h2⟩,h3⟩:=h
   split at h3
   ·rename_i ht
    simp only[Al0] at h3
    obtain⟨⟨h3,h4⟩,h5⟩:=h3
    obtain⟨d,hd⟩:=zjF.1 h4
    obtain⟨ei,hei,h5⟩:=yO h5
    obtain⟨z,hz,h5⟩:=yO h5
    exact zgV rfl (zt8 ho h1 h2 ht h3 hd hei hz h5)
   ·cases h3
  ·cases h
 | alloc zero =>
  simp only[y7] at h
  split at h
  ·rename_i ho
   obtain⟨ti,hti,h⟩:=yO h
   obtain⟨z,hz,h⟩:=yO h
   exact zoE ho hti hz h
  ·cases h
 | box a =>
  simp only[y7] at h
  split at h
  ·rename_i ho;exact ztR ho h
  ·cases h
 | mkm kt =>
  simp only[y7] at h
  split at h
  ·rename_i ho;exact ztG ho
  ·cases h
 | st n a b =>
  simp only[y7] at h
  split at h
  ·rename_i ho
   simp only[Al0] at h
   obtain⟨⟨h1,h2⟩,h3⟩:=h
   obtain⟨ti,hti,h3⟩:=yO h3
   exact zuU ho h1 h2 hti (by simpa using h3)
  ·cases h
 | mup kt m k v =>
  simp only[y7] at h
  split at h
  ·rename_i ho
   simp only[Al0] at h
   obtain⟨⟨⟨h1,h2⟩,h3⟩,h4⟩:=h
   split at h4
   ·rename_i ht
    simp only[Al0] at h4
    obtain⟨d,hd⟩:=zjF.1 h4.2
    exact zpQ (.inl ho) h1 h2 h3 ht h4.1 hd
   ·cases h4
  ·rename_i ho
   simp only[Al0] at h
   obtain⟨⟨⟨h1,h2⟩,h3⟩,h4⟩:=h
   split at h4
   ·rename_i ht
    simp only[Al0] at h4
    obtain⟨d,hd⟩:=zjF.1 h4.2
    exact zpQ (.inr ho) h1 h2 h3 ht h4.1 hd
   ·cases h4
  ·cases h
 | blsm sz n zero qs =>
  simp only[y7] at h
  split at h
  ·rename_i ho
   simp only[Al0,yX] at h
   obtain⟨⟨⟨⟨rfl,h1⟩,h2⟩,h3⟩,h4⟩:=h
   obtain⟨ei,hei,h1⟩:=yO h1
   simp only[Al0,yX] at h1
   obtain⟨h1,h5⟩:=h1
   obtain⟨z,hz,h5⟩:=yO h5
   obtain⟨e,he,hi⟩:=Z8 hei
   exact zqW ho he hi hz h1 h2 h3 h5 h4
  ·cases h
 | app sz bytes a b =>
  simp only[y7] at h
  split at h
  ·rename_i ho
   split at h
   ·rename_i hl1 hl2
    simp only[Al0,yX] at h
    obtain⟨⟨⟨⟨h1,h2⟩,h3⟩,h4⟩,h5⟩:=h
    obtain⟨ei,hei,h3⟩:=yO h3
    simp only[Al0,yX] at h3
    obtain⟨⟨h3,h6⟩,h7⟩:=h3
    obtain⟨z,hz,h7⟩:=yO h7
    obtain⟨e,he,hi⟩:=Z8 hei
    split at h5
    ·rename_i htx
     exact zt1 (by rw[ho,zjc hl1,zjc hl2]) h1 h2 he htx hi hz h3 h6 (by simpa using h7) h4
    ·cases h5
   ·cases h
  ·cases h
 | call f args =>
  simp only[y7] at h
  split at h
  ·rename_i ho
   simp only[Al0,yX] at h
   obtain⟨⟨rfl,h1⟩,h2⟩:=h
   exact zru ho h1 h2
  ·cases h
 | callv g args =>
  simp only[y7] at h
  split at h
  ·rename_i ho
   simp only[Al0] at h
   exact zn5 ho h.1 h.2
  ·cases h
 | pan a =>
  simp only[y7] at h
  split at h
  ·rename_i ho;exact zt5 ho h
  ·cases h
abbrev Chk:=Nat×Option (Nat×Bool)×AOp
structure AItem where
 dst:Option Nat
 guard:Option (Nat×Bool)
 op:AOp
 chk:List Nat
def gv (g:Option (Nat×Bool)) (ρ:Env):Option Bool :=
 match g with
 | none=>some true
 | some (s,want)=>match ρ s with
  | .bool b=>some (b==want)
  | .tup []=>some false
  | _=>none
def Zn (ρ:Env) (H:zc):List Chk→Prop
 | []=>True
 | (d,g,o)::r=>(gv g ρ=some true→rev ρ H o=some (ρ d))∧Zn ρ H r
def ZM (P:Program) (KP:AV→zc→Prop) (it:AItem) (R:List Chk) (ρ:Env) (H:zc) (K:Env→zc→Prop):Prop :=
 match gv it.guard ρ with
 | some true=>aop P KP it.op ρ H (fun v H'=>Zn (ρ.set it.dst v) H' R∧K (ρ.set it.dst v) H')
 | some false=>K (ρ.set it.dst (.tup [])) H
 | none=>False
def Zc (P:Program) (KP:AV→zc→Prop):List (AItem×List Chk)→Env→zc→(Env→zc→Prop)→Prop
 | [],ρ,H,K=>K ρ H
 | it::r,ρ,H,K=>ZM P KP it.1 it.2 ρ H (fun ρ' H'=>Zc P KP r ρ' H' K)
def Opd.slots:Opd→List Nat
 | .t n=>[n]
 | .k _=>[]
def zd7:Option Opd→List Nat
 | some x=>x.slots
 | none=>[]
def AOp.looks:AOp→List Nat
 | .mv x|.nilchk x|.ifnil _ x|.not x|.cvi _ x|.ext x _|.fa _ x|.len x|.lens x|.boxv x|.ld _ _ x|.box x|.pan x=>x.slots
 | .pick a b c=>a.slots++b.slots++c.slots
 | .bi _ _ x y|.shf _ x y|.bs _ x y|.bb _ x y|.eqa _ _ x y|.ia _ x y|.ixs x y|.lkp _ _ _ x y|.st _ x y|.app _ _ x y=>x.slots++y.slots
 | .bld _ qs=>qs.flatMap fun q=>q.2.2.slots
 | .bls _ _ _ qs|.blsm _ _ _ qs=>qs.flatMap fun q=>q.2.slots
 | .mkfn _ a b=>a.flatMap Opd.slots++b.flatMap Opd.slots
 | .sls x lo hi=>x.slots++zd7 lo++zd7 hi
 | .sll _ x lo hi mx=>x.slots++zd7 lo++zd7 hi++zd7 mx
 | .mm _ x ys=>x.slots++ys.flatMap Opd.slots
 | .alloc _|.mkm _=>[]
 | .mup _ a b c=>a.slots++b.slots++c.slots
 | .call _ args=>args.flatMap Opd.slots
 | .callv g args=>g.slots++args.flatMap Opd.slots
theorem yr {ρ ρ':Env} {x:Opd} (h:∀ n∈x.slots,ρ n=ρ' n):x.ev ρ=x.ev ρ':=by
 cases x with
 | t n=>exact h n (by simp[Opd.slots])
 | k c=>rfl
theorem zb5 {ρ ρ':Env}:∀ {xs:List Opd},(∀ n∈xs.flatMap Opd.slots,ρ n=ρ' n)→xs.map (Opd.ev ρ)=xs.map (Opd.ev ρ')
 | [],_=>rfl
 | x::xs,h=>by
  simp only[List.flatMap_cons,List.mem_append] at h
  simp only[List.map_cons,yr (fun n hn=>h n (.inl hn)),zb5 (fun n hn=>h n (.inr hn))]
theorem zfH {ρ ρ':Env}:∀ {qs:List (Nat×Nat×Opd)} {cs:List AV},(∀ n∈qs.flatMap (fun q=>q.2.2.slots),ρ n=ρ' n)→zL ρ cs qs=zL ρ' cs qs
 | [],_,_=>rfl
 | (off,n,x)::qs,cs,h=>by
  simp only[List.flatMap_cons,List.mem_append] at h
  simp only[zL,yr (fun n hn=>h n (.inl hn)),zfH (fun n hn=>h n (.inr hn))]
theorem zcJ {S:AV→AV} {ρ ρ':Env} {sz:Nat}:∀ {qs:List (Nat×Opd)} {cs:List (List AV)},(∀ n∈qs.flatMap (fun q=>q.2.slots),ρ n=ρ' n)→zI S ρ sz cs qs=zI S ρ' sz cs qs
 | [],_,_=>rfl
 | (i,x)::qs,cs,h=>by
  simp only[List.flatMap_cons,List.mem_append] at h
  simp only[zI,yr (fun n hn=>h n (.inl hn)),zcJ (fun n hn=>h n (.inr hn))]
theorem zfD {ρ ρ':Env} {mx:Bool} {k:IntKind}:∀ {ys:List Opd} {a:Int},(∀ n∈ys.flatMap Opd.slots,ρ n=ρ' n)→zM mx k ρ a ys=zM mx k ρ' a ys
 | [],_,_=>rfl
 | y::ys,a,h=>by
  simp only[List.flatMap_cons,List.mem_append] at h
  simp only[zM,yr (fun n hn=>h n (.inl hn))]
  split
  ·rw[zfD (fun n hn=>h n (.inr hn))]
  ·rfl
theorem zbq {ρ ρ':Env} {d:Nat} {x:Option Opd} (h:∀ n∈zd7 x,ρ n=ρ' n):bound d ρ x=bound d ρ' x:=by
 cases x with
 | none=>rfl
 | some y=>simp only[bound,yr (x:=y) h]
theorem zib {ρ ρ':Env} {o:AOp} (h:∀ n∈o.looks,ρ n=ρ' n):pev ρ o=pev ρ' o:=by
 cases o<;>simp only[AOp.looks,List.mem_append] at h<;>simp only[pev]
 case pick a b c=>rw[yr (x:=a) (fun n hn=>h n (.inl (.inl hn))),yr (x:=b) (fun n hn=>h n (.inl (.inr hn))),yr (x:=c) (fun n hn=>h n (.inr hn))]
 case bld z qs=>rw[zfH h]
 case bls a b z qs=>rw[zcJ h]
 case mkfn f a b=>rw[zb5 (fun n hn=>h n (.inl hn)),zb5 (fun n hn=>h n (.inr hn))]
 case sls x lo hi=>rw[yr (x:=x) (fun n hn=>h n (.inl (.inl hn))),zbq (x:=lo) (fun n hn=>h n (.inl (.inr hn)))];simp only[zbq (x:=hi) (fun n hn=>h n (.inr hn))]
 case sll s x lo hi mx =>
  rw[yr (x:=x) (fun n hn=>h n (.inl (.inl (.inl hn)))),zbq (x:=lo) (fun n hn=>h n (.inl (.inl (.inr hn))))]
  simp only[zbq (x:=hi) (fun n hn=>h n (.inl (.inr hn)))]
  cases mx with
  | none =>
   split
   ·rename_i o1 s1 xs _
    generalize bound 0 ρ' lo=b1
    generalize bound xs.length ρ' hi=b2
    cases b1<;>cases b2<;>rfl
   ·rfl
   ·rfl
  | some m =>
   have hm:=yr (x:=m) (fun n hn=>h n (.inr (show n∈zd7 (some m) from hn)))
   split
   ·rename_i o1 s1 xs _
    generalize bound 0 ρ' lo=b1
    generalize bound xs.length ρ' hi=b2
    cases b1<;>cases b2<;>first|rfl|(show (match m.ev ρ with|.int _ m=>_|_=>_)=_;rw[hm]<;>rfl)
   ·rfl
   ·rfl
 case mm mx x ys=>rw[yr (x:=x) (fun n hn=>h n (.inl hn))];simp only[zfD (fun n hn=>h n (.inr hn))]
 all_goals first
  | rfl
  | (rw[yr h];done)
  | (rename_i x y;rw[yr (x:=x) (fun n hn=>h n (.inl hn)),yr (x:=y) (fun n hn=>h n (.inr hn))];done)
theorem zbS {ρ ρ':Env} {H:zc} {o:AOp} (h:∀ n∈o.looks,ρ n=ρ' n):rev ρ H o=rev ρ' H o:=by
 cases o<;>simp only[AOp.looks,List.mem_append] at h<;>simp only[rev]
 all_goals first
  | (rw[yr h];done)
  | (rename_i x y;rw[yr (x:=x) (fun n hn=>h n (.inl hn)),yr (x:=y) (fun n hn=>h n (.inr hn))];done)
theorem zdj {ρ ρ':Env} {o:AOp} (h:∀ n∈o.looks,ρ n=ρ' n):oev ρ o=oev ρ' o:=by
 cases o<;>simp only[AOp.looks,List.mem_append] at h<;>simp only[oev]
 case blsm a b z qs=>rw[zcJ h]
 all_goals (rw[yr h])
theorem zcf {ρ ρ':Env} {b:Nat} {o:AOp} (h:∀ n∈o.looks,ρ n=ρ' n):yj ρ b o=yj ρ' b o:=by
 cases o<;>simp only[AOp.looks,List.mem_append] at h<;>simp only[yj]
 all_goals (rw[yr h])
theorem zh1 {P:Program} {KP:AV→zc→Prop} {ρ ρ':Env} {H:zc} {K:AV→zc→Prop} {o:AOp} (h:∀ n∈o.looks,ρ n=ρ' n):eff P KP ρ H K o=eff P KP ρ' H K o:=by
 cases o<;>simp only[AOp.looks,List.mem_append] at h<;>simp only[eff]
 case mup kt a b c=>rw[yr (x:=a) (fun n hn=>h n (.inl (.inl hn))),yr (x:=b) (fun n hn=>h n (.inl (.inr hn))),yr (x:=c) (fun n hn=>h n (.inr hn))]
 case call f args=>rw[zb5 h]
 case callv g args=>rw[yr (x:=g) (fun n hn=>h n (.inl hn)),zb5 (fun n hn=>h n (.inr hn))]
 all_goals first
  | (rw[yr h];done)
  | (rename_i x y;rw[yr (x:=x) (fun n hn=>h n (.inl hn)),yr (x:=y) (fun n hn=>h n (.inr hn))];done)
theorem znJ {P:Program} {KP:AV→zc→Prop} {ρ ρ':Env} {H:zc} {K:AV→zc→Prop} {o:AOp} (h:∀ n∈o.looks,ρ n=ρ' n):aop P KP o ρ H K=aop P KP o ρ' H K:=by
 unfold aop
 rw[zib h,zbS h,zdj h,zh1 h]
 simp only[zcf h]
theorem zj.monoEnd {P:Program} {f:FuncId} {args:List AV} {H:zc} {K K' KP:AV→zc→Prop} (hk:∀ v H',K v H'→K' v H') (h:zj P f args H (ZP K KP)):zj P f args H (ZP K' KP) :=
 h.mono fun r H' hr=>by cases r<;>first|exact hk _ _ hr|exact hr
theorem znE {sz bytes:Nat} {x y:AV} {H:zc} {K K':AV→zc→Prop} (hk:∀ v H',K v H'→K' v H') (h:zkZ sz bytes x y H K):zkZ sz bytes x y H K':=by
 cases x<;>try (exact False.elim h)
 cases y<;>try (exact False.elim h)
 rename_i o s1 xs o2 s2 ys
 obtain⟨h1,h2,h3,h4,h5⟩:=h
 refine⟨h1,h2,h3,h4,?_⟩
 cases o with
 | no=>exact h5
 | nil=>exact⟨fun e=>hk _ _ (h5.1 e),fun e b hb=>hk _ _ (h5.2 e b hb)⟩
 | full=>exact⟨fun e=>hk _ _ (h5.1 e),fun e b hb=>hk _ _ (h5.2 e b hb)⟩
 | tip b d=>exact⟨h5.1,fun b' d' hb=>hk _ _ (h5.2 b' d' hb)⟩
theorem zjE {P:Program} {KP:AV→zc→Prop} {ρ:Env} {H:zc} {K K':AV→zc→Prop} {o:AOp} (hk:∀ v H',K v H'→K' v H') (h:eff P KP ρ H K o):eff P KP ρ H K' o:=by
 cases o<;>simp only[eff] at h ⊢<;>try (exact False.elim h)
 case st n x y =>
  cases hx:x.ev ρ<;>simp only[hx] at h ⊢<;>try (exact False.elim h)
  rename_i b off
  cases hb:H b with
  | none=>simp[hb] at h
  | some ob =>
   cases ob<;>simp only[hb] at h ⊢<;>try (exact False.elim h)
   exact⟨h.1,h.2.1,h.2.2.1,hk _ _ h.2.2.2⟩
 case mup kt m k v =>
  cases hx:m.ev ρ<;>simp only[hx] at h ⊢<;>try (exact False.elim h)
  rename_i b
  cases hb:H b with
  | none=>simp[hb] at h
  | some ob =>
   cases ob<;>simp only[hb] at h ⊢<;>try (exact False.elim h)
   exact⟨h.1,h.2.1,hk _ _ h.2.2⟩
 case app sz by' x y=>exact znE hk h
 case call f args=>exact zj.monoEnd hk h
 case callv g args =>
  cases hg:g.ev ρ<;>simp only[hg] at h ⊢<;>try (exact False.elim h)
  exact⟨h.1,zj.monoEnd hk h.2⟩
 case pan x =>
  cases hx:x.ev ρ<;>simp only[hx] at h ⊢<;>try (exact False.elim h)
  exact h
theorem zgH {P:Program} {KP:AV→zc→Prop} {o:AOp} {ρ:Env} {H:zc} {K K':AV→zc→Prop} (hk:∀ v H',K v H'→K' v H') (h:aop P KP o ρ H K):aop P KP o ρ H K':=by
 unfold aop at *
 cases hc:o.cls<;>simp only[hc] at h ⊢
 ·cases hv:pev ρ o<;>simp only[hv] at h ⊢;· exact hk _ _ h
 ·cases hv:rev ρ H o<;>simp only[hv] at h ⊢;· exact hk _ _ h
 ·cases hv:oev ρ o<;>simp only[hv] at h ⊢
  ·exact h
  ·exact fun b hb=>hk _ _ (h b hb)
 ·exact zjE hk h
theorem zdf {P:Program} {KP:AV→zc→Prop} {it:AItem} {R R':List Chk} {ρ:Env} {H:zc} {K K':Env→zc→Prop} (hr:∀ ρ' H',Zn ρ' H' R→Zn ρ' H' R') (hk:∀ ρ' H',K ρ' H'→K' ρ' H') (h:ZM P KP it R ρ H K):ZM P KP it R' ρ H K':=by
 unfold ZM at *
 split at h
 ·exact zgH (fun v H' hh=>⟨hr _ _ hh.1,hk _ _ hh.2⟩) h
 ·exact hk _ _ h
 ·exact h
def zd3 (g:Option (Nat×Bool)):List Nat :=
 match g with
 | none=>[]
 | some (s,_)=>[s]
def AItem.looks (it:AItem):List Nat:=zd3 it.guard++it.op.looks
theorem zeO {ρ ρ':Env} {g:Option (Nat×Bool)} (h:∀ n∈zd3 g,ρ n=ρ' n):gv g ρ=gv g ρ':=by
 cases g with
 | none=>rfl
 | some p=>simp only[gv,h p.1 (by simp[zd3])]
theorem yV {ρ:Env} {d:Option Nat} {c:AV} {l:List Nat} (h:∀ x,d=some x→x ∉ l):∀ n∈l,(ρ.set d c) n=ρ n:=by
 intro n hn
 cases d with
 | none=>rfl
 | some x =>
  have:n≠x:=fun e=>h x rfl (e▸hn)
  simp[Env.set,this]
theorem zop (ρ:Env) {d e:Option Nat} (c u:AV) (h:∀ x,d=some x→e≠some x):(ρ.set d c).set e u=(ρ.set e u).set d c:=by
 cases d with
 | none=>rfl
 | some x =>
  cases e with
  | none=>rfl
  | some y =>
   have hne:x≠y:=fun he=>h x rfl (he▸rfl)
   funext n
   simp only[Env.set]
   by_cases h1:n=y
   ·subst h1;simp[Ne.symm hne]
   ·by_cases h2:n=x
    ·subst h2;simp[hne]
    ·simp[h1,h2]
def zax (c:Chk):List Nat:=c.1::zd3 c.2.1++c.2.2.looks
theorem zbN {ρ ρ':Env} {H:zc}:∀ {R:List Chk},(∀ c∈R,∀ n∈zax c,ρ n=ρ' n)→Zn ρ H R→Zn ρ' H R
 | [],_,_=>trivial
 | (d,g,o)::R,h,hr=>by
  have h0:=h (d,g,o) (ZI ..)
  simp only[zax,List.mem_cons,List.mem_append] at h0
  refine⟨fun hg=>?_,zbN (fun c hc=>h c (Z0 _ hc)) hr.2⟩
  rw[← zeO (fun n hn=>h0 n (.inl (.inr hn)))] at hg
  have:=hr.1 hg
  rw[zbS (fun n hn=>h0 n (.inr hn)),h0 d (.inl (.inl rfl))] at this
  exact this
def AItem.apart (x i : AItem) : Bool :=
  (match x.dst with
   | some d => !(i.looks).contains d && i.dst != some d
   | none => true) &&
  (match i.dst with
   | some d => !(x.looks).contains d
   | none => true)
theorem apart_spec {x i:AItem} (h:x.apart i=true):(∀ d,x.dst=some d→d ∉ i.looks)∧(∀ d,x.dst=some d→i.dst≠some d)∧(∀ d,i.dst=some d→d ∉ x.looks):=by
 refine⟨fun d hd=>?_,fun d hd=>?_,fun d hd=>?_⟩<;>simp[AItem.apart,hd] at h
 ·exact h.1.1
 ·exact h.1.2
 ·exact h.2
instance:BEq Cls:=⟨fun a b=>decide (a=b)⟩
def zca (x i:AItem):Bool :=
 match x.op.cls,i.op.cls with
 | .pure,_=>true
 | .read,.pure|.read,.read|.read,.alloc=>true
 | .read,.eff=>true
 | .alloc,.alloc=>i.guard.isNone
 | .eff,.alloc=>i.guard.isNone&&(match i.op with|.alloc _|.mkm _=>true|_=>false)
 | _,_=>false
theorem zhU {ρ:Env} {H:zc} {b:Nat} {ob:AObj} {o:AOp} {v:AV} (hb:H b=none) (h:rev ρ H o=some v):rev ρ (H.upd b ob) o=some v:=by
 cases o<;>simp only[rev] at h ⊢<;>try (cases h;done)
 case ld n ag x =>
  cases hx:x.ev ρ<;>simp only[hx] at h ⊢<;>try (cases h;done)
  ·rename_i b' off
   have hne:b'≠b:=fun e=>by subst e;simp[hb] at h
   simp only[zc.upd,hne,if_false]
   exact h
  ·exact h
 case lkp kt zero ok m k =>
  split at h
  ·rename_i hf
   simp only[hf,if_true]
   cases hx:m.ev ρ<;>simp only[hx] at h ⊢<;>try (cases h;done)
   ·exact h
   ·rename_i b'
    have hne:b'≠b:=fun e=>by subst e;simp[hb] at h
    simp only[zc.upd,hne,if_false]
    exact h
  ·cases h
def zhv (KP:AV→zc→Prop):Prop:=∀ v H b o,H b=none→KP v H→KP v (H.upd b o)
theorem zb2 (H:zc) {b c:Nat} (x y:AObj) (h:b≠c):(H.upd b x).upd c y=(H.upd c y).upd b x:=by
 funext n
 simp only[zc.upd]
 by_cases h1:n=c
 ·subst h1;simp[Ne.symm h]
 ·by_cases h2:n=b
  ·subst h2;simp[h]
  ·simp[h1,h2]
theorem zh0 (H:zc) (b:Nat) (o:AObj) (h:H b=none):zc.union H (zc.one b o)=H.upd b o:=by
 funext n
 simp only[zc.union,zc.one,zc.upd]
 by_cases h1:n=b
 ·subst h1;simp[h]
 ·simp[h1]
theorem zj.beside {P:Program} {f:FuncId} {args:List AV} {H:zc} {K KP:AV→zc→Prop} {b:Nat} {o:AObj} (hb:H b=none) (hKP:zhv KP) (h:zj P f args H (ZP K KP)) :
  zj P f args (H.upd b o) (ZP (fun v H'=>∃ H0,H0 b=none∧H'=H0.upd b o∧K v H0) KP):=by
 have hd:zc.Disj H (zc.one b o):=fun c=>by
  by_cases hc:c=b
  ·subst hc;exact .inl hb
  ·exact .inr (by simp[zc.one,hc])
 rw[← zh0 H b o hb]
 refine(h.frame hd).mono fun r H' ⟨A',hq,hdis,he⟩=>?_
 have hA:A' b=none:=by
  rcases hdis b with h1|h1
  ·exact h1
  ·simp[zc.one] at h1
 rw[zh0 A' b o hA] at he
 subst he
 cases r with
 | ret v=>exact⟨A',hA,rfl,hq⟩
 | pan v=>exact hKP v A' b o hA hq
theorem zkr {sz bytes:Nat} {x y:AV} {H:zc} {K:AV→zc→Prop} {b:Nat} {o:AObj} (hb:H b=none) (h:zkZ sz bytes x y H K) :
  zkZ sz bytes x y (H.upd b o) (fun v H'=>∃ H0,H0 b=none∧H'=H0.upd b o∧K v H0):=by
 cases x<;>try (exact False.elim h)
 cases y<;>try (exact False.elim h)
 rename_i ow s1 xs o2 s2 ys
 obtain⟨h1,h2,h3,h4,h5⟩:=h
 refine⟨h1,h2,h3,h4,?_⟩
 have fresh:∀ b2,(H.upd b o) b2=none→b2≠b∧H b2=none:=fun b2 h2=>by
  have hne:b2≠b:=fun e=>by subst e;simp[zc.upd] at h2
  exact⟨hne,by simpa[zc.upd,hne] using h2⟩
 cases ow with
 | no=>exact h5
 | nil=>exact⟨fun e=>⟨H,hb,rfl,h5.1 e⟩,fun e b2 hb2=>by
   obtain⟨hne,hn⟩:=fresh b2 hb2
   exact⟨_,by simp[zc.upd,Ne.symm hne,hb],zb2 H _ _ (Ne.symm hne),h5.2 e b2 hn⟩⟩
 | full=>exact⟨fun e=>⟨H,hb,rfl,h5.1 e⟩,fun e b2 hb2=>by
   obtain⟨hne,hn⟩:=fresh b2 hb2
   exact⟨_,by simp[zc.upd,Ne.symm hne,hb],zb2 H _ _ (Ne.symm hne),h5.2 e b2 hn⟩⟩
 | tip b1 d =>
  obtain⟨h6,h7⟩:=h5
  have hne:b1≠b:=fun e=>by subst e;simp[hb] at h6
  refine⟨by simp[zc.upd,hne,h6],fun b2 d2 hb2=>?_⟩
  have hne2:b2≠b:=fun e=>by subst e;simp[zc.del,zc.upd,Ne.symm hne] at hb2
  have hn:(H.del b1) b2=none:=by
   unfold zc.del at hb2 ⊢
   split
   ·rfl
   ·rename_i hh;simpa[hh,zc.upd,hne2] using hb2
  refine⟨_,?_,?_,h7 b2 d2 hn⟩
  ·simp[zc.upd,zc.del,Ne.symm hne2,hb]
  ·rw[← zb2 _ _ _ (Ne.symm hne2)]
   congr 1
   funext n
   simp only[zc.del,zc.upd]
   by_cases e1:n=b1
   ·subst e1;simp[hne]
   ·simp[e1]
theorem zk6 {P:Program} {KP:AV→zc→Prop} {ρ:Env} {H:zc} {K:AV→zc→Prop} {x:AOp} {b:Nat} {o:AObj} (hb:H b=none) (hKP:zhv KP) (h:eff P KP ρ H K x) :
  eff P KP ρ (H.upd b o) (fun v H'=>∃ H0,H0 b=none∧H'=H0.upd b o∧K v H0) x:=by
 cases x<;>simp only[eff] at h ⊢<;>try (exact False.elim h)
 case st n x y =>
  cases hx:x.ev ρ<;>simp only[hx] at h ⊢<;>try (exact False.elim h)
  rename_i b1 off
  have hne:b1≠b:=fun e=>by subst e;simp[hb] at h
  have e1:(H.upd b o) b1=H b1:=by simp[zc.upd,hne]
  rw[e1]
  cases hb1:H b1 with
  | none=>simp[hb1] at h
  | some ob =>
   cases ob<;>simp only[hb1] at h ⊢<;>try (exact False.elim h)
   exact⟨h.1,h.2.1,h.2.2.1,_,by simp[zc.upd,Ne.symm hne,hb],zb2 H _ _ (Ne.symm hne),h.2.2.2⟩
 case mup kt m k v =>
  cases hx:m.ev ρ<;>simp only[hx] at h ⊢<;>try (exact False.elim h)
  rename_i b1
  have hne:b1≠b:=fun e=>by subst e;simp[hb] at h
  have e1:(H.upd b o) b1=H b1:=by simp[zc.upd,hne]
  rw[e1]
  cases hb1:H b1 with
  | none=>simp[hb1] at h
  | some ob =>
   cases ob<;>simp only[hb1] at h ⊢<;>try (exact False.elim h)
   exact⟨h.1,h.2.1,_,by simp[zc.upd,Ne.symm hne,hb],zb2 H _ _ (Ne.symm hne),h.2.2⟩
 case app sz by' x y=>exact zkr hb h
 case call f args=>exact zj.beside hb hKP h
 case callv g args =>
  cases hg:g.ev ρ<;>simp only[hg] at h ⊢<;>try (exact False.elim h)
  exact⟨h.1,zj.beside hb hKP h.2⟩
 case pan x =>
  cases hx:x.ev ρ<;>simp only[hx] at h ⊢<;>try (exact False.elim h)
  exact hKP _ _ _ _ hb h
theorem zj1 {P:Program} {KP:AV→zc→Prop} {o:AOp} {ρ:Env} {H:zc} {K K':AV→zc→Prop} (hne:o.cls≠.eff)
  (hk:∀ v H',(H'=H∨∃ b ob,H b=none∧H'=H.upd b ob)→K v H'→K' v H') (h:aop P KP o ρ H K):aop P KP o ρ H K':=by
 unfold aop at *
 cases hc:o.cls<;>simp only[hc] at h ⊢
 ·cases hv:pev ρ o<;>simp only[hv] at h ⊢;· exact hk _ _ (.inl rfl) h
 ·cases hv:rev ρ H o<;>simp only[hv] at h ⊢;· exact hk _ _ (.inl rfl) h
 ·cases hv:oev ρ o<;>simp only[hv] at h ⊢
  ·exact h
  ·exact fun b hb=>hk _ _ (.inr ⟨b,_,hb,rfl⟩) (h b hb)
 ·exact absurd hc hne
theorem zdI {ρ:Env} {H:zc} {b:Nat} {ob:AObj} (hb:H b=none):∀ {R:List Chk},Zn ρ H R→Zn ρ (H.upd b ob) R
 | [],_=>trivial
 | (_,_,_)::_,hr=>⟨fun hg=>zhU hb (hr.1 hg),zdI hb hr.2⟩
def val (ρ:Env) (H:zc) (o:AOp):Option AV :=
 match o.cls with
 | .pure=>pev ρ o
 | .read=>rev ρ H o
 | _=>none
theorem zmj {P:Program} {KP:AV→zc→Prop} {o:AOp} {ρ:Env} {H:zc} {K:AV→zc→Prop} (hc:o.cls=.pure∨o.cls=.read):aop P KP o ρ H K↔∃ v,val ρ H o=some v∧K v H:=by
 unfold aop val
 rcases hc with hc|hc<;>simp only[hc]
 ·cases pev ρ o<;>simp
 ·cases rev ρ H o<;>simp
def entry (x:AItem):List Chk :=
 match x.dst with
 | some d=>[(d,x.guard,x.op)]
 | none=>[]
def zah (x i:AItem):List Chk:=if x.op.cls=.read∧i.op.cls=.eff then entry x else []
theorem zcQ {ρ:Env} {H:zc}:∀ {A B:List Chk},Zn ρ H (A++B)→Zn ρ H B
 | [],_,h=>h
 | (_,_,_)::_,_,h=>zcQ h.2
theorem zco.upd {H:zc} (h:zco H) (b:Nat) (o:AObj):zco (H.upd b o):=by
 obtain⟨n,h⟩:=h
 refine⟨n,fun c hc=>?_⟩
 unfold zc.upd
 split
 ·simp
 ·exact h c hc
theorem zco.of_upd {H:zc} {b:Nat} {o:AObj} (h:zco (H.upd b o)):zco H:=by
 obtain⟨n,h⟩:=h
 refine⟨max n (b+1),fun c hc=>?_⟩
 have:=h c (by omega)
 have hne:c≠b:=by omega
 simpa[zc.upd,hne] using this
theorem swap {P:Program} {KP:AV→zc→Prop} (hKP:zhv KP) {x i:AItem} {cx:List Chk} (hap:x.apart i=true) (hsw:zca x i=true) (hself:x.op.cls=.read→∃ d,x.dst=some d∧d ∉ x.looks) (hchk:x.op.cls≠.eff→cx=[])
  (hchk2:∀ c∈cx,∀ d,i.dst=some d→d ∉ zax c) {R:List Chk} (hR:∀ c∈R,∀ d,x.dst=some d→d ∉ zax c) (hRe:i.op.cls≠.eff→R=[]) {ρ:Env} {H:zc} {K:Env→zc→Prop}
  (h:ZM P KP x cx ρ H (fun ρ1 H1=>ZM P KP i (zah x i++R) ρ1 H1 K)):ZM P KP i R ρ H (fun ρ2 H2=>ZM P KP x cx ρ2 H2 K):=by
 obtain⟨a1,a2,a3⟩:=apart_spec hap
 have a1g:∀ d,x.dst=some d→d ∉ zd3 i.guard:=fun d hd hm=>a1 d hd (zaW _ hm)
 have a1o:∀ d,x.dst=some d→d ∉ i.op.looks:=fun d hd hm=>a1 d hd (List.mem_append_right _ hm)
 have a3g:∀ d,i.dst=some d→d ∉ zd3 x.guard:=fun d hd hm=>a3 d hd (zaW _ hm)
 have a3o:∀ d,i.dst=some d→d ∉ x.op.looks:=fun d hd hm=>a3 d hd (List.mem_append_right _ hm)
 have gi:∀ c,gv i.guard (ρ.set x.dst c)=gv i.guard ρ:=fun c=>zeO (yV a1g)
 have gx:∀ c,gv x.guard (ρ.set i.dst c)=gv x.guard ρ:=fun c=>zeO (yV a3g)
 have comm:∀ c u,(ρ.set x.dst c).set i.dst u=(ρ.set i.dst u).set x.dst c:=fun c u=>zop ρ c u a2
 have oi:∀ c H' (K':AV→zc→Prop),aop P KP i.op (ρ.set x.dst c) H' K'=aop P KP i.op ρ H' K':=fun c H' K'=>znJ (yV a1o)
 have Rback:∀ c u H',Zn ((ρ.set x.dst c).set i.dst u) H' R→Zn (ρ.set i.dst u) H' R:=fun c u H' hr=>by
  rw[comm] at hr
  exact zbN (fun e he n hn=>yV (fun d hd=>hR e he d hd) n hn) hr
 unfold ZM at h
 cases hg:gv x.guard ρ with
 | none=>simp[hg] at h
 | some b =>
  cases b with
  | false =>
   simp only[hg] at h
   unfold ZM
   rw[gi] at h
   cases hgi:gv i.guard ρ with
   | none=>simp[hgi] at h
   | some b =>
    cases b with
    | false =>
     simp only[hgi] at h ⊢
     rw[gx,hg]
     rw[comm] at h
     exact h
    | true =>
     simp only[hgi] at h ⊢
     rw[oi] at h
     refine zgH (fun v H' hh=>⟨?_,?_⟩) h
     ·exact Rback (.tup []) v H' (zcQ hh.1)
     ·rw[gx,hg]
      rw[comm] at hh
      exact hh.2
  | true =>
   simp only[hg] at h
   by_cases hcls:x.op.cls=.pure∨x.op.cls=.read
   ·have hne:x.op.cls≠.eff:=by rcases hcls with e|e<;>rw[e]<;>simp
    have hnil:=hchk hne
    rw[hnil] at h
    rw[zmj hcls] at h
    obtain⟨v,hv,_,h⟩:=h
    unfold ZM
    rw[gi] at h
    have hx:∀ u H',(x.op.cls=.read→rev ρ H' x.op=some v)→K ((ρ.set i.dst u).set x.dst v) H'→ZM P KP x cx (ρ.set i.dst u) H' K:=by
     intro u H' hr hk
     unfold ZM
     rw[gx,hg,hnil]
     simp only
     rw[zmj hcls]
     refine⟨v,?_,trivial,hk⟩
     unfold val at hv ⊢
     rcases hcls with e|e<;>simp only[e] at hv ⊢
     ·rw[zib (yV a3o)];exact hv
     ·rw[zbS (yV a3o)];exact hr e
    have hvr:x.op.cls=.read→rev ρ H x.op=some v:=fun e=>by simpa[val,e] using hv
    cases hgi:gv i.guard ρ with
    | none=>simp[hgi] at h
    | some b =>
     cases b with
     | false =>
      simp only[hgi] at h ⊢
      rw[comm] at h
      exact hx _ _ hvr h
     | true =>
      simp only[hgi] at h ⊢
      rw[oi] at h
      by_cases hie:i.op.cls=.eff
      ·refine zgH (fun u H' hh=>?_) h
       rcases hcls with e|e
       ·have hn:zah x i=[]:=by simp[zah,e]
        rw[hn] at hh
        refine⟨Rback v u H' hh.1,hx u H' (fun e'=>by rw[e] at e';cases e') (by rw[← comm];exact hh.2)⟩
       ·obtain⟨d,hd,hds⟩:=hself e
        have hn:zah x i=[(d,x.guard,x.op)]:=by simp[zah,e,hie,entry,hd]
        rw[hn] at hh
        obtain⟨⟨h1,h2⟩,h3⟩:=hh
        refine⟨Rback v u H' h2,hx u H' (fun _=>?_) (by rw[← comm];exact h3)⟩
        have hgg:gv x.guard ((ρ.set x.dst v).set i.dst u)=some true:=by
         rw[← hg]
         rw[comm]
         rw[zeO (yV (l:=zd3 x.guard) fun d' hd' hm=>by rw[hd] at hd';cases hd';exact hds (zaW _ hm))]
         exact gx u
        have h4:=h1 hgg
        have e1:((ρ.set x.dst v).set i.dst u) d=v:=by
         rw[comm,hd];simp[Env.set]
        rw[e1] at h4
        rw[comm] at h4
        rw[zbS (yV (l:=x.op.looks) fun d' hd' hm=>by rw[hd] at hd';cases hd';exact hds (List.mem_append_right _ hm))] at h4
        rw[zbS (yV a3o)] at h4
        exact h4
      ·have hn:zah x i=[]:=by simp[zah,hie]
       rw[hn] at h
       refine zj1 hie (fun u H' hH' hh=>⟨Rback v u H' hh.1,hx u H' (fun e=>?_) (by rw[← comm];exact hh.2)⟩) h
       rcases hH' with rfl|⟨b,ob,hb,rfl⟩
       ·exact hvr e
       ·exact zhU hb (hvr e)
   ·by_cases hal:x.op.cls=.alloc
    ·-- two new objects
     have hia:i.op.cls=.alloc:=by
      unfold zca at hsw
      cases hc2:i.op.cls<;>simp_all
     have hgn:i.guard=none:=by
      unfold zca at hsw
      simp only[hal,hia] at hsw
      simpa using hsw
     have hxe:x.op.cls≠.eff:=by rw[hal];simp
     have hie:i.op.cls≠.eff:=by rw[hia];simp
     have hnil:=hchk hxe
     subst hnil
     have hRn:=hRe hie
     subst hRn
     have hn:zah x i=[]:=by simp[zah,hie]
     have gvn:∀ ρ',gv i.guard ρ'=some true:=fun ρ'=>by rw[hgn];rfl
     unfold ZM
     simp only[gvn]
     simp only[hn,List.append_nil,ZM,gvn] at h
     unfold aop at h
     simp only[hal,hia] at h
     have hxo:∀ u,oev (ρ.set i.dst u) x.op=oev ρ x.op:=fun u=>zdj (yV a3o)
     have hio:∀ u,oev (ρ.set x.dst u) i.op=oev ρ i.op:=fun u=>zdj (yV a1o)
     have hxp:∀ u b,yj (ρ.set i.dst u) b x.op=yj ρ b x.op:=fun u b=>zcf (yV a3o)
     have hip:∀ u b,yj (ρ.set x.dst u) b i.op=yj ρ b i.op:=fun u b=>zcf (yV a1o)
     simp only[hio,hip] at h
     unfold aop
     simp only[hal,hia,gx,hg,hxo,hxp]
     cases hox:oev ρ x.op with
     | none =>
      simp only[hox] at h ⊢
      cases hoi:oev ρ i.op with
      | none=>exact h
      | some oi'=>exact fun b hb=>⟨trivial,h.upd _ _⟩
     | some ox =>
      simp only[hox] at h ⊢
      cases hoi:oev ρ i.op with
      | none =>
       simp only[hoi] at h ⊢
       by_cases hf:∃ b,H b=none
       ·obtain⟨b,hb⟩:=hf
        exact(h b hb).2.of_upd
       ·exact⟨0,fun b _ hb=>hf ⟨b,hb⟩⟩
      | some oi' =>
       simp only[hoi] at h ⊢
       intro bi hbi
       refine⟨trivial,fun bx hbx=>⟨trivial,?_⟩⟩
       have hne:bx≠bi:=fun e=>by subst e;simp[zc.upd] at hbx
       have hbx':H bx=none:=by simpa[zc.upd,hne] using hbx
       have h2:=((h bx hbx').2 bi (by simp[zc.upd,Ne.symm hne,hbi])).2
       rw[comm,zb2 H _ _ hne] at h2
       exact h2
    have hxe:x.op.cls=.eff∧i.op.cls=.alloc:=by
     unfold zca at hsw
     cases hc1:x.op.cls<;>cases hc2:i.op.cls<;>simp_all
    obtain⟨hxe,hia⟩:=hxe
    have hn:zah x i=[]:=by simp[zah,hxe]
    have hie:i.op.cls≠.eff:=by rw[hia];simp
    have hRn:=hRe hie
    subst hRn
    have hgn:i.guard=none:=by
     unfold zca at hsw
     simp only[hxe,hia,Al0] at hsw
     simpa using hsw.1
    have hsome:∃ ob,oev ρ i.op=some ob:=by
     unfold zca at hsw
     simp only[hxe,hia,Al0] at hsw
     have h2:=hsw.2
     cases hio:i.op<;>simp only[hio] at h2<;>first|(cases h2;done)|exact⟨_,rfl⟩
    obtain⟨ob,hob⟩:=hsome
    have gvn:∀ ρ',gv i.guard ρ'=some true:=fun ρ'=>by rw[hgn];rfl
    unfold ZM
    simp only[gvn,hn,zc8] at h ⊢
    unfold aop at h
    simp only[hxe,hia] at h
    unfold aop
    simp only[hia,hob]
    intro b hb
    refine⟨trivial,?_⟩
    rw[gx,hg]
    simp only[hxe]
    have h1:=zk6 (o:=ob) hb hKP h
    rw[zh1 (ρ:=ρ.set i.dst (yj ρ b i.op)) (yV a3o)]
    refine zjE (fun v H' hh=>?_) h1
    obtain⟨H0,hH0,rfl,hr,hk⟩:=hh
    have hob':oev (ρ.set x.dst v) i.op=some ob:=by rw[zdj (yV a1o)];exact hob
    simp only[hob'] at hk
    have hk2:=(hk b hH0).2
    rw[zcf (ρ:=ρ.set x.dst v) (ρ':=ρ) (yV a1o)] at hk2
    rw[← comm]
    exact⟨zbN (fun c hc n hn=>(yV (fun d hd=>hchk2 c hc d hd) n hn).symm) (zdI hH0 hr),hk2⟩
structure Fx where
 N:Nat
 lo:Nat
 T:Array Value
 D:List Deferred
 rf:Bool:=false
 keep:List (Nat×Obj):=[]
 base:Nat:=0
def Fx.plain (N:Nat):Fx:=⟨N,0,#[],[],false,[],0⟩
def Fx.marks (N base:Nat):Fx:=⟨N,0,#[],[],true,[],base⟩
def zuu (b:Nat):Deferred:=⟨.collected b,#[]⟩
structure DfOk (F:Fx) (w:World) (H:zc) (ds:List Deferred):Prop where
 eq:∃ bs:List Nat,ds=bs.map zuu++F.D∧bs.Nodup∧(F.rf=false→bs=[])∧∀ b∈bs,F.base≤b∧H b=none∧w.heap[b]?=some (.deferred (some []))
 keep:∀ x∈F.keep,H x.1=none∧w.heap[x.1]?=some x.2
theorem zik {γ γ':Gh} {w w':World} {H H':zc} (hext:Ext (keysOf H) γ w γ' w') (hk:yG H w H') {b:Nat} {o:Obj} (h:H b=none∧w.heap[b]?=some o):H' b=none∧w'.heap[b]?=some o:=by
 have hlt:=(zcC.1 h.2).1
 refine⟨?_,(hext.frame b hlt (by simp[keysOf,h.1])).2.trans h.2⟩
 cases hb:H' b with
 | none=>rfl
 | some x =>
  rcases hk b (by simp[hb]) with h1|h1
  ·simp[h.1] at h1
  ·omega
theorem DfOk.step {F:Fx} {γ γ':Gh} {w w':World} {H H':zc} {ds:List Deferred} (h:DfOk F w H ds) (hext:Ext (keysOf H) γ w γ' w') (hk:yG H w H'):DfOk F w' H' ds :=
 ⟨let ⟨bs,h1,h2,h3,h4⟩:=h.eq;⟨bs,h1,h2,h3,fun b hb=>⟨(h4 b hb).1,zik hext hk (h4 b hb).2⟩⟩,fun x hx=>zik hext hk (h.keep x hx)⟩
theorem DfOk.plain {F:Fx} {w:World} {H:zc} {ds:List Deferred} (h:DfOk F w H ds) (hf:F.rf=false):ds=F.D:=by
 obtain⟨bs,h1,_,h3,_⟩:=h.eq
 rw[h1,h3 hf];rfl
theorem DfOk.init {F:Fx} {w:World} {H:zc} (hk:F.keep=[]):DfOk F w H F.D :=
 ⟨⟨[],rfl,List.nodup_nil,fun _=>rfl,fun b hb=>by cases hb⟩,fun x hx=>by rw[hk] at hx;cases hx⟩
structure SInv (γ0:Gh) (w0:World) (H0:zc) (F:Fx) (γ:Gh) (w:World) (H:zc) (ρ:Env) (a:Act):Prop where
 ext:Ext (keysOf H0) γ0 w0 γ w
 st:zz γ w H
 keys:yG H0 w0 H
 env:EnvRel γ w ρ a.tmps
 sz:a.tmps.size=F.N
 fx:∀ n,n<F.lo→a.tmps.getD n undef=F.T.getD n undef
 df:DfOk F w H a.defers
def zbw (N lo : Nat) (ops : Array Oper) (P : Program) (o : Oper) (it : AItem) : Bool :=
  decide (o.dst = it.dst) && (match it.dst with | some d => decide (lo ≤ d) && decide (d < N) | none => true) &&
  (match o.guard, it.guard with
   | none, none => true
   | some (j, want), some (s, want') => decide (want = want') && decide ((ops[j]?).bind (·.dst) = some s)
   | _, _ => false) && y7 P o it.op
theorem znc {γ:Gh} {w:World} {ρ:Env} {a:Act} {ops:Array Oper} {o:Oper} {it:AItem} (he:EnvRel γ w ρ a.tmps)
  (hg:(match o.guard,it.guard with
   | none,none=>true
   | some (j,want),some (s,want')=>decide (want=want')&&decide ((ops[j]?).bind (·.dst)=some s)
   | _,_=>false)=true) {b:Bool} (h:gv it.guard ρ=some b):Region.wanted o (yielded ops a.tmps)=b:=by
 cases hog:o.guard with
 | none =>
  cases hig:it.guard with
  | some p=>simp[hog,hig] at hg
  | none=>rw[hig] at h;simp only[gv,Al1] at h;subst h;simp[Region.wanted,hog]
 | some jw =>
  obtain⟨j,want⟩:=jw
  cases hig:it.guard with
  | none=>simp[hog,hig] at hg
  | some p =>
   obtain⟨s,want'⟩:=p
   simp only[hog,hig,Al0,yX] at hg
   obtain⟨rfl,hd⟩:=hg
   rw[hig] at h
   simp only[gv] at h
   have hr:=he.rep s
   have hy:∀ v,a.tmps.getD s undef=v→v≠undef→a.tmps[s]?=some v:=by
    intro v hv hne
    cases hs:a.tmps[s]? with
    | none=>simp[zjh,hs] at hv;exact absurd hv.symm hne
    | some u=>simp[zjh,hs] at hv;rw[hv]
   cases hρ:ρ s<;>simp only[hρ] at h hr<;>try (cases h;done)
   ·rename_i b'
    simp only[Al1] at h
    subst h
    generalize hv:a.tmps.getD s undef=v at hr
    cases hr
    have:=hy _ hv (by simp[undef])
    simp[Region.wanted,hog,yielded,hd,this]
   ·rename_i vs
    cases vs with
    | cons c r=>simp at h
    | nil =>
     simp only[Al1] at h
     subst h
     generalize hv:a.tmps.getD s undef=v at hr
     cases hr with
     | tup _ us hl _ =>
      cases us with
      | cons u r=>simp at hl
      | nil =>
       have:yielded ops a.tmps j=none:=by
        unfold yielded
        rw[hd]
        simp only[Option.bind_some]
        cases hs:a.tmps[s]? with
        | none=>rfl
        | some u=>simp[zjh,hs] at hv;rw[hv]
       simp[Region.wanted,hog,this]
theorem zqX {γ:Gh} {w:World} {ρ:Env} {tmps:Array Value} {N:Nat} (he:EnvRel γ w ρ tmps) (hs:tmps.size=N) {d:Option Nat} (hd:∀ x,d=some x→x<N) {c:AV} {v:Value} (hr:Rep γ w c v) (a:Act) (ha:a.tmps=tmps) :
  EnvRel γ w (ρ.set d c) (a.put d v).tmps:=by
 cases d with
 | none=>subst ha;exact he
 | some x =>
  subst ha
  refine⟨he.tab,fun n=>?_⟩
  simp only[Env.set,Act.put]
  have hx:=hd x rfl
  by_cases hn:n=x
  ·subst hn
   simp only[if_true]
   have:(a.tmps.setIfInBounds n v).getD n undef=v:=by
    simp[zjh,hs,hx]
   rw[this];exact hr
  ·simp only[hn,if_false]
   have:(a.tmps.setIfInBounds x v).getD n undef=a.tmps.getD n undef:=by
    simp only[zjh,Array.getElem?_setIfInBounds_ne (Ne.symm hn)]
   rw[this];exact he.rep n
theorem zoZ (a:Act) (d:Option Nat) (v:Value):(a.put d v).tmps.size=a.tmps.size:=by cases d<;>simp[Act.put]
theorem ztj {F:Fx} {a:Act} (h:∀ n,n<F.lo→a.tmps.getD n undef=F.T.getD n undef) {d:Option Nat} (hd:∀ x,d=some x→F.lo≤x∧x<F.N) (v:Value):∀ n,n<F.lo→(a.put d v).tmps.getD n undef=F.T.getD n undef:=by
 intro n hn
 cases d with
 | none=>exact h n hn
 | some x =>
  have hx:=(hd x rfl).1
  have:(a.tmps.setIfInBounds x v).getD n undef=a.tmps.getD n undef:=by
   simp only[zjh,Array.getElem?_setIfInBounds_ne (show x≠n by omega)]
  simp only[Act.put]
  rw[this];exact h n hn
theorem put_defers (a:Act) (d:Option Nat) (v:Value):(a.put d v).defers=a.defers:=by cases d<;>rfl
theorem zdG {H0 H H':zc} {w0 w:World} (h:yG H0 w0 H) (hs:w0.heap.size≤w.heap.size) (h':yG H w H'):yG H0 w0 H':=fun b hb=>by
 rcases h' b hb with h1|h1
 ·exact h b h1
 ·exact .inr (by omega)
theorem SInv.step {γ0:Gh} {w0:World} {H0:zc} {F:Fx} {γ γ':Gh} {w w':World} {H H':zc} {ρ:Env} {a:Act} (h:SInv γ0 w0 H0 F γ w H ρ a) (hext:Ext (keysOf H) γ w γ' w') (hst:zz γ' w' H') (hk:yG H w H')
  {d:Option Nat} (hd:∀ x,d=some x→F.lo≤x∧x<F.N) {c:AV} {v:Value} (hr:Rep γ' w' c v):SInv γ0 w0 H0 F γ' w' H' (ρ.set d c) (a.put d v) :=
 ⟨h.ext.trans hext (fun b hb hb'=>by
   rcases h.keys b hb' with h1|h1
   ·exact h1
   ·omega),hst,zdG h.keys h.ext.mono.size hk,zqX (h.env.mono hext.mono) h.sz (fun x hx=>(hd x hx).2) hr a rfl,by rw[zoZ];exact h.sz,ztj h.fx hd v,by rw[put_defers];exact h.df.step hext hk⟩
def zdE (γ0:Gh) (w0:World) (H0:zc) (F:Fx) (KP:AV→zc→Prop) (ch:List PanicEntry) (a:Act) (w:World):Prop :=
 ∃ γ H c v,ch=[{ v,recovered:=false }]∧Ext (keysOf H0) γ0 w0 γ w∧zz γ w H∧yG H0 w0 H∧Rep γ w c v∧KP c H∧za8 γ w∧a.tmps.size=F.N∧(∀ n,n<F.lo→a.tmps.getD n undef=F.T.getD n undef)∧DfOk F w H a.defers
theorem zhd {P:Program} {γ0:Gh} {w0:World} {H0:zc} {F:Fx} {KP:AV→zc→Prop} {ops:Array Oper} {i:Nat} {o:Oper} {it:AItem} {R:List Chk} {K:Env→zc→Prop} {next:Act→World→Prop} {Q:Exit→Act→World→Prop}
  (hQ:∀ ch a w,zdE γ0 w0 H0 F KP ch a w→Q (.panic ch) a w) (hi:ops[i]?=some o) (hc:zbw F.N F.lo ops P o it=true) {γ:Gh} {w:World} {H:zc} {ρ:Env} {a:Act} (h:SInv γ0 w0 H0 F γ w H ρ a) (hs:ZM P KP it R ρ H K)
  (hn:∀ γ' w' H' ρ' a',SInv γ0 w0 H0 F γ' w' H' ρ' a'→K ρ' H'→next a' w'):wpOp P ops Q i next a w:=by
 simp only[zbw,Al0,yX] at hc
 obtain⟨⟨⟨hd,hb⟩,hg⟩,hop⟩:=hc
 have hdN:∀ x,it.dst=some x→F.lo≤x∧x<F.N:=fun x hx=>by rw[hx] at hb;simpa using hb
 unfold wpOp
 simp only[hi]
 unfold ZM at hs
 cases hgv:gv it.guard ρ with
 | none=>simp[hgv] at hs
 | some b =>
  have hw:=znc (ops:=ops) (o:=o) h.env hg hgv
  rw[hw]
  cases b with
  | false =>
   simp only[hgv] at hs
   simp only[Al7,if_false]
   rw[hd]
   exact hn _ _ _ _ _ (h.step (.refl _ _ _) h.st (yG.refl _ _) hdN (.tup [] [] rfl (by simp))) hs
  | true =>
   simp only[hgv] at hs
   simp only[if_true]
   refine .inl (zjr hop γ w H ρ a _ KP next Q h.env h.st hs (fun γ' w' H' c v hext hst hk hr hK=>?_) (fun γ' w' H' c v hext hst hk hr hK=>hQ _ _ _ ⟨γ',H',c,v,rfl,?_,hst,zdG h.keys h.ext.mono.size hk,hr,hK,h.env.tab.mono hext.mono,h.sz,h.fx,h.df.step hext hk⟩))
   ·rw[hd]
    exact hn _ _ _ _ _ (h.step hext hst hk hdN hr) hK.2
   ·exact h.ext.trans hext (fun b hb hb'=>by
     rcases h.keys b hb' with h1|h1
     ·exact h1
     ·omega)
theorem zfy {P:Program} {γ0:Gh} {w0:World} {H0:zc} {F:Fx} {KP:AV→zc→Prop} {ops:Array Oper} {Q:Exit→Act→World→Prop} {K:Env→zc→Prop}
  (hQ:∀ ch a w,zdE γ0 w0 H0 F KP ch a w→Q (.panic ch) a w) (hK:∀ γ w H ρ a,SInv γ0 w0 H0 F γ w H ρ a→K ρ H→Q .normal a w) :
  ∀(l:List Nat) (its:List (AItem×List Chk)),l.length=its.length→(∀(k i:Nat) (it:AItem×List Chk),l[k]?=some i→its[k]?=some it→∃ o,ops[i]?=some o∧zbw F.N F.lo ops P o it.1=true) →
  ∀(γ:Gh) (w:World) (H:zc) (ρ:Env) (a:Act),SInv γ0 w0 H0 F γ w H ρ a→Zc P KP its ρ H K→wpOps P ops Q l a w
 | [],[],_,_,γ,w,H,ρ,a,h,hs=>hK γ w H ρ a h hs
 | [],_::_,hl,_,_,_,_,_,_,_,_=>by simp at hl
 | _::_,[],hl,_,_,_,_,_,_,_,_=>by simp at hl
 | i::l,it::its,hl,hc,γ,w,H,ρ,a,h,hs=>by
  rw[wpOps_cons]
  obtain⟨o,ho,hco⟩:=hc 0 i it rfl rfl
  unfold Zc at hs
  exact zhd hQ ho hco h hs fun γ' w' H' ρ' a' h' hs'=>zfy hQ hK l its (by simpa using hl) (fun k i it hk hit=>hc (k+1) i it (by simpa using hk) (by simpa using hit)) γ' w' H' ρ' a' h' hs'
def zay (x i:AItem×List Chk):Bool :=
 x.1.apart i.1&&zca x.1 i.1&&(x.1.op.cls != .read||(match x.1.dst with|some d=>!x.1.looks.contains d|none=>false))&&(x.1.op.cls==.eff||x.2.isEmpty) &&
 (match i.1.dst with|some d=>x.2.all fun c=>!(zax c).contains d|none=>true)&&(i.1.op.cls==.eff||i.2.isEmpty)
def zlv (x i:AItem×List Chk):Prop:=∀ c∈zah x.1 i.1,c∈i.2
theorem zkx {ρ:Env} {H:zc} {A:List Chk} (h:Zn ρ H A):∀ {B:List Chk},(∀ c∈B,c∈A)→Zn ρ H B:=by
 have mem:∀ {A:List Chk},Zn ρ H A→∀ c∈A,(gv c.2.1 ρ=some true→rev ρ H c.2.2=some (ρ c.1)):=by
  intro A
  induction A with
  | nil=>intro _ c hc;cases hc
  | cons x A ih =>
   obtain⟨d,g,o⟩:=x
   intro h c hc
   rcases List.mem_cons.1 hc with e|e
   ·subst e;exact h.1
   ·exact ih h.2 c e
 intro B
 induction B with
 | nil=>intro _;trivial
 | cons x B ih =>
  obtain⟨d,g,o⟩:=x
  intro hB
  exact⟨mem h (d,g,o) (hB _ (ZI ..)),ih fun c hc=>hB c (Z0 _ hc)⟩
theorem zjT {x y:AItem} (h:x.apart y=true∨True):∀ c∈entry x,∀ n∈zax c,x.dst=some n∨n∈x.looks:=by
 intro c hc n hn
 unfold entry at hc
 split at hc
 ·rename_i d hd
  simp only[List.mem_singleton] at hc
  subst hc
  simp only[zax,List.mem_cons,List.mem_append] at hn
  rcases hn with (rfl|hn)|hn
  ·exact .inl hd
  ·exact .inr (zaW _ hn)
  ·exact .inr (List.mem_append_right _ hn)
 ·cases hc
theorem front {P:Program} {KP:AV→zc→Prop} (hKP:zhv KP) (i:AItem×List Chk) {K:Env→zc→Prop} {q:List (AItem×List Chk)}:∀(p:List (AItem×List Chk)),
  (∀ x∈p,zay x i=true∧zlv x i)→(∀(k l:Nat) (x y:AItem×List Chk),k<l→p[k]?=some x→p[l]?=some y→zah x.1 i.1≠[]→∀ d,y.1.dst=some d→x.1.dst≠some d∧d ∉ x.1.looks) →
  ∀(R:List Chk),(∀ c∈R,c∈i.2)→(∀ c∈R,∀ x∈p,∀ d,x.1.dst=some d→d ∉ zax c)→∀(ρ:Env) (H:zc),
  Zc P KP (p++i::q) ρ H K→ZM P KP i.1 R ρ H (fun ρ' H'=>Zc P KP (p++q) ρ' H' K)
 | [],_,_,R,hRi,_,ρ,H,h=>by
  simp only[zc8] at h ⊢
  unfold Zc at h
  exact zdf (fun _ _ hr=>zkx hr hRi) (fun _ _ h=>h) h
 | x::p,hp,hw,R,hRi,hRp,ρ,H,h=>by
  obtain⟨hx,hnx⟩:=hp x (ZI ..)
  simp only[zay,Al0,zhn] at hx
  obtain⟨⟨⟨⟨⟨hap,hsw⟩,hself⟩,hchk⟩,hchk2⟩,hie⟩:=hx
  simp only[Al6] at h ⊢
  unfold Zc at h
  have ih:=fun(ρ:Env) (H:zc) (h':Zc P KP (p++i::q) ρ H K)=>front (P:=P) hKP i (K:=K) (q:=q) p (fun y hy=>hp y (Z0 _ hy)) (fun k l y z hkl hk hl=>hw (k+1) (l+1) y z (by omega) (by simpa using hk) (by simpa using hl)) (zah x.1 i.1++R)
   (fun c hc=>by
    rcases List.mem_append.1 hc with h1|h1
    ·exact hnx c h1
    ·exact hRi c h1)
   (fun c hc y hy d hd=>by
    rcases List.mem_append.1 hc with h1|h1
    ·have hcls:zah x.1 i.1≠[]:=List.ne_nil_of_mem h1
     have h2:c∈entry x.1:=by
      unfold zah at h1
      split at h1
      ·exact h1
      ·cases h1
     obtain⟨l,hl⟩:=List.mem_iff_getElem?.1 hy
     obtain⟨n1,n2⟩:=hw 0 (l+1) x y (by omega) rfl (by simpa using hl) hcls d hd
     intro hn
     rcases zjT (y:=x.1) (.inr trivial) c h2 d hn with h3|h3
     ·exact n1 h3
     ·exact n2 h3
    ·exact hRp c h1 y (Z0 _ hy) d hd) ρ H h'
  have h1:=zdf (P:=P) (KP:=KP) (fun _ _ hr=>hr) (fun ρ' H' h'=>ih ρ' H' h') h
  have h2:=swap hKP (x:=x.1) (i:=i.1) (cx:=x.2) hap hsw (fun e=>by
    rcases hself with h|h
    ·rw[e] at h;simp[bne,BEq.beq] at h
    ·split at h
     ·rename_i d hd;exact⟨d,hd,by simpa using h⟩
     ·cases h)
   (fun e=>by
    rcases hchk with h|h
    ·exact absurd (of_decide_eq_true h) e
    ·simpa using h)
   (fun c hc d hd=>by rw[hd] at hchk2;have:=zdU.1 hchk2 c hc;simpa using this)
   (R:=R) (fun c hc d hd=>hRp c hc x (ZI ..) d hd)
   (fun e=>by
    rcases hie with h|h
    ·exact absurd (of_decide_eq_true h) e
    ·have:i.2=[]:=by simpa using h
     cases R with
     | nil=>rfl
     | cons c r=>have:=hRi c (ZI ..);simp_all) h1
  exact zdf (fun _ _ hr=>hr) (fun ρ' H' h'=>by unfold Zc;exact h') h2
abbrev Yk:=Nat×AItem×List Chk
def znI (ops:Array Oper) (pre:Nat→List Nat) (r:List Yk) (x:Yk):Prop :=
 (∀ i∈r,x.1∈pre i.1∨(zay x.2 i.2=true∧zlv x.2 i.2∧(zah x.2.1 i.2.1≠[]→∀ y∈r,∀ d,y.2.1.dst=some d→x.2.1.dst≠some d∧d ∉ x.2.1.looks))) ∧
 (∀ o,ops[x.1]?=some o→∀ e∈o.after,Region.binds .any e=true→e.on<ops.size∧e.on≠x.1∧∀ y∈r,y.1≠e.on)∧(∀ y∈r,y.1≠x.1)
def POK (ops:Array Oper) (pre:Nat→List Nat):List Yk→Prop
 | []=>True
 | x::r=>znI ops pre r x∧POK ops pre r
theorem POK.drop {ops:Array Oper} {pre:Nat→List Nat} {i:Yk} {q:List Yk}:∀ {p:List Yk},POK ops pre (p++i::q)→POK ops pre (p++q)
 | [],h=>h.2
 | x::p,h=>by
  obtain⟨⟨h1,h2,h3⟩,h4⟩:=h
  have sub:∀ y∈p++q,y∈p++i::q:=fun y hy=>by
   rcases List.mem_append.1 hy with h|h
   ·exact zaW _ h
   ·exact List.mem_append_right _ (Z0 _ h)
  refine⟨⟨fun j hj=>?_,fun o ho e he hbe=>?_,fun y hy=>h3 y (sub y hy)⟩,POK.drop h4⟩
  ·rcases h1 j (sub j hj) with h|⟨ha,hb,hc⟩
   ·exact .inl h
   ·exact .inr ⟨ha,hb,fun hn y hy=>hc hn y (sub y hy)⟩
  ·obtain⟨ha,hne,hb⟩:=h2 o ho e he hbe
   exact⟨ha,hne,fun y hy=>hb y (sub y hy)⟩
theorem POK.before {ops:Array Oper} {pre:Nat→List Nat} {i:Yk} {q:List Yk}:∀ {p:List Yk},POK ops pre (p++i::q)→(∀ x∈p,x.1 ∉ pre i.1) →
  (∀ x∈p.map (·.2),zay x i.2=true∧zlv x i.2) ∧
  (∀(k l:Nat) (x y:AItem×List Chk),k<l→(p.map (·.2))[k]?=some x→(p.map (·.2))[l]?=some y→zah x.1 i.2.1≠[]→∀ d,y.1.dst=some d→x.1.dst≠some d∧d ∉ x.1.looks)
 | [],_,_=>⟨by simp,by simp⟩
 | x::p,h,hn=>by
  obtain⟨⟨h1,_,_⟩,h4⟩:=h
  obtain⟨ih1,ih2⟩:=POK.before h4 (fun y hy=>hn y (Z0 _ hy))
  have hx:=(h1 i (by simp)).resolve_left (hn x (ZI ..))
  refine⟨fun y hy=>?_,fun k l y z hkl hk hl hne d hd=>?_⟩
  ·simp only[List.map_cons,List.mem_cons] at hy
   rcases hy with rfl|hy
   ·exact⟨hx.1,hx.2.1⟩
   ·exact ih1 y hy
  ·cases l with
   | zero=>omega
   | succ l =>
    simp only[List.map_cons,List.getElem?_cons_succ] at hl
    cases k with
    | zero =>
     simp only[List.map_cons,List.getElem?_cons_zero,Al1] at hk
     subst hk
     rw[Y5] at hl
     cases hz:p[l]? with
     | none=>simp[hz] at hl
     | some z' =>
      simp only[hz,zaF,Al1] at hl
      subst hl
      exact hx.2.2 hne z' (zaW _ (List.mem_of_getElem? hz)) d hd
    | succ k =>
     simp only[List.map_cons,List.getElem?_cons_succ] at hk
     exact ih2 k l y z (by omega) hk hl hne d hd
theorem POK.fresh {ops:Array Oper} {pre:Nat→List Nat} {i:Yk} {q:List Yk}:∀ {p:List Yk},POK ops pre (p++i::q)→∀ y∈p++q,y.1≠i.1
 | [],h,y,hy=>h.1.2.2 y hy
 | x::p,h,y,hy=>by
  simp only[Al6,List.mem_cons] at hy
  rcases hy with rfl|hy
  ·exact fun e=>h.1.2.2 i (by simp) e.symm
  ·exact POK.fresh h.2 y hy
theorem znZ {P:Program} {γ0:Gh} {w0:World} {H0:zc} {F:Fx} {KP:AV→zc→Prop} (hKP:zhv KP) {ops:Array Oper} {pre:Nat→List Nat} {Q:Exit→Act→World→Prop} {K:Env→zc→Prop}
  (hQ:∀ ch a w,zdE γ0 w0 H0 F KP ch a w→Q (.panic ch) a w) (hK:∀ γ w H ρ a,SInv γ0 w0 H0 F γ w H ρ a→K ρ H→Q .normal a w)
  (hpre:∀(i:Nat) (o:Oper),ops[i]?=some o→∀ k∈pre i,∃ e∈o.after,Region.binds .any e=true∧(e.on=k∨k∈pre e.on)) :
  ∀(fuel:Nat) (r:List Yk) (listed:Array Bool) (γ:Gh) (w:World) (H:zc) (ρ:Env) (a:Act),listed.size=ops.size→r.length≤fuel→POK ops pre r→(∀ x∈r,∃ o,ops[x.1]?=some o∧zbw F.N F.lo ops P o x.2.1=true) →
   (∀ i,i<ops.size→(listed.getD i true=false↔∃ x∈r,x.1=i))→(∀ j,listed.getD j false=true→∀ k∈pre j,listed.getD k false=true) →
   SInv γ0 w0 H0 F γ w H ρ a→Zc P KP (r.map (·.2)) ρ H K→wpAny P .any ops Q fuel listed a w:=by
 have firstReady:∀(x:Yk) (r:List Yk) (listed:Array Bool),listed.size=ops.size→POK ops pre (x::r)→(∃ o,ops[x.1]?=some o∧zbw F.N F.lo ops P o x.2.1=true) →
   (∀ i,i<ops.size→(listed.getD i true=false↔∃ y∈x::r,y.1=i))→x.1∈Region.ready .any ops listed:=by
  intro x r listed hsz hpok ⟨o,ho,_⟩ hl
  rw[mem_ready]
  have hx:x.1<ops.size:=(zcC.1 ho).1
  refine⟨(hl x.1 hx).2 ⟨x,ZI ..,rfl⟩,o,ho,fun e he hbe=>?_⟩
  obtain⟨h1,hne,h2⟩:=hpok.1.2.1 o ho e he hbe
  have h3:¬ (listed.getD e.on true=false):=by
   rw[hl e.on h1]
   rintro⟨y,hy,hye⟩
   rcases List.mem_cons.1 hy with rfl|hy
   ·exact hne hye.symm
   ·exact h2 y hy hye
  have h4:e.on<listed.size:=by omega
  simp only[zjh,Array.getElem?_eq_getElem h4,Option.getD_some] at h3 ⊢
  cases hh:listed[e.on]<;>simp_all
 have clash:∀(listed:Array Bool) (j:Nat),listed.getD j true=false→listed.getD j false=true→False:=by
  intro listed j h1 h2
  simp only[zjh] at h1 h2
  cases hj:listed[j]?<;>simp_all
 intro fuel
 induction fuel with
 | zero =>
  intro r listed γ w H ρ a hsz hlen hpok hc hl hdc hinv hs
  have hr:r=[]:=List.eq_nil_of_length_eq_zero (by omega)
  subst hr
  refine⟨?_,hK γ w H ρ a hinv hs⟩
  cases hrd:Region.ready .any ops listed with
  | nil=>rfl
  | cons j js =>
   have hj:j∈Region.ready .any ops listed:=by rw[hrd];exact ZI ..
   obtain⟨h1,o,ho,_⟩:=mem_ready.1 hj
   obtain⟨x,hx,_⟩:=(hl j (zcC.1 ho).1).1 h1
   cases hx
 | succ fuel ih =>
  intro r listed γ w H ρ a hsz hlen hpok hc hl hdc hinv hs
  refine⟨fun hrd=>?_,fun i hi=>?_⟩
  ·cases r with
   | nil=>exact hK γ w H ρ a hinv hs
   | cons x r =>
    have:=firstReady x r listed hsz hpok (hc x (ZI ..)) hl
    rw[hrd] at this
    cases this
  ·obtain⟨h1,o,ho,hall⟩:=mem_ready.1 hi
   have hilt:=(zcC.1 ho).1
   obtain⟨x,hx,rfl⟩:=(hl i hilt).1 h1
   obtain⟨p,q,rfl⟩:=List.append_of_mem hx
   have hpre':∀ k∈pre x.1,listed.getD k false=true:=fun k hk=>by
    obtain⟨e,he,hb,h2⟩:=hpre x.1 o ho k hk
    have h3:=hall e he hb
    rcases h2 with rfl|h2
    ·exact h3
    ·exact hdc e.on h3 k h2
   have hnp:∀ y∈p,y.1 ∉ pre x.1:=fun y hy hk=>by
    obtain⟨oy,hoy,_⟩:=hc y (zaW _ hy)
    exact clash listed y.1 ((hl y.1 (zcC.1 hoy).1).2 ⟨y,zaW _ hy,rfl⟩) (hpre' y.1 hk)
   obtain⟨hb1,hb2⟩:=hpok.before hnp
   obtain⟨o',ho',hco⟩:=hc x hx
   rw[ho] at ho'
   cases ho'
   rw[List.map_append,List.map_cons] at hs
   have hfront:=front hKP x.2 (p.map (·.2)) hb1 hb2 [] (by simp) (by simp) ρ H hs
   refine zhd hQ ho hco hinv hfront fun γ' w' H' ρ' a' hinv' hs'=>?_
   refine ih (p++q) _ γ' w' H' ρ' a' (by simpa using hsz) (by simp at hlen ⊢;omega) hpok.drop (fun y hy=>hc y ?_) (fun j hj=>?_) (fun j hj k hk=>?_) hinv' (by rw[List.map_append];exact hs')
   ·rcases List.mem_append.1 hy with h|h
    ·exact zaW _ h
    ·exact List.mem_append_right _ (Z0 _ h)
   ·by_cases hji:x.1=j
    ·subst hji
     constructor
     ·intro h2
      have h3:x.1<listed.size:=by omega
      simp[h3] at h2
     ·rintro⟨y,hy,hye⟩
      exact absurd hye (hpok.fresh y hy)
    ·rw[getD_set_ne true hji,hl j hj]
     constructor
     ·rintro⟨y,hy,rfl⟩
      refine⟨y,?_,rfl⟩
      rcases List.mem_append.1 hy with h|h
      ·exact zaW _ h
      ·rcases List.mem_cons.1 h with rfl|h
       ·exact absurd rfl hji
       ·exact List.mem_append_right _ h
     ·rintro⟨y,hy,rfl⟩
      refine⟨y,?_,rfl⟩
      rcases List.mem_append.1 hy with h|h
      ·exact zaW _ h
      ·exact List.mem_append_right _ (Z0 _ h)
   ·by_cases hji:x.1=j
    ·subst hji
     exact getD_set_true (hpre' k hk)
    ·rw[getD_set_ne false hji] at hj
     exact getD_set_true (hdc j hj k hk)
end Go.Ab
