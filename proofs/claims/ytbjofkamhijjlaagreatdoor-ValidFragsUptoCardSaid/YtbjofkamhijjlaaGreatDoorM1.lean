import Derived.Calls
import Derived.Orders
import Derived.WalkKit
import GoSem.PinnedTables
import Derived.Deep.AppendSrc
set_option maxRecDepth 100000
set_option linter.all false
theorem Al0:type_of% @Bool.and_eq_true:=@Bool.and_eq_true
theorem Al1:type_of% @Option.some.injEq:=@Option.some.injEq
theorem Al2:type_of% @List.length_cons:=@List.length_cons
theorem Al3:type_of% @List.length_nil:=@List.length_nil
theorem Al4:type_of% @Nat.le_refl:=@Nat.le_refl
theorem Al5:type_of% @List.length_append:=@List.length_append
theorem Al6:type_of% @List.cons_append:=@List.cons_append
theorem Al7:type_of% @Bool.false_eq_true:=@Bool.false_eq_true
theorem Al8:type_of% @Prod.mk.injEq:=@Prod.mk.injEq
theorem Al9:type_of% @List.getElem?_eq_getElem:=@List.getElem?_eq_getElem
theorem zak:type_of% @Option.map_some:=@Option.map_some
theorem zcU:type_of% @List.nil_append:=@List.nil_append
theorem zxU:type_of% @Except.ok.injEq:=@Except.ok.injEq
theorem YU:type_of% @Bool.and_assoc:=@Bool.and_assoc
theorem zb0:type_of% @List.append_assoc:=@List.append_assoc
theorem yH:type_of% @decide_eq_true_eq:=@decide_eq_true_eq
theorem Z4:type_of% @List.getElem?_eq_some_iff:=@List.getElem?_eq_some_iff
theorem zck:type_of% @Array.getElem?_eq_some_iff:=@Array.getElem?_eq_some_iff
theorem zib:type_of% @List.length_eq_zero_iff:=@List.length_eq_zero_iff
theorem YH:type_of% @List.getElem?_map:=@List.getElem?_map
theorem YV:type_of% @List.all_eq_true:=@List.all_eq_true
theorem zdp:type_of% @Option.map_eq_some_iff:=@Option.map_eq_some_iff
theorem zb8:type_of% @List.getElem?_append_left:=@List.getElem?_append_left
theorem zfc:type_of% @List.getElem?_append_right:=@List.getElem?_append_right
theorem zxV:type_of% @List.drop_append_of_le_length:=@List.drop_append_of_le_length
theorem Zm:type_of% @List.mem_cons_of_mem:=@List.mem_cons_of_mem
theorem zmt:type_of% @Option.isSome_iff_exists:=@Option.isSome_iff_exists
theorem Zr:type_of% @List.mem_cons_self:=@List.mem_cons_self
theorem zc6:type_of% @Bool.or_eq_true:=@Bool.or_eq_true
theorem zgo:type_of% @List.length_drop:=@List.length_drop
theorem zxz:type_of% @List.take_succ_cons:=@List.take_succ_cons
theorem ZZ:type_of% @List.mem_append_left:=@List.mem_append_left
theorem zgW:type_of% @List.getElem?_take:=@List.getElem?_take
theorem zjs:type_of% @Array.getD_eq_getD_getElem?:=@Array.getD_eq_getD_getElem?
namespace Go.Ab
inductive Own where
 | no|nil|full
 | tip (b d:Nat)
 deriving DecidableEq
inductive AV where
 | any
 | bool (b:Bool)
 | ubool (p:Prop)
 | int (k:IntKind) (n:Int)
 | str (s:List UInt8)
 | agg (cs:List AV)
 | tup (vs:List AV)
 | sl (o:Own) (sz:Nat) (xs:List (List AV))
 | slx (sz:Nat) (xs ys:List (List AV))
 | nilp
 | ptr (b off:Nat)
 | view (cs:List AV)
 | ms (b off len cap:Nat)
 | nilm
 | mp (b:Nat)
 | clo (f:FuncId) (first caps:List AV)
 | oth (v:Value)
 | ifc (t:TypeId) (x:AV)
inductive BK where
 | imm|own
 | buf (e:Nat)
abbrev Gh:=Nat→BK
def Yv (γ:Gh) (b o:Nat):Prop :=
 match γ b with
 | .imm=>True
 | .own=>False
 | .buf e=>o<e
def zc2 (w:World) (o:Own) (a:Addr) (n cap sz:Nat):Prop :=
 match o with
 | .no=>True
 | .nil=>False
 | .full=>n=cap
 | .tip b d=>cap=0∨(a=⟨b,d*sz,none⟩∧∃ arr E,w.heap[b]?=some (.cells arr E (0,0))∧arr.size=(d+cap)*sz)
def CellIs (γ:Gh) (w:World) (b o:Nat) (v:Value):Prop :=
 w.cell? ⟨b,o,none⟩=some v∧Yv γ b o∧v.oneCell'=true
inductive Rep (γ:Gh) (w:World):AV→Value→Prop
 | any (v):Rep γ w .any v
 | bool (b):Rep γ w (.bool b) (.bool b)
 | ubool (p:Prop) (b:Bool) (h:b=true→p):Rep γ w (.ubool p) (.bool b)
 | int (k n):Rep γ w (.int k n) (.int k n)
 | str (s:List UInt8):Rep γ w (.str s) (.string ⟨s.toArray⟩)
 | agg (cs:List AV) (vs:List Value) (hl:cs.length=vs.length) (h1:∀(i:Nat) (v:Value),vs[i]?=some v→v.oneCell'=true)
   (h:∀(i:Nat) (c:AV) (v:Value),cs[i]?=some c→vs[i]?=some v→Rep γ w c v):Rep γ w (.agg cs) (.agg vs.toArray)
 | tup (cs:List AV) (vs:List Value) (hl:cs.length=vs.length) (h:∀(i:Nat) (c:AV) (v:Value),cs[i]?=some c→vs[i]?=some v→Rep γ w c v):Rep γ w (.tup cs) (.tuple vs.toArray)
 | slnil (o:Own) (sz:Nat) (ho:∀ b d,o≠.tip b d):Rep γ w (.sl o sz []) (.slice none 0 0)
 | sl0 (o:Own) (sz:Nat) (a:Addr) (ho:o=.no∨o=.full):Rep γ w (.sl o sz []) (.slice (some a) 0 0)
 | sl (o:Own) (sz:Nat) (xs:List (List AV)) (b off cap:Nat) (cv:Nat→Nat→Value) (hc:xs.length≤cap) (hm:cap≤maxLen)
   (hu:∀ x∈xs,x.length=sz)
   (hcell:∀(i:Nat) (x:List AV),xs[i]?=some x→∀ j,j<sz→CellIs γ w b (off+(i*sz+j)) (cv i j))
   (hr:∀(i:Nat) (x:List AV),xs[i]?=some x→∀(j:Nat) (c:AV),x[j]?=some c→Rep γ w c (cv i j))
   (ho:zc2 w o ⟨b,off,none⟩ xs.length cap sz):Rep γ w (.sl o sz xs) (.slice (some ⟨b,off,none⟩) xs.length cap)
 | slx (sz:Nat) (xs ys:List (List AV)) (ad:Option Addr) (cap:Nat) (h:Rep γ w (.sl .no sz (xs++ys)) (.slice ad (xs.length+ys.length) cap)):Rep γ w (.slx sz xs ys) (.slice ad xs.length cap)
 | nilp:Rep γ w .nilp (.pointer none)
 | ptr (b off:Nat) (hlt:b<w.heap.size):Rep γ w (.ptr b off) (.pointer (some ⟨b,off,none⟩))
 | view (cs:List AV) (b off:Nat) (cv:Nat→Value) (hcell:∀ j,j<cs.length→CellIs γ w b (off+j) (cv j))
   (hr:∀(j:Nat) (c:AV),cs[j]?=some c→Rep γ w c (cv j)):Rep γ w (.view cs) (.pointer (some ⟨b,off,none⟩))
 | ms (b off len cap:Nat) (hlt:b<w.heap.size) (hc:len≤cap) (hm:cap≤maxLen):Rep γ w (.ms b off len cap) (.slice (some ⟨b,off,none⟩) len cap)
 | nilm:Rep γ w .nilm (.map none)
 | mp (b:Nat) (hlt:b<w.heap.size):Rep γ w (.mp b) (.map (some b))
 | clo (f:FuncId) (first caps:List AV) (vs us:List Value) (hl:first.length=vs.length) (hl':caps.length=us.length)
   (h:∀(i:Nat) (c:AV) (v:Value),first[i]?=some c→vs[i]?=some v→Rep γ w c v) (h':∀(i:Nat) (c:AV) (v:Value),caps[i]?=some c→us[i]?=some v→Rep γ w c v) :
   Rep γ w (.clo f first caps) (.func (.func f) vs.toArray us.toArray)
 | oth (v):Rep γ w (.oth v) v
 | ifc (t:TypeId) (x:AV) (v:Value) (h:Rep γ w x v):Rep γ w (.ifc t x) (.iface t v)
structure Mono (γ:Gh) (w:World) (γ':Gh) (w':World):Prop where
 size:w.heap.size≤w'.heap.size
 cell:∀ b o v,w.cell? ⟨b,o,none⟩=some v→Yv γ b o→Yv γ' b o∧w'.cell? ⟨b,o,none⟩=some v
 shape:∀(b:Nat) (arr:Array Value) (E:TypeId) (fr:Nat×Nat),w.heap[b]?=some (.cells arr E fr)→∃ arr':Array Value,w'.heap[b]?=some (.cells arr' E fr)∧arr'.size=arr.size
theorem Mono.refl (γ:Gh) (w:World):Mono γ w γ w:=⟨Al4 _,fun _ _ _ h p=>⟨p,h⟩,fun _ arr _ _ h=>⟨arr,h,rfl⟩⟩
theorem Mono.trans {γ γ' γ'' : Gh} {w w' w'' : World} (h : Mono γ w γ' w') (h' : Mono γ' w' γ'' w'') : Mono γ w γ'' w'' :=
  ⟨Nat.le_trans h.size h'.size, fun b o v hc hp => let ⟨p, c⟩ := h.cell b o v hc hp; h'.cell b o v c p,
   fun b arr E fr hb => let ⟨a1, h1, s1⟩ := h.shape b arr E fr hb; let ⟨a2, h2, s2⟩ := h'.shape b a1 E fr h1; ⟨a2, h2, s2.trans s1⟩⟩
theorem CellIs.mono {γ γ':Gh} {w w':World} (m:Mono γ w γ' w') {b o:Nat} {v:Value} (h:CellIs γ w b o v):CellIs γ' w' b o v :=
 let ⟨p,c⟩:=m.cell b o v h.1 h.2.1
 ⟨c,p,h.2.2⟩
theorem zc2.mono {γ γ':Gh} {w w':World} (m:Mono γ w γ' w') {o:Own} {a:Addr} {n cap sz:Nat} (h:zc2 w o a n cap sz):zc2 w' o a n cap sz:=by
 cases o with
 | no=>trivial
 | nil=>exact h
 | full=>exact h
 | tip b d =>
  rcases h with h|⟨ha,arr,E,hb,hs⟩
  ·exact .inl h
  obtain⟨arr',hb',hs'⟩:=m.shape b arr E _ hb
  exact .inr ⟨ha,arr',E,hb',hs'.trans hs⟩
theorem Rep.mono {γ γ':Gh} {w w':World} (m:Mono γ w γ' w') {c:AV} {v:Value} (h:Rep γ w c v):Rep γ' w' c v:=by
 induction h with
 | any v=>exact .any v
 | bool b=>exact .bool b
 | ubool p b h=>exact .ubool p b h
 | int k n=>exact .int k n
 | str s=>exact .str s
 | agg cs vs hl h1 h ih=>exact .agg cs vs hl h1 ih
 | tup cs vs hl h ih=>exact .tup cs vs hl ih
 | slnil o sz ho=>exact .slnil o sz ho
 | sl0 o sz a ho=>exact .sl0 o sz a ho
 | sl o sz xs b off cap cv hc hm hu hcell hr ho ih =>
  exact .sl o sz xs b off cap cv hc hm hu (fun i x hx j hj=>(hcell i x hx j hj).mono m) ih (ho.mono m)
 | slx sz xs ys ad cap h ih=>exact .slx sz xs ys ad cap ih
 | nilp=>exact .nilp
 | ptr b off hlt=>exact .ptr b off (Nat.lt_of_lt_of_le hlt m.size)
 | view cs b off cv hcell hr ih=>exact .view cs b off cv (fun j hj=>(hcell j hj).mono m) ih
 | ms b off len cap hlt hc hm=>exact .ms b off len cap (Nat.lt_of_lt_of_le hlt m.size) hc hm
 | nilm=>exact .nilm
 | mp b hlt=>exact .mp b (Nat.lt_of_lt_of_le hlt m.size)
 | clo f first caps vs us hl hl' h h' ih ih'=>exact .clo f first caps vs us hl hl' ih ih'
 | oth v=>exact .oth v
 | ifc t x v h ih=>exact .ifc t x v ih
def AV.cells:AV→List AV
 | .agg cs=>cs
 | x=>[x]
def AV.one:AV→Bool
 | .agg _|.tup _|.any=>false
 | .oth v=>v.oneCell'
 | _=>true
theorem Rep.oneCell {γ:Gh} {w:World} {c:AV} {v:Value} (h:Rep γ w c v) (h1:c.one=true):v.oneCell'=true:=by
 cases h<;>first|rfl|(simp[AV.one] at h1;done)|(simpa[AV.one] using h1)
def AV.boxable:AV→Bool
 | .agg _=>true
 | c=>c.one
theorem Rep.cells {γ:Gh} {w:World} {c:AV} {v:Value} (h:Rep γ w c v) (hb:c.boxable=true) :
  c.cells.length=v.cells.toList.length∧(∀(i:Nat) (u:Value),v.cells.toList[i]?=some u→u.oneCell'=true) ∧
  ∀(i:Nat) (d:AV) (u:Value),c.cells[i]?=some d→v.cells.toList[i]?=some u→Rep γ w d u:=by
 cases c with
 | agg cs =>
  cases h with
  | agg _ vs hl h1 hr=>exact⟨by simpa[AV.cells,Value.cells] using hl,by simpa[Value.cells] using h1,by simpa[AV.cells,Value.cells] using hr⟩
 | any=>simp[AV.boxable,AV.one] at hb
 | tup vs=>simp[AV.boxable,AV.one] at hb
 | _ =>
  have h1:=h.oneCell (by simpa[AV.boxable] using hb)
  have hc:v.cells=#[v]:=by cases v<;>first|rfl|(simp[Value.oneCell'] at h1;done)
  rw[hc]
  refine⟨rfl,fun i u hu=>?_,fun i d u hd hu=>?_⟩
  ·cases i with
   | zero=>simp at hu;subst hu;exact h1
   | succ i=>simp at hu
  ·cases i with
   | zero=>simp[AV.cells] at hd hu;subst hd;subst hu;exact h
   | succ i=>simp at hu
def AV.strip1:AV→AV
 | .sl _ sz xs=>.sl .no sz xs
 | .slx sz xs _=>.sl .no sz xs
 | x=>x
def AV.strip2:AV→AV
 | .sl (.tip _ _) sz xs=>.sl .no sz xs
 | .slx sz xs _=>.sl .no sz xs
 | x=>x
def AV.strip:AV→AV
 | .agg cs=>.agg (cs.map AV.strip1)
 | .tup vs=>.tup (vs.map fun|.agg cs=>.agg (cs.map AV.strip1)|x=>x.strip1)
 | x=>x.strip1
theorem Rep.front {γ:Gh} {w:World} {sz:Nat} {xs zs:List (List AV)} {ad:Option Addr} {n cap:Nat} (h:Rep γ w (.sl .no sz zs) (.slice ad n cap)) (hx:∃ ys,zs=xs++ys):Rep γ w (.sl .no sz xs) (.slice ad xs.length cap):=by
 obtain⟨ys,rfl⟩:=hx
 generalize hz:xs++ys=zs at h
 cases h with
 | slnil _ _ ho =>
  obtain⟨rfl,_⟩:=List.append_eq_nil_iff.1 hz
  exact .slnil _ _ ho
 | sl0 _ _ a ho =>
  obtain⟨rfl,_⟩:=List.append_eq_nil_iff.1 hz
  exact .sl0 _ _ a ho
 | sl _ _ _ b off cap cv hc hm hu hcell hr ho =>
  subst hz
  have hg:∀(i:Nat) x,xs[i]?=some x→(xs++ys)[i]?=some x:=fun i x hx=>by
   rw[zb8 (Z4.1 hx).1];exact hx
  simp only[Al5] at hc
  exact .sl .no sz xs b off cap cv (by omega) hm (fun x hx=>hu x (ZZ _ hx)) (fun i x hx=>hcell i x (hg i x hx)) (fun i x hx=>hr i x (hg i x hx)) trivial
theorem Rep.strip1 {γ:Gh} {w:World} {c:AV} {v:Value} (h:Rep γ w c v):Rep γ w c.strip1 v:=by
 cases h with
 | slnil o sz ho=>exact .slnil .no sz (by simp)
 | sl0 o sz a ho=>exact .sl0 .no sz a (.inl rfl)
 | sl o sz xs b off cap cv hc hm hu hcell hr ho=>exact .sl .no sz xs b off cap cv hc hm hu hcell hr trivial
 | slx sz xs ys ad cap h=>exact h.front ⟨ys,rfl⟩
 | any v=>exact .any v
 | bool b=>exact .bool b
 | ubool p b h=>exact .ubool p b h
 | int k n=>exact .int k n
 | str s=>exact .str s
 | agg cs vs hl h1 h=>exact .agg cs vs hl h1 h
 | tup cs vs hl h=>exact .tup cs vs hl h
 | nilp=>exact .nilp
 | ptr b off hlt=>exact .ptr b off hlt
 | view cs b off cv hcell hr=>exact .view cs b off cv hcell hr
 | ms b off len cap hlt hc hm=>exact .ms b off len cap hlt hc hm
 | nilm=>exact .nilm
 | mp b hlt=>exact .mp b hlt
 | clo f first caps vs us hl hl' h h'=>exact .clo f first caps vs us hl hl' h h'
 | oth v=>exact .oth v
 | ifc t x v h=>exact .ifc t x v h
theorem Rep.strip2 {γ:Gh} {w:World} {c:AV} {v:Value} (h:Rep γ w c v):Rep γ w c.strip2 v:=by
 cases c with
 | sl o sz xs =>
  cases o with
  | tip b d=>exact h.strip1
  | no=>exact h
  | nil=>exact h
  | full=>exact h
 | slx sz xs ys=>exact h.strip1
 | _=>exact h
theorem Rep.stripAgg {γ:Gh} {w:World} {cs:List AV} {v:Value} (h:Rep γ w (.agg cs) v):Rep γ w (.agg (cs.map AV.strip1)) v:=by
 cases h with
 | agg _ vs hl h1 h =>
  refine .agg _ vs (by simpa using hl) h1 fun i c v hc hv=>?_
  rw[YH] at hc
  cases hx:cs[i]? with
  | none=>simp[hx] at hc
  | some x=>simp only[hx,zak,Al1] at hc;subst hc;exact(h i x v hx hv).strip1
theorem Rep.strip {γ:Gh} {w:World} {c:AV} {v:Value} (h:Rep γ w c v):Rep γ w c.strip v:=by
 cases c with
 | agg cs=>exact h.stripAgg
 | tup cs =>
  cases h with
  | tup _ vs hl h =>
   refine .tup _ vs (by simpa using hl) fun i c v hc hv=>?_
   rw[YH] at hc
   cases hx:cs[i]? with
   | none=>simp[hx] at hc
   | some x =>
    simp only[hx,zak,Al1] at hc
    subst hc
    have hr:=h i x v hx hv
    cases x with
    | agg cs=>exact hr.stripAgg
    | _=>exact hr.strip1
 | _=>exact h.strip1
def AV.keq1:AV→AV→Bool
 | .bool a,.bool b=>a==b
 | .int _ a,.int _ b=>a==b
 | .str a,.str b=>a==b
 | _,_=>false
def zcQ:List AV→List AV→Bool
 | [],[]=>true
 | a::r,b::s=>a.keq1 b&&zcQ r s
 | _,_=>false
def AV.keq:AV→AV→Bool
 | .agg a,.agg b=>zcQ a b
 | a,b=>a.keq1 b
inductive K1 where
 | b|s
 | i (k:IntKind)
 deriving DecidableEq
inductive KT where
 | one (k:K1)
 | agg (ks:List K1)
 deriving DecidableEq
def K1.fits:K1→AV→Bool
 | .b,.bool _=>true
 | .s,.str _=>true
 | .i k,.int k' _=>decide (k=k')
 | _,_=>false
def zX:List K1→List AV→Bool
 | [],[]=>true
 | k::ks,c::cs=>k.fits c&&zX ks cs
 | _,_=>false
def KT.fits:KT→AV→Bool
 | .one k,c=>k.fits c
 | .agg ks,.agg cs=>zX ks cs
 | _,_=>false
inductive AObj where
 | cells (cs:List AV)
 | tip (n sz:Nat)
 | map (kt:KT) (es:List (AV×AV))
abbrev zb:=Nat→Option AObj
def zb.emp:zb:=fun _=>none
def zb.upd (H:zb) (b:Nat) (o:AObj):zb:=fun c=>if c=b then some o else H c
def zb.del (H:zb) (b:Nat):zb:=fun c=>if c=b then none else H c
def zb.one (b:Nat) (o:AObj):zb:=fun c=>if c=b then some o else none
def zb.union (A B:zb):zb:=fun c=>(A c).or (B c)
def zb.Disj (A B:zb):Prop:=∀ c,A c=none∨B c=none
def AV.conc1:AV→Option Value
 | .bool b=>some (.bool b)
 | .int k n=>some (.int k n)
 | .str s=>some (.string ⟨s.toArray⟩)
 | _=>none
def zbp:List AV→Option (List Value)
 | []=>some []
 | c::r=>match c.conc1,zbp r with
  | some v,some vs=>some (v::vs)
  | _,_=>none
def AV.conc:AV→Option Value
 | .agg cs=>(zbp cs).map fun vs=>.agg vs.toArray
 | c=>c.conc1
structure EntryRel (γ:Gh) (w:World) (x:AV×AV) (e:MapEntry):Prop where
 key:x.1.conc=some e.key
 val:Rep γ w x.2 e.val
inductive ObjRel (γ:Gh) (w:World) (b:Nat):AObj→Prop
 | cells (cs:List AV) (vs:List Value) (E:TypeId) (hk:γ b=.own) (hb:w.heap[b]?=some (.cells vs.toArray E (0,0))) (hl:cs.length=vs.length)
   (h1:∀(i:Nat) (v:Value),vs[i]?=some v→v.oneCell'=true)
   (hr:∀(i:Nat) (c:AV) (v:Value),cs[i]?=some c→vs[i]?=some v→Rep γ w c v):ObjRel γ w b (.cells cs)
 | tip (n sz:Nat) (arr:Array Value) (E:TypeId) (hk:γ b=.buf (n*sz)) (hb:w.heap[b]?=some (.cells arr E (0,0))) (hl:n*sz≤arr.size):ObjRel γ w b (.tip n sz)
 | map (kt:KT) (es:List (AV×AV)) (cs:List MapEntry) (clock:Nat) (hf:∀ x∈es,kt.fits x.1=true) (hk:γ b=.own) (hb:w.heap[b]?=some (.map cs.toArray clock)) (hl:es.length=cs.length)
   (hr:∀(i:Nat) (x:AV×AV) (e:MapEntry),es[i]?=some x→cs[i]?=some e→EntryRel γ w x e):ObjRel γ w b (.map kt es)
def zr (γ:Gh) (w:World) (H:zb):Prop:=∀ b o,H b=some o→ObjRel γ w b o
theorem ObjRel.lt {γ:Gh} {w:World} {b:Nat} {o:AObj} (h:ObjRel γ w b o):b<w.heap.size:=by
 cases h with
 | cells cs vs E hk hb hl h1 hr=>exact(zck.1 hb).1
 | tip n sz arr E hk hb hl=>exact(zck.1 hb).1
 | map kt es cs clock hf hk hb hl hr=>exact(zck.1 hb).1
structure Ext (F:Nat→Prop) (γ:Gh) (w:World) (γ':Gh) (w':World):Prop where
 mono:Mono γ w γ' w'
 os:w'.os=w.os
 output:w'.output=w.output
 frozen:∀ a,a.block<w.heap.size→w'.frozen? a=w.frozen? a
 frame:∀ b,b<w.heap.size→¬ F b→γ' b=γ b∧w'.heap[b]?=w.heap[b]?
theorem Ext.refl (F:Nat→Prop) (γ:Gh) (w:World):Ext F γ w γ w:=⟨.refl γ w,rfl,rfl,fun _ _=>rfl,fun _ _ _=>⟨rfl,rfl⟩⟩
theorem Ext.trans {F F' : Nat → Prop} {γ γ' γ'' : Gh} {w w' w'' : World} (h : Ext F γ w γ' w') (h' : Ext F' γ' w' γ'' w'') (hF : ∀ b, b < w.heap.size → F' b → F b) : Ext F γ w γ'' w'' :=
  ⟨h.mono.trans h'.mono, h'.os.trans h.os, h'.output.trans h.output, fun a ha => (h'.frozen a (Nat.lt_of_lt_of_le ha h.mono.size)).trans (h.frozen a ha),
   fun b hb hn => let ⟨g1, e1⟩ := h.frame b hb hn; let ⟨g2, e2⟩ := h'.frame b (Nat.lt_of_lt_of_le hb h.mono.size) (fun f => hn (hF b hb f)); ⟨g2.trans g1, e2.trans e1⟩⟩
theorem Ext.weaken {F F':Nat→Prop} {γ γ':Gh} {w w':World} (h:Ext F γ w γ' w') (hF:∀ b,F b→F' b):Ext F' γ w γ' w' :=
 ⟨h.mono,h.os,h.output,h.frozen,fun b hb hn=>h.frame b hb (fun f=>hn (hF b f))⟩
theorem EntryRel.mono {γ γ':Gh} {w w':World} (m:Mono γ w γ' w') {x:AV×AV} {e:MapEntry} (h:EntryRel γ w x e):EntryRel γ' w' x e:=⟨h.key,h.val.mono m⟩
theorem ObjRel.kept {γ γ':Gh} {w w':World} {b:Nat} {o:AObj} (m:Mono γ w γ' w') (h:ObjRel γ w b o) (hg:γ' b=γ b) (hb':w'.heap[b]?=w.heap[b]?):ObjRel γ' w' b o:=by
 cases h with
 | cells cs vs E hk hb hl h1 hr=>exact .cells cs vs E (hg.trans hk) (hb'.trans hb) hl h1 fun i c v hc hv=>(hr i c v hc hv).mono m
 | tip n sz arr E hk hb hl=>exact .tip n sz arr E (hg.trans hk) (hb'.trans hb) hl
 | map kt es cs clock hf hk hb hl hr=>exact .map kt es cs clock hf (hg.trans hk) (hb'.trans hb) hl fun i x e hx he=>(hr i x e hx he).mono m
theorem zr.kept {F:Nat→Prop} {γ γ':Gh} {w w':World} {H:zb} (e:Ext F γ w γ' w') (h:zr γ w H) (hF:∀ b o,H b=some o→¬ F b):zr γ' w' H :=
 fun b o hb=>let ho:=h b o hb;let ⟨g,k⟩:=e.frame b ho.lt (hF b o hb);ho.kept e.mono g k
inductive AEnd where
 | ret (v:AV)
 | pan (v:AV)
def zmL (γ:Gh) (w:World):Ending→AEnd→Prop
 | .returned v,.ret c=>Rep γ w c v
 | .panicked ch,.pan c=>∃ v,ch=[{ v,recovered:=false }]∧Rep γ w c v
 | _,_=>False
def yg (γ:Gh) (w:World) (cs:List AV) (vs:List Value):Prop :=
 cs.length=vs.length∧∀(i:Nat) (c:AV) (v:Value),cs[i]?=some c→vs[i]?=some v→Rep γ w c v
theorem yg.mono {γ γ':Gh} {w w':World} (m:Mono γ w γ' w') {cs:List AV} {vs:List Value} (h:yg γ w cs vs):yg γ' w' cs vs :=
 ⟨h.1,fun i c v hc hv=>(h.2 i c v hc hv).mono m⟩
theorem yg.nil {γ:Gh} {w:World}:yg γ w [] []:=⟨rfl,fun i c v h=>by simp at h⟩
theorem yg.cons {γ:Gh} {w:World} {c:AV} {v:Value} {cs:List AV} {vs:List Value} (h:Rep γ w c v) (hs:yg γ w cs vs):yg γ w (c::cs) (v::vs) :=
 ⟨by simp[hs.1],fun i d u hd hu=>by
  cases i with
  | zero=>simp only[List.getElem?_cons_zero,Al1] at hd hu;subst hd;subst hu;exact h
  | succ i=>simp only[List.getElem?_cons_succ] at hd hu;exact hs.2 i d u hd hu⟩
theorem yg.append {γ:Gh} {w:World} {cs ds:List AV} {vs us:List Value} (h:yg γ w cs vs) (h':yg γ w ds us):yg γ w (cs++ds) (vs++us) :=
 ⟨by simp[h.1,h'.1],fun i d u hd hu=>by
  rcases Nat.lt_or_ge i cs.length with hi|hi
  ·rw[zb8 hi] at hd
   rw[zb8 (by rw[← h.1];exact hi)] at hu
   exact h.2 i d u hd hu
  ·rw[zfc hi] at hd
   rw[zfc (by rw[← h.1];exact hi),← h.1] at hu
   exact h'.2 _ d u hd hu⟩
def zqK:List (Nat×List (Value→Prop)):=[(0,Go.Pinned.utf8FirstZ.map fun(n:Nat) (v:Value)=>v=.int .u8 n),
 (1,([128,191,160,191,128,159,144,191,128,143,0,0,0,0,0,0,0,0,0,0,0,0,0,0,0,0,0,0,0,0,0,0]:List Nat).map fun(n:Nat) (v:Value)=>v=.int .u8 n),
 (2,([1,10,100,1000,10000,100000,1000000,10000000,100000000,1000000000,10000000000,100000000000,1000000000000,10000000000000,100000000000000,1000000000000000,10000000000000000,100000000000000000,1000000000000000000,10000000000000000000]:List Nat).map fun(n:Nat) (v:Value)=>v=.int .u64 n),
 (3,([0,1,28,2,29,14,24,3,30,22,20,15,25,17,4,8,31,27,13,23,21,19,16,7,26,12,18,6,11,5,10,9]:List Nat).map fun(n:Nat) (v:Value)=>v=.int .u8 n),
 (4,([0,1,56,2,57,49,28,3,61,58,42,50,38,29,17,4,62,47,59,36,45,43,51,22,53,39,33,30,24,18,12,5,63,55,48,27,60,41,37,16,46,35,44,21,52,32,23,11,54,26,40,15,34,20,31,10,25,14,19,9,13,8,7,6]:List Nat).map fun(n:Nat) (v:Value)=>v=.int .u8 n),
 (5,[fun v=>∃ te pe,v=.iface te pe]),
 (6,[fun v=>∃ te pe,v=.iface te pe])]
def za9 (γ:Gh) (w:World):Prop:=∀ x∈zqK,(∃(arr:Array Value) (E:TypeId) (fr:Nat×Nat),w.heap[x.1]?=some (.cells arr E fr)∧arr.size=x.2.length) ∧
 ∀(j:Nat) (p:Value→Prop),x.2[j]?=some p→∃ v,CellIs γ w x.1 j v∧p v
theorem za9.mono {γ γ' : Gh} {w w' : World} (m : Mono γ w γ' w') (h : za9 γ w) : za9 γ' w' := fun x hx =>
  ⟨let ⟨arr, E, fr, h1, h2⟩ := (h x hx).1; let ⟨arr', h3, h4⟩ := m.shape _ arr E fr h1; ⟨arr', E, fr, h3, h4.trans h2⟩,
   fun j p hp => let ⟨v, h1, h2⟩ := (h x hx).2 j p hp; ⟨v, h1.mono m, h2⟩⟩
def zi (P:Program) (f:FuncId) (args:List AV) (H:zb) (Q:AEnd→zb→Prop):Prop :=
 ∀(γ:Gh) (w:World) (vs:List Value),za9 γ w→zr γ w H→yg γ w args vs →
  Calls P f vs.toArray w fun e w'=>∃ γ' H' r,Ext (fun b=>(H b).isSome=true) γ w γ' w'∧zr γ' w' H' ∧
   (∀ b,(H' b).isSome=true→(H b).isSome=true∨w.heap.size≤b)∧zmL γ' w' e r∧Q r H'
theorem zi.mono {P:Program} {f:FuncId} {args:List AV} {H:zb} {Q Q':AEnd→zb→Prop} (h:zi P f args H Q) (hq:∀ r H',Q r H'→Q' r H'):zi P f args H Q' :=
 fun γ w vs ht hs hv=>(h γ w vs ht hs hv).mono fun _ _ ⟨γ',H',r,a,b,c,d,e⟩=>⟨γ',H',r,a,b,c,d,hq _ _ e⟩
theorem zb.union_some {A B:zb} {b:Nat} {o:AObj} (h:zb.union A B b=some o):A b=some o∨(A b=none∧B b=some o):=by
 unfold zb.union at h
 cases ha:A b with
 | none=>right;simpa[ha] using h
 | some x=>left;simpa[ha] using h
theorem zr.sub {γ:Gh} {w:World} {H H':zb} (h:zr γ w H) (hs:∀ b o,H' b=some o→H b=some o):zr γ w H' :=
 fun b o hb=>h b o (hs b o hb)
theorem zi.frame {P:Program} {f:FuncId} {args:List AV} {A B:zb} {Q:AEnd→zb→Prop} (hd:zb.Disj A B) (h:zi P f args A Q) :
  zi P f args (zb.union A B) fun r H'=>∃ A',Q r A'∧zb.Disj A' B∧H'=zb.union A' B:=by
 intro γ w vs ht hs hv
 have hA:zr γ w A:=hs.sub fun b o hb=>by simp[zb.union,hb]
 have hB:zr γ w B:=hs.sub fun b o hb=>by
  rcases hd b with h|h
  ·simp[zb.union,h,hb]
  ·rw[h] at hb;cases hb
 refine(h γ w vs ht hA hv).mono fun e w' ⟨γ',A',r,hext,hst,hkeys,hend,hq⟩=>?_
 have hdis:zb.Disj A' B:=fun c=>by
  cases hc:A' c with
  | none=>exact .inl rfl
  | some x =>
   right
   rcases hkeys c (by simp[hc]) with h1|h1
   ·rcases hd c with h2|h2
    ·simp[h2] at h1
    ·exact h2
   ·cases hb:B c with
    | none=>rfl
    | some y=>have:=(hB c y hb).lt;omega
 have hB':zr γ' w' B:=hB.kept hext fun b o hb hf=>by
  rcases hd b with h1|h1
  ·simp[h1] at hf
  ·rw[h1] at hb;cases hb
 refine⟨γ',zb.union A' B,r,hext.weaken fun b hb=>?_,fun b o hb=>?_,fun b hb=>?_,hend,A',hq,hdis,rfl⟩
 ·cases ha:A b with
  | none=>simp[ha] at hb
  | some x=>simp[zb.union,ha]
 ·rcases zb.union_some hb with h1|⟨_,h1⟩
  ·exact hst b o h1
  ·exact hB' b o h1
 ·cases ha:A' b with
  | some x =>
   rcases hkeys b (by simp[ha]) with h1|h1
   ·left
    cases hab:A b with
    | none=>simp[hab] at h1
    | some y=>simp[zb.union,hab]
   ·exact .inr h1
  | none =>
   simp only[zb.union,ha,Option.none_or] at hb
   left
   cases hab:A b with
   | some y=>simp[zb.union,hab]
   | none=>simp[zb.union,hab,hb]
inductive Opd where
 | t (n:Nat)
 | k (c:AV)
abbrev Env:=Nat→AV
def Env.set (ρ:Env) (d:Option Nat) (c:AV):Env :=
 match d with
 | some d=>fun n=>if n=d then c else ρ n
 | none=>ρ
def Opd.ev (ρ:Env):Opd→AV
 | .t n=>ρ n
 | .k c=>c
def Own.cut:Own→Nat→Own
 | .tip b d,l=>.tip b (d+l)
 | o,_=>o
inductive AOp where
 | mv (x:Opd)
 | pick (c a b:Opd)
 | nilchk (x:Opd)
 | bi (op:BinOp) (k:IntKind) (x y:Opd)
 | shf (op:BinOp) (x y:Opd)
 | bs (op:BinOp) (x y:Opd)
 | bb (neg:Bool) (x y:Opd)
 | eqa (neg:Bool) (ks:List K1) (x y:Opd)
 | not (x:Opd)
 | bld (zero:List AV) (parts:List (Nat×Nat×Opd))
 | bls (sz len:Nat) (zero:List AV) (parts:List (Nat×Opd))
 | mkfn (f:FuncId) (first caps:List Opd)
 | ext (x:Opd) (i:Nat)
 | fa (off:Nat) (x:Opd)
 | ia (sz:Nat) (x i:Opd)
 | ixs (x i:Opd)
 | sls (x:Opd) (lo hi:Option Opd)
 | sll (sz:Nat) (x:Opd) (lo hi mx:Option Opd)
 | len (x:Opd)
 | lens (x:Opd)
 | mm (mx:Bool) (x:Opd) (ys:List Opd)
 | boxv (x:Opd)
 | ifnil (neg:Bool) (x:Opd)
 | ld (n:Nat) (ag:Bool) (x:Opd)
 | lkp (kt:KT) (zero:AV) (ok:Bool) (m k:Opd)
 | alloc (zero:List AV)
 | box (x:Opd)
 | mkm (kt:KT)
 | st (n:Nat) (x y:Opd)
 | mup (kt:KT) (m k v:Opd)
 | app (sz bytes:Nat) (x y:Opd)
 | blsm (sz len:Nat) (zero:List AV) (parts:List (Nat×Opd))
 | appm (sz bytes:Nat) (zero:List AV) (x y:Opd)
 | call (f:FuncId) (args:List Opd)
 | callv (g:Opd) (args:List Opd)
 | pan (x:Opd)
def mk (ag:Bool) (cs:List AV):AV:=if ag then .agg cs else cs.headD .any
def yR (op:BinOp) (k:IntKind) (a b:Int):Option AV :=
 match op with
 | .add=>some (.int k (k.wrap (a+b)))
 | .sub=>some (.int k (k.wrap (a-b)))
 | .mul=>some (.int k (k.wrap (a*b)))
 | .quo=>if b=0 then none else some (.int k (k.wrap (a.tdiv b)))
 | .rem=>if b=0 then none else some (.int k (a.tmod b))
 | .and=>some (.int k (k.wrap (BitVec.ofInt k.bits a &&& BitVec.ofInt k.bits b).toNat))
 | .or=>some (.int k (k.wrap (BitVec.ofInt k.bits a ||| BitVec.ofInt k.bits b).toNat))
 | .xor=>some (.int k (k.wrap (BitVec.ofInt k.bits a ^^^ BitVec.ofInt k.bits b).toNat))
 | .andNot=>some (.int k (k.wrap (BitVec.ofInt k.bits a &&& ~~~ BitVec.ofInt k.bits b).toNat))
 | .eql=>some (.bool (a==b))
 | .neq=>some (.bool (a != b))
 | .lss=>some (.bool (decide (a<b)))
 | .leq=>some (.bool (decide (a≤b)))
 | .gtr=>some (.bool (decide (b<a)))
 | .geq=>some (.bool (decide (b≤a)))
 | .shl|.shr=>none
def Zf (op:BinOp) (k:IntKind) (a b:Int):Option AV :=
 match op with
 | .shl=>if b<0 then none else some (.int k (k.wrap (a*2 ^ (min b.toNat k.bits))))
 | .shr=>if b<0 then none else some (.int k (a.fdiv (2 ^ (min b.toNat k.bits))))
 | _=>none
def Zg (op:BinOp) (a b:List UInt8):Option AV :=
 match op with
 | .add=>if a.length+b.length≤9223372036854775807 then some (.str (a++b)) else none
 | .eql=>some (.bool (a==b))
 | .neq=>some (.bool !(a==b))
 | .lss=>some (.bool (Op.bytesLess a b))
 | .leq=>some (.bool (Op.bytesLess a b||a==b))
 | .gtr=>some (.bool !(Op.bytesLess a b||a==b))
 | .geq=>some (.bool !(Op.bytesLess a b))
 | _=>none
def splice (cs:List AV) (off:Nat) (v:List AV):List AV:=cs.take off++v++cs.drop (off+v.length)
def yh (ρ:Env):List AV→List (Nat×Nat×Opd)→Option (List AV)
 | cs,[]=>some cs
 | cs,(off,n,x)::r=>if (x.ev ρ).cells.length=n∧off+n≤cs.length∧(x.ev ρ).boxable=true then yh ρ (splice cs off (x.ev ρ).cells) r else none
def yc (S:AV→AV) (ρ:Env) (sz:Nat):List (List AV)→List (Nat×Opd)→Option (List (List AV))
 | xs,[]=>some xs
 | xs,(i,x)::r=>if (x.ev ρ).cells.length=sz∧i<xs.length∧(x.ev ρ).boxable=true then yc S ρ sz (xs.set i ((x.ev ρ).cells.map S)) r else none
def bound (dflt:Nat) (ρ:Env):Option Opd→Option Int
 | none=>some dflt
 | some x=>match x.ev ρ with
  | .int _ n=>some n
  | _=>none
def mm2 (mx:Bool) (a b:Int):Int:=if mx then (if b > a then b else a) else (if b<a then b else a)
def yi (mx:Bool) (k:IntKind) (ρ:Env):Int→List Opd→Option Int
 | a,[]=>some a
 | a,y::r=>match y.ev ρ with
  | .int k' b=>if k=k' then yi mx k ρ (mm2 mx a b) r else none
  | _=>none
def znd (sz b off len cap:Nat):Option Int→Option Int→Option AV
 | some l,some h=>if 0≤l∧l≤h∧h≤len then some (.ms b (if cap=l.toNat then off else off+l.toNat*sz) (h.toNat-l.toNat) (cap-l.toNat)) else none
 | _,_=>none
def pev (ρ:Env):AOp→Option AV
 | .mv x=>some (x.ev ρ)
 | .pick c a b=>match c.ev ρ with
  | .bool t=>some (if t then a.ev ρ else b.ev ρ)
  | _=>none
 | .nilchk x=>match x.ev ρ with
  | .ptr b o=>some (.ptr b o)
  | .view cs=>some (.view cs)
  | .clo f a b=>some (.clo f a b)
  | _=>none
 | .bi op k x y=>match x.ev ρ,y.ev ρ with
  | .int k1 a,.int k2 b=>if k1=k∧k2=k then yR op k a b else none
  | _,_=>none
 | .shf op x y=>match x.ev ρ,y.ev ρ with
  | .int k a,.int _ b=>Zf op k a b
  | _,_=>none
 | .bs op x y=>match x.ev ρ,y.ev ρ with
  | .str a,.str b=>Zg op a b
  | _,_=>none
 | .bb neg x y=>match x.ev ρ,y.ev ρ with
  | .bool a,.bool b=>some (.bool (if neg then !(a==b) else a==b))
  | _,_=>none
 | .eqa neg ks x y=>match x.ev ρ,y.ev ρ with
  | .agg as,.agg bs=>if zX ks as=true∧zX ks bs=true then some (.bool (if neg then !(zcQ as bs) else zcQ as bs)) else none
  | _,_=>none
 | .not x=>match x.ev ρ with
  | .bool t=>some (.bool !t)
  | _=>none
 | .bld zero parts=>(yh ρ zero parts).map .agg
 | .bls sz n zero parts=>if zero.length=sz then (yc AV.strip1 ρ sz (List.replicate n zero) parts).map (.sl .full sz) else none
 | .mkfn f first caps=>some (.clo f (first.map (Opd.ev ρ)) (caps.map (Opd.ev ρ)))
 | .ext x i=>match x.ev ρ with
  | .tup vs=>vs[i]?
  | _=>none
 | .fa off x=>match x.ev ρ with
  | .ptr b o=>some (.ptr b (o+off))
  | .view cs=>some (.view (cs.drop off))
  | _=>none
 | .ia sz x i=>match x.ev ρ,i.ev ρ with
  | .sl _ sz' xs,.int _ n=>if sz'=sz∧0≤n∧n<xs.length then some (.view (xs.getD n.toNat [])) else none
  | .ms b off len _,.int _ n=>if 0≤n∧n<len then some (.ptr b (off+n.toNat*sz)) else none
  | _,_=>none
 | .ixs x i=>match x.ev ρ,i.ev ρ with
  | .str s,.int _ n=>if 0≤n∧n<s.length then some (.int .u8 (s.getD n.toNat 0).toNat) else none
  | _,_=>none
 | .sls x lo hi=>match x.ev ρ with
  | .str s=>match bound 0 ρ lo,bound s.length ρ hi with
   | some l,some h=>if 0≤l∧l≤h∧h≤s.length then some (.str ((s.take h.toNat).drop l.toNat)) else none
   | _,_=>none
  | _=>none
 | .sll sz x lo hi mx=>match x.ev ρ with
  | .sl o sz' xs=>match bound 0 ρ lo,bound xs.length ρ hi,mx with
   | some l,some h,none=>if sz'=sz∧0≤l∧l≤h∧h≤xs.length then some (.sl (if hi.isNone then o.cut l.toNat else .no) sz ((xs.take h.toNat).drop l.toNat)) else none
   | some l,some h,some m=>match m.ev ρ with
    | .int _ m=>if sz'=sz∧0≤l∧l≤h∧h≤m∧m≤xs.length then some (.sl (if m=h then .full else .no) sz ((xs.take h.toNat).drop l.toNat)) else none
    | _=>none
   | _,_,_=>none
  | .ms b off len cap=>match mx with
   | none=>znd sz b off len cap (bound 0 ρ lo) (bound len ρ hi)
   | some _=>none
  | _=>none
 | .lens x=>match x.ev ρ with
  | .str s=>some (.int .i64 s.length)
  | _=>none
 | .len x=>match x.ev ρ with
  | .sl _ _ xs=>some (.int .i64 xs.length)
  | .slx _ xs _=>some (.int .i64 xs.length)
  | .ms _ _ n _=>some (.int .i64 n)
  | _=>none
 | .mm mx x ys=>match x.ev ρ with
  | .int k a=>(yi mx k ρ a ys).map (.int k)
  | _=>none
 | .ifnil neg x=>match x.ev ρ with
  | .oth .nilIface=>some (.bool !neg)
  | .ifc _ _=>some (.bool neg)
  | _=>none
 | .boxv x=>if (x.ev ρ).boxable=true then some (.view (x.ev ρ).cells) else none
 | _=>none
def zaV (es:List (AV×AV)) (k:AV):Option AV :=
 match es with
 | []=>none
 | (a,v)::r=>if k.keq a then some v else zaV r k
def zbs (es:List (AV×AV)) (k v:AV):List (AV×AV) :=
 match es with
 | []=>[(k,v)]
 | (a,u)::r=>if k.keq a then (k,v)::r else (a,u)::zbs r k v
def YR (zero:AV) (ok:Bool) (r:Option AV):AV:=if ok then .tup [r.getD zero,.bool r.isSome] else r.getD zero
def rev (ρ:Env) (H:zb):AOp→Option AV
 | .ld n ag x=>match x.ev ρ with
  | .view cs=>if n≤cs.length then some (mk ag (cs.take n)) else none
  | .ptr b off=>match H b with
   | some (.cells cs)=>if off+n≤cs.length then some (mk ag ((cs.drop off).take n)) else none
   | _=>none
  | _=>none
 | .lkp kt zero ok m k=>if kt.fits (k.ev ρ) then match m.ev ρ with
  | .nilm=>some (YR zero ok none)
  | .mp b=>match H b with
   | some (.map kt' es)=>if kt'=kt then some (YR zero ok (zaV es (k.ev ρ))) else none
   | _=>none
  | _=>none
  else none
 | _=>none
inductive Cls where
 | pure|read|alloc|eff
 deriving DecidableEq
def AOp.cls:AOp→Cls
 | .ld ..|.lkp ..=>.read
 | .alloc ..|.box ..|.mkm ..|.blsm ..=>.alloc
 | .appm ..|.st ..|.mup ..|.app ..|.call ..|.callv ..|.pan ..=>.eff
 | _=>.pure
def zbY (zero:List AV):Nat→List AV
 | 0=>[]
 | n+1=>zero++zbY zero n
def oev (ρ:Env):AOp→Option AObj
 | .alloc zero=>some (.cells zero)
 | .box x=>if (x.ev ρ).boxable=true then some (.cells (x.ev ρ).cells) else none
 | .mkm kt=>some (.map kt [])
 | .blsm sz n zero parts=>if zero.length=sz then (yc AV.strip1 ρ sz (List.replicate n zero) parts).map fun ys=>.cells ys.flatten else none
 | _=>none
def yJ (ρ:Env) (b:Nat):AOp→AV
 | .mkm _=>.mp b
 | .blsm _ n _ _=>.ms b 0 n n
 | _=>.ptr b 0
def ZU (K KP:AV→zb→Prop):AEnd→zb→Prop
 | .ret v,H=>K v H
 | .pan v,H=>KP v H
def Program.callable (P:Program) (f:FuncId):Bool :=
 match P.funcs[f]? with
 | some fn => fn.body.isSome && fn.name != "runtime.NumGoroutine"
 | none=>false
def zl1 (sz bytes:Nat) (x y:AV) (H:zb) (K:AV→zb→Prop):Prop :=
 match x,y with
 | .sl o s1 xs,.sl _ s2 ys =>
  s1=sz∧s2=sz∧(xs.length+ys.length)*bytes≤140737488355328∧xs.length+ys.length≤maxLen ∧
  match o with
  | .no=>False
  | .nil|.full=>(ys=[]→K (.sl o sz xs) H) ∧
    (ys≠[]→∀ b,H b=none→K (.sl (.tip b 0) sz (xs++ys.map (·.map AV.strip1))) (H.upd b (.tip (xs.length+ys.length) sz)))
  | .tip b d=>H b=some (.tip (d+xs.length) sz) ∧
    ∀ b' d',(H.del b) b'=none→K (.sl (.tip b' d') sz (xs++ys.map (·.map AV.strip1))) ((H.del b).upd b' (.tip (d'+(xs.length+ys.length)) sz))
 | _,_=>False
def zhK (S:AV→AV) (sz bytes:Nat) (zero:List AV) (x y:AV) (H:zb) (K:AV→zb→Prop):Prop :=
 match y with
 | .sl _ s2 ys=>s2=sz∧zero.length=sz∧match x with
  | .sl .nil s1 xs=>xs=[]∧s1=sz∧ys.length*bytes≤140737488355328∧ys.length≤maxLen∧(ys=[]→K (.sl .nil sz []) H) ∧
    (ys≠[]→∀ b cap,H b=none→ys.length≤cap→cap≤maxLen→K (.ms b 0 ys.length cap) (H.upd b (.cells (ys.flatten.map S++zbY zero (cap-ys.length)))))
  | .ms b off len cap=>(len+ys.length)*bytes≤140737488355328∧len+ys.length≤maxLen∧match H b with
   | some (.cells cs)=>(len+ys.length≤cap→off+(len+ys.length)*sz≤cs.length∧K (.ms b off (len+ys.length) cap) (H.upd b (.cells (splice cs (off+len*sz) (ys.flatten.map S))))) ∧
     (cap<len+ys.length→off+len*sz≤cs.length∧∀ b' cap',H b'=none→len+ys.length≤cap'→cap'≤maxLen→K (.ms b' 0 (len+ys.length) cap') (H.upd b' (.cells ((cs.drop off).take (len*sz)++ys.flatten.map S++zbY zero (cap'-(len+ys.length))))))
   | _=>False
  | _=>False
 | _=>False
def eff (P:Program) (KP:AV→zb→Prop) (ρ:Env) (H:zb) (K:AV→zb→Prop):AOp→Prop
 | .st n x y=>match x.ev ρ with
  | .ptr b off=>match H b with
   | some (.cells cs)=>(y.ev ρ).cells.length=n∧off+n≤cs.length∧(y.ev ρ).boxable=true∧K (.tup []) (H.upd b (.cells (splice cs off (y.ev ρ).cells)))
   | _=>False
  | _=>False
 | .mup kt m k v=>match m.ev ρ with
  | .mp b=>match H b with
   | some (.map kt' es)=>kt'=kt∧kt.fits (k.ev ρ)=true∧K (.tup []) (H.upd b (.map kt (zbs es (k.ev ρ) (v.ev ρ))))
   | _=>False
  | _=>False
 | .app sz bytes x y=>zl1 sz bytes (x.ev ρ) (y.ev ρ) H K
 | .appm sz bytes zero x y=>zhK AV.strip1 sz bytes zero (x.ev ρ) (y.ev ρ) H K
 | .call f args=>zi P f (args.map (Opd.ev ρ)) H (ZU K KP)
 | .callv g args=>match g.ev ρ with
  | .clo f first caps=>Program.callable P f=true∧zi P f (first++args.map (Opd.ev ρ)++caps) H (ZU K KP)
  | _=>False
 | .pan x=>match x.ev ρ with
  | .ifc t y=>KP (.ifc t y) H
  | _=>False
 | _=>False
def zcz (H:zb):Prop:=∃ n,∀ b,n≤b→H b≠none
def aop (P:Program) (KP:AV→zb→Prop) (o:AOp) (ρ:Env) (H:zb) (K:AV→zb→Prop):Prop :=
 match o.cls with
 | .pure=>match pev ρ o with
  | some v=>K v H
  | none=>False
 | .read=>match rev ρ H o with
  | some v=>K v H
  | none=>False
 | .alloc=>match oev ρ o with
  | some x=>∀ b,H b=none→K (yJ ρ b o) (H.upd b x)
  | none=>zcz H
 | .eff=>eff P KP ρ H K o
structure EnvRel (γ:Gh) (w:World) (ρ:Env) (tmps:Array Value):Prop where
 tab:za9 γ w
 rep:∀ n,Rep γ w (ρ n) (tmps.getD n undef)
theorem EnvRel.mono {γ γ':Gh} {w w':World} (m:Mono γ w γ' w') {ρ:Env} {tmps:Array Value} (h:EnvRel γ w ρ tmps):EnvRel γ' w' ρ tmps:=⟨h.tab.mono m,fun n=>(h.rep n).mono m⟩
def zi9:Value→AV→Bool
 | .bool b,.bool b'=>b==b'
 | .int k n,.int k' n'=>decide (k=k')&&decide (n=n')
 | .string s,.str l=>s.data.toList==l
 | .slice none 0 0,.sl .nil _ []=>true
 | .pointer none,.nilp=>true
 | .map none,.nilm=>true
 | .nilFunc,.oth .nilFunc=>true
 | .nilIface,.oth .nilIface=>true
 | _,_=>false
def zao:List Value→List AV→Bool
 | [],[]=>true
 | v::vs,c::cs=>zi9 v c&&zao vs cs
 | _,_=>false
def zri:Value→AV→Bool
 | .agg vs,.agg cs=>zao vs.toList cs
 | v,c=>zi9 v c
def zQ:Operand→Opd→Bool
 | .tmp t,.t n=>t==n
 | .const v,.k c=>zri v c
 | .func f,.k (.clo f' [] [])=>f==f'
 | _,_=>false
theorem zov {v:Value} {c:AV} (h:zi9 v c=true):v.oneCell'=true:=by
 unfold zi9 at h
 split at h<;>first|rfl|cases h
theorem ziL {v:Value} {c:AV} (h:zi9 v c=true) (γ:Gh) (w:World):Rep γ w c v:=by
 unfold zi9 at h
 split at h
 ·simp at h;subst h;exact .bool _
 ·simp at h;obtain⟨rfl,rfl⟩:=h;exact .int _ _
 ·rename_i s l
  simp at h
  subst h
  exact .str s.data.toList
 ·exact .slnil .nil _ (by simp)
 ·exact .nilp
 ·exact .nilm
 ·exact .oth _
 ·exact .oth _
 ·cases h
theorem zb2:∀ {vs:List Value} {cs:List AV},zao vs cs=true→∀(γ:Gh) (w:World),
  cs.length=vs.length∧(∀(i:Nat) (v:Value),vs[i]?=some v→v.oneCell'=true)∧∀(i:Nat) (c:AV) (v:Value),cs[i]?=some c→vs[i]?=some v→Rep γ w c v
 | [],[],_,γ,w=>by simp
 | [],_::_,h,_,_=>by simp[zao] at h
 | _::_,[],h,_,_=>by simp[zao] at h
 | v::vs,c::cs,h,γ,w=>by
  simp only[zao,Al0] at h
  obtain⟨h1,h2,h3⟩:=zb2 h.2 γ w
  refine⟨by simp[h1],fun i u hu=>?_,fun i d u hd hu=>?_⟩
  ·cases i with
   | zero=>simp at hu;subst hu;exact zov h.1
   | succ i=>simp at hu;exact h2 i u hu
  ·cases i with
   | zero=>simp at hd hu;subst hd;subst hu;exact ziL h.1 γ w
   | succ i=>simp at hd hu;exact h3 i d u hd hu
theorem zkl {v:Value} {c:AV} (h:zri v c=true) (γ:Gh) (w:World):Rep γ w c v:=by
 unfold zri at h
 split at h
 ·rename_i vs cs
  obtain⟨h1,h2,h3⟩:=zb2 h γ w
  exact .agg cs vs.toList h1 h2 h3
 ·exact ziL h γ w
theorem zt {x:Operand} {y:Opd} (h:zQ x y=true) {γ:Gh} {w:World} {ρ:Env} {a:Act} (he:EnvRel γ w ρ a.tmps):Rep γ w (y.ev ρ) (a.eval x):=by
 unfold zQ at h
 split at h
 ·simp at h;subst h;exact he.rep _
 ·exact zkl h γ w
 ·simp at h;subst h
  exact .clo _ [] [] [] [] rfl rfl (by simp) (by simp)
 ·cases h
def YY:List Operand→List Opd→Bool
 | [],[]=>true
 | x::xs,y::ys=>zQ x y&&YY xs ys
 | _,_=>false
theorem zcb:∀ {xs:List Operand} {ys:List Opd},YY xs ys=true→∀ {γ:Gh} {w:World} {ρ:Env} {a:Act},EnvRel γ w ρ a.tmps →
  yg γ w (ys.map (Opd.ev ρ)) (xs.map a.eval)
 | [],[],_,_,_,_,_,_=>yg.nil
 | [],_::_,h,_,_,_,_,_=>by simp[YY] at h
 | _::_,[],h,_,_,_,_,_=>by simp[YY] at h
 | x::xs,y::ys,h,_,_,_,_,he=>by
  simp only[YY,Al0] at h
  exact yg.cons (zt h.1 he) (zcb h.2 he)
def Zl (P:Program) (o:Oper) (ao:AOp):Prop :=
 ∀(γ:Gh) (w:World) (ρ:Env) (a:Act) (c:AV),EnvRel γ w ρ a.tmps→pev ρ ao=some c →
  ∃ v γ' w',(execOp a.eval o).run P w=.ok (.value v) w'∧Ext (fun _=>False) γ w γ' w'∧Rep γ' w' c v
theorem zU {P:Program} {o:Oper} {a:Act} {γ:Gh} {w:World} {c:AV} {v:Value} (h:(execOp a.eval o).run P w=.ok (.value v) w) (hr:Rep γ w c v) :
  ∃ v γ' w',(execOp a.eval o).run P w=.ok (.value v) w'∧Ext (fun _=>False) γ w γ' w'∧Rep γ' w' c v :=
 ⟨v,γ,w,h,.refl _ _ _,hr⟩
theorem zuA {P:Program} {o:Oper} {x:Operand} {y:Opd} (ho:o.op=.move x∨o.op=.assign x) (h:zQ x y=true):Zl P o (.mv y):=by
 intro γ w ρ a c he hc
 simp only[pev,Al1] at hc
 subst hc
 exact zU (by rcases ho with ho|ho<;>simp[execOp,ho]) (zt h he)
theorem zsX {P:Program} {o:Oper} {x y z:Operand} {x' y' z':Opd} (ho:o.op=.pick x y z) (h:zQ x x'=true) (h2:zQ y y'=true) (h3:zQ z z'=true):Zl P o (.pick x' y' z'):=by
 intro γ w ρ a c he hc
 have r1:=zt h he
 have r2:=zt h2 he
 have r3:=zt h3 he
 simp only[pev] at hc
 cases hx:x'.ev ρ<;>simp only[hx] at hc r1<;>try (cases hc;done)
 rename_i t
 simp only[Al1] at hc
 subst hc
 generalize hv:a.eval x=v at r1
 cases r1
 cases t
 ·exact zU (v:=a.eval z) (by simp[execOp,ho,hv,asBool]) (by simpa using r3)
 ·exact zU (v:=a.eval y) (by simp[execOp,ho,hv,asBool]) (by simpa using r2)
theorem zoB {P:Program} {o:Oper} {x:Operand} {x':Opd} (ho:o.op=.nilCheck x) (h:zQ x x'=true):Zl P o (.nilchk x'):=by
 intro γ w ρ a c he hc
 have r1:=zt h he
 simp only[pev] at hc
 cases hx:x'.ev ρ<;>simp only[hx] at hc r1<;>try (cases hc;done)
 all_goals
  simp only[Al1] at hc
  subst hc
  generalize hv:a.eval x=v at r1
  have r1':=r1
  cases r1
  exact zU (by simp[execOp,ho,hv]) r1'
theorem zjv {P:Program} {w:World} (op:BinOp) (k:IntKind) (a b:Int) {c:AV} (h:yR op k a b=some c) (h1:op≠.shl) (h2:op≠.shr) (t:TypeId) (γ:Gh) :
  ∃ v,(binOp op t (.int k a) (.int k b)).run P w=.ok v w∧Rep γ w c v:=by
 cases op
 case shl=>exact absurd rfl h1
 case shr=>exact absurd rfl h2
 case quo =>
  simp only[yR] at h
  split at h
  ·cases h
  ·rename_i hb;simp only[Al1] at h;subst h;exact⟨.int k _,by simp[binOp,Op.intDiv,hb];done,.int _ _⟩
 case rem =>
  simp only[yR] at h
  split at h
  ·cases h
  ·rename_i hb;simp only[Al1] at h;subst h;exact⟨.int k _,by simp[binOp,Op.intDiv,hb];done,.int _ _⟩
 case add=>simp only[yR,Al1] at h;subst h;exact⟨.int k _,by simp[binOp,Op.intArith];done,.int _ _⟩
 case sub=>simp only[yR,Al1] at h;subst h;exact⟨.int k _,by simp[binOp,Op.intArith];done,.int _ _⟩
 case mul=>simp only[yR,Al1] at h;subst h;exact⟨.int k _,by simp[binOp,Op.intArith];done,.int _ _⟩
 case and=>simp only[yR,Al1] at h;subst h;exact⟨.int k _,by simp[binOp,Op.intBits];done,.int _ _⟩
 case or=>simp only[yR,Al1] at h;subst h;exact⟨.int k _,by simp[binOp,Op.intBits];done,.int _ _⟩
 case xor=>simp only[yR,Al1] at h;subst h;exact⟨.int k _,by simp[binOp,Op.intBits];done,.int _ _⟩
 case andNot=>simp only[yR,Al1] at h;subst h;exact⟨.int k _,by simp[binOp,Op.intBits];done,.int _ _⟩
 all_goals (simp only[yR,Al1] at h;subst h;exact⟨.bool _,by simp[binOp,Op.intCmp];done,.bool _⟩)
theorem zaG {P:Program} {w:World} (op:BinOp) (t:TypeId) (x y:Operand) (u v:Value) (h:∀ cs,u≠.agg cs) (h':u≠.nilIface):(eqGuard op t x y u v).run P w=.ok () w:=by
 unfold eqGuard
 split<;>first|rfl|(cases u<;>first|rfl|(simp at h';done)|(exact absurd rfl (h _))|(simp;done))
theorem zwT {P:Program} {o:Oper} {op:BinOp} {t u:TypeId} {k:IntKind} {x y:Operand} {x' y':Opd} (ho:o.op=.binOp op t x y u) (h:zQ x x'=true) (h2:zQ y y'=true)
  (h3:op≠.shl) (h4:op≠.shr):Zl P o (.bi op k x' y'):=by
 intro γ w ρ a c he hc
 have r1:=zt h he
 have r2:=zt h2 he
 simp only[pev] at hc
 cases hx:x'.ev ρ<;>simp only[hx] at hc r1<;>try (cases hc;done)
 cases hy:y'.ev ρ<;>simp only[hy] at hc r2<;>try (cases hc;done)
 rename_i k1 n1 k2 n2
 split at hc
 ·rename_i hk
  obtain⟨rfl,rfl⟩:=hk
  generalize hv:a.eval x=v at r1
  generalize hu:a.eval y=v' at r2
  cases r1
  cases r2
  obtain⟨v,hr,hrep⟩:=zjv (P:=P) (w:=w) op _ _ _ hc h3 h4 t γ
  refine zU ?_ hrep
  simp only[execOp,ho,hv,hu,Sem.run_bind,zaG op t x y (.int _ _) _ (by simp) (by simp),Result.andThen_ok,hr,Sem.run_pure]
 ·cases hc
theorem zvA {P:Program} {o:Oper} {op:BinOp} {t u:TypeId} {x y:Operand} {x' y':Opd} (ho:o.op=.binOp op t x y u) (h:zQ x x'=true) (h2:zQ y y'=true):Zl P o (.shf op x' y'):=by
 intro γ w ρ a c he hc
 have r1:=zt h he
 have r2:=zt h2 he
 simp only[pev] at hc
 cases hx:x'.ev ρ<;>simp only[hx] at hc r1<;>try (cases hc;done)
 cases hy:y'.ev ρ<;>simp only[hy] at hc r2<;>try (cases hc;done)
 generalize hv:a.eval x=v at r1
 generalize hu:a.eval y=v' at r2
 cases r1
 cases r2
 cases op<;>simp only[Zf] at hc<;>try (cases hc;done)
 all_goals
  split at hc
  ·cases hc
  ·rename_i hb
   simp only[Al1] at hc
   subst hc
   refine zU ?_ (.int _ _)
   simp only[execOp,ho,hv,hu,Sem.run_bind,zaG _ t x y (.int _ _) _ (by simp) (by simp),Result.andThen_ok,binOp,Op.shift,hb,if_false,Sem.run_pure]
theorem zdy (s:List UInt8):(ByteArray.mk s.toArray).toList=s:=by
 rw[ByteArray.toList_eq]
theorem zeE (s:List UInt8):(ByteArray.mk s.toArray).size=s.length:=by
 show s.toArray.size=s.length
 simp
theorem zpf (a b:List UInt8):(ByteArray.mk a.toArray)++(ByteArray.mk b.toArray)=ByteArray.mk (a++b).toArray:=by
 apply ByteArray.ext
 simp
theorem zxl {P:Program} {o:Oper} {op:BinOp} {t u:TypeId} {x y:Operand} {x' y':Opd} (ho:o.op=.binOp op t x y u) (h:zQ x x'=true) (h2:zQ y y'=true):Zl P o (.bs op x' y'):=by
 intro γ w ρ a c he hc
 have r1:=zt h he
 have r2:=zt h2 he
 simp only[pev] at hc
 cases hx:x'.ev ρ<;>simp only[hx] at hc r1<;>try (cases hc;done)
 cases hy:y'.ev ρ<;>simp only[hy] at hc r2<;>try (cases hc;done)
 rename_i s1 s2
 generalize hv:a.eval x=v at r1
 generalize hu:a.eval y=v' at r2
 cases r1
 cases r2
 have key:∃ v,(Op.stringOp op ⟨s1.toArray⟩ ⟨s2.toArray⟩).run P w=.ok v w∧Rep γ w c v:=by
  unfold Zg at hc
  unfold Op.stringOp
  rw[zdy,zdy,zeE,zeE,zpf]
  cases op<;>simp only[] at hc ⊢<;>try (cases hc;done)
  case add =>
   split at hc
   ·rename_i hl
    simp only[Al1] at hc
    subst hc
    refine⟨.string ⟨(s1++s2).toArray⟩,?_,.str _⟩
    have hmax:¬ (((s1.length+s2.length:Nat):Int) > IntKind.i64.max):=by
     simp only[IntKind.max,IntKind.signed,IntKind.bits,if_true];omega
    rw[if_neg hmax]
    rfl
   ·cases hc
  all_goals (simp only[Al1] at hc;subst hc;exact⟨.bool _,rfl,.bool _⟩)
 obtain⟨v,hr,hrep⟩:=key
 refine zU ?_ hrep
 have hb:binOp op t (.string ⟨s1.toArray⟩) (.string ⟨s2.toArray⟩)=Op.stringOp op ⟨s1.toArray⟩ ⟨s2.toArray⟩:=by cases op<;>rfl
 simp only[execOp,ho,hv,hu,Sem.run_bind,zaG op t x y (.string _) _ (by simp) (by simp),Result.andThen_ok,hb,hr,Sem.run_pure]
theorem zwz {P:Program} {o:Oper} {op:BinOp} {neg:Bool} {t u:TypeId} {x y:Operand} {x' y':Opd} (ho:o.op=.binOp op t x y u) (h:zQ x x'=true) (h2:zQ y y'=true)
  (hop:op=if neg then .neq else .eql) (ht:P.underlying t=some .bool):Zl P o (.bb neg x' y'):=by
 intro γ w ρ a c he hc
 have r1:=zt h he
 have r2:=zt h2 he
 simp only[pev] at hc
 cases hx:x'.ev ρ<;>simp only[hx] at hc r1<;>try (cases hc;done)
 cases hy:y'.ev ρ<;>simp only[hy] at hc r2<;>try (cases hc;done)
 rename_i b1 b2
 generalize hv:a.eval x=v at r1
 generalize hu:a.eval y=v' at r2
 cases r1
 cases r2
 simp only[Al1] at hc
 subst hc
 have he:(Op.equal t (.bool b1) (.bool b2)).run P w=.ok (b1==b2) w:=by
  unfold Op.equal Op.maxDepth
  rw[Op.equalIn]
  simp[run_underlying ht]
 refine zU (v:=.bool (if neg=true then !(b1==b2) else b1==b2)) ?_ (.bool _)
 cases neg<;>simp only[Al7,if_false,if_true] at hop ⊢<;>subst hop <;>
  simp only[execOp,ho,hv,hu,Sem.run_bind,zaG _ t x y (.bool _) _ (by simp) (by simp),Result.andThen_ok,binOp,he,Sem.run_pure]
theorem zwc {P:Program} {o:Oper} {t:TypeId} {x:Operand} {x':Opd} (ho:o.op=.unOp .not t x) (h:zQ x x'=true):Zl P o (.not x'):=by
 intro γ w ρ a c he hc
 have r1:=zt h he
 simp only[pev] at hc
 cases hx:x'.ev ρ<;>simp only[hx] at hc r1<;>try (cases hc;done)
 simp only[Al1] at hc
 subst hc
 generalize hv:a.eval x=v at r1
 cases r1
 exact zU (v:=.bool _) (by simp[execOp,ho,hv,Op.unary];done) (.bool _)
theorem ztJ {P:Program} {o:Oper} {f:FuncId} {first caps:Array Operand} {first' caps':List Opd} (ho:o.op=.makeFunc (.func f) first caps) (h:YY first.toList first'=true) (h':YY caps.toList caps'=true) :
  Zl P o (.mkfn f first' caps'):=by
 intro γ w ρ a c he hc
 have r1:=zcb h he
 have r2:=zcb h' he
 simp only[pev,Al1] at hc
 subst hc
 refine zU (v:=.func (.func f) (first.toList.map a.eval).toArray (caps.toList.map a.eval).toArray) ?_ (.clo f _ _ _ _ r1.1 r2.1 r1.2 r2.2)
 have e:∀ l:Array Operand,l.map a.eval=(l.toList.map a.eval).toArray:=fun l=>by apply Array.ext';simp
 simp only[execOp,ho,Instr.makeFunc,Sem.run_bind,Sem.run_pure,Result.andThen_ok,e]
theorem zvs {P:Program} {o:Oper} {i:Nat} {x:Operand} {x':Opd} (ho:o.op=.extract x i) (h:zQ x x'=true):Zl P o (.ext x' i):=by
 intro γ w ρ a c he hc
 have r1:=zt h he
 simp only[pev] at hc
 cases hx:x'.ev ρ<;>simp only[hx] at hc r1<;>try (cases hc;done)
 generalize hv:a.eval x=v at r1
 cases r1 with
 | tup cs vs hl hr =>
  have hlt:i<vs.length:=by rw[← hl];exact(Z4.1 hc).1
  refine zU (v:=vs[i]) ?_ (hr i c _ hc (Al9 hlt))
  simp[execOp,ho,hv,Instr.extract,hlt]
theorem addr_add (b o n:Nat):(⟨b,o,none⟩:Addr).add n=⟨b,o+n,none⟩:=by
 unfold Addr.add;split<;>simp_all
def isIface:Option TypeDesc→Bool
 | some (.interface _)=>true
 | _=>false
theorem zqv {P:Program} {o:Oper} {op:BinOp} {neg:Bool} {t u:TypeId} {x y:Operand} {x':Opd} (ho:o.op=.binOp op t x y u) (hop:op=if neg then .neq else .eql) (h:zQ x x'=true) (hy:y=.const .nilIface) (ht:isIface (P.underlying t)=true):Zl P o (.ifnil neg x'):=by
 intro γ w ρ a c he hc
 have r1:=zt h he
 simp only[pev] at hc
 obtain⟨ms,hms⟩:∃ ms,P.underlying t=some (.interface ms):=by
  unfold isIface at ht
  split at ht
  ·rename_i ms hm;exact⟨ms,hm⟩
  ·cases ht
 subst hy
 have hy:a.eval (.const .nilIface)=.nilIface:=rfl
 cases hx:x'.ev ρ<;>simp only[hx] at hc r1<;>try (cases hc;done)
 ·rename_i v0
  cases v0<;>simp only[] at hc<;>try (cases hc;done)
  simp only[Al1] at hc
  subst hc
  generalize hv:a.eval x=v at r1
  cases r1
  refine zU (v:=.bool !neg) ?_ (.bool _)
  have e:(Op.equalIn 10000 t .nilIface .nilIface).run P w=.ok true w:=by
   rw[Op.equalIn];simp[run_underlying hms]
  cases neg<;>simp only[Al7,if_false,if_true] at hop<;>subst hop <;>
   simp[execOp,ho,hv,hy,eqGuard,binOp,Op.equal,Op.maxDepth,Sem.run_bind,e,Sem.run_pure,Result.andThen]
 ·rename_i ty cx
  simp only[Al1] at hc
  subst hc
  generalize hv:a.eval x=v at r1
  cases r1
  rename_i v1 hr1
  refine zU (v:=.bool neg) ?_ (.bool _)
  have e:(Op.equalIn 10000 t (.iface ty v1) .nilIface).run P w=.ok false w:=by
   rw[Op.equalIn];simp[run_underlying hms]
  cases neg<;>simp only[Al7,if_false,if_true] at hop<;>subst hop <;>
   simp[execOp,ho,hv,hy,eqGuard,binOp,Op.equal,Op.maxDepth,Sem.run_bind,e,Sem.run_pure,Result.andThen]
theorem zwy {P:Program} {o:Oper} {s:TypeId} {x:Operand} {x':Opd} {i off:Nat} {fs:Array Field} {f:Field} {fi:TypeInfo} (ho:o.op=.fieldAddr s x i) (h:zQ x x'=true) (hs:P.underlying s=some (.struct fs))
  (hf:fs[i]?=some f) (hoff:f.offset=off) (hi:P.info? f.type=some fi) (h0:fi.size≠0):Zl P o (.fa off x'):=by
 intro γ w ρ a c he hc
 have r1:=zt h he
 simp only[pev] at hc
 have hrun:∀ b oo,a.eval x=.pointer (some ⟨b,oo,none⟩)→(execOp a.eval o).run P w=.ok (.value (.pointer (some ⟨b,oo+off,none⟩))) w:=by
  intro b oo hv
  simp[execOp,ho,hv,Instr.fieldAt,run_underlying hs,hf,Instr.sureAddr,fieldPlace,sizeOf,typeInfo,hi,h0,hoff,addr_add]
 cases hx:x'.ev ρ<;>simp only[hx] at hc r1<;>try (cases hc;done)
 ·rename_i b oo
  simp only[Al1] at hc
  subst hc
  generalize hv:a.eval x=v at r1
  cases r1 with
  | ptr _ _ hlt=>exact zU (hrun b oo hv) (.ptr b _ hlt)
 ·rename_i cs
  simp only[Al1] at hc
  subst hc
  generalize hv:a.eval x=v at r1
  cases r1 with
  | view cs b oo cv hcell hr =>
   refine zU (hrun b oo hv) (.view _ b (oo+off) (fun j=>cv (off+j)) (fun j hj=>?_) (fun j c hj=>?_))
   ·have:=hcell (off+j) (by simp at hj;omega)
    rwa [← Nat.add_assoc] at this
   ·rw[List.getElem?_drop] at hj
    exact hr (off+j) c hj
def zfA:Option TypeDesc→Bool
 | some (.struct _)|some (.array _ _)=>true
 | _=>false
theorem ziD {P:Program} {w:World} {t:TypeId} {d:TypeDesc} (h:P.underlying t=some d):(isAgg t).run P w=.ok (zfA (P.underlying t)) w:=by
 unfold isAgg
 rw[Sem.run_bind,run_underlying h w,h]
 cases d<;>rfl
theorem zwu {P:Program} {o:Oper} {t e:TypeId} {x y:Operand} {x' y':Opd} {sz:Nat} {ei:TypeInfo} (ho:o.op=.indexAddr t x y) (h:zQ x x'=true) (h2:zQ y y'=true)
  (ht:P.underlying t=some (.slice e)) (hi:P.info? e=some ei) (hsz:ei.size=sz):Zl P o (.ia sz x' y'):=by
 intro γ w ρ a c he hc
 have r1:=zt h he
 have r2:=zt h2 he
 simp only[pev] at hc
 have hrun:∀ b oo len cap k (n:Int),a.eval x=.slice (some ⟨b,oo,none⟩) len cap→a.eval y=.int k n→0≤n→n<len→(execOp a.eval o).run P w=.ok (.value (.pointer (some ⟨b,oo+n.toNat*sz,none⟩))) w:=by
  intro b oo len cap k n hv hu h0 hlt
  have hcond:0≤n∧n<(len:Int):=⟨h0,hlt⟩
  simp[execOp,ho,hv,hu,Instr.indexAt,asIntOf,run_underlying ht,hcond,sizeOf,typeInfo,hi,hsz,addr_add]
 cases hx:x'.ev ρ<;>simp only[hx] at hc r1<;>try (cases hc;done)
 all_goals (cases hy:y'.ev ρ<;>simp only[hy] at hc r2<;>try (cases hc;done))
 ·rename_i own sz' xs k n
  split at hc
  ·rename_i hk
   obtain⟨rfl,h0,hlt⟩:=hk
   simp only[Al1] at hc
   subst hc
   generalize hv:a.eval x=v at r1
   generalize hu:a.eval y=v' at r2
   cases r2
   cases r1 with
   | slnil _ _ _=>simp at hlt;omega
   | sl0 _ _ _ _=>simp at hlt;omega
   | sl _ _ _ b oo cap cv hcap hm huni hcell hr hown =>
    have hlt':n.toNat<xs.length:=by omega
    have hx':xs[n.toNat]?=some xs[n.toNat]:=Al9 hlt'
    have hg:xs.getD n.toNat []=xs[n.toNat]:=by simp[List.getD,hx']
    rw[hg]
    have hlen:(xs[n.toNat]).length=sz':=huni _ (List.getElem_mem hlt')
    refine zU (hrun b oo _ cap k n hv hu h0 hlt) (.view _ b (oo+n.toNat*sz') (cv n.toNat) (fun j hj=>?_) (fun j c hj=>hr _ _ hx' j c hj))
    have:=hcell n.toNat _ hx' j (by omega)
    rwa [← Nat.add_assoc] at this
  ·cases hc
 ·rename_i b oo len cap k n
  split at hc
  ·rename_i hk
   obtain⟨h0,hlt⟩:=hk
   simp only[Al1] at hc
   subst hc
   generalize hv:a.eval x=v at r1
   generalize hu:a.eval y=v' at r2
   cases r2
   cases r1 with
   | ms _ _ _ _ hb hcap hm=>exact zU (hrun b oo len cap k n hv hu h0 hlt) (.ptr b _ hb)
  ·cases hc
theorem zuP {P:Program} {o:Oper} {t:TypeId} {x y:Operand} {x' y':Opd} (ho:o.op=.index t x y) (h:zQ x x'=true) (h2:zQ y y'=true) (ht:P.underlying t=some .string):Zl P o (.ixs x' y'):=by
 intro γ w ρ a c he hc
 have r1:=zt h he
 have r2:=zt h2 he
 simp only[pev] at hc
 cases hx:x'.ev ρ<;>simp only[hx] at hc r1<;>try (cases hc;done)
 cases hy:y'.ev ρ<;>simp only[hy] at hc r2<;>try (cases hc;done)
 rename_i s k n
 split at hc
 ·rename_i hk
  obtain⟨h0,hlt⟩:=hk
  simp only[Al1] at hc
  subst hc
  generalize hv:a.eval x=v at r1
  generalize hu:a.eval y=v' at r2
  cases r1
  cases r2
  have hlt':n.toNat<s.length:=by omega
  have hb:(ByteArray.mk s.toArray)[n.toNat]?=some s[n.toNat]:=by
   rw[getElem?_pos _ _ (by rw[zeE];exact hlt')]
   rfl
  have hg:s.getD n.toNat 0=s[n.toNat]:=by simp[List.getD,hlt']
  rw[hg]
  refine zU (v:=.int .u8 _) ?_ (.int _ _)
  simp[execOp,ho,hv,hu,Instr.index,asIntOf,run_underlying ht,h0,hb]
 ·cases hc
theorem zlz (s:List UInt8) (l h:Nat) (hh:h≤s.length):(ByteArray.mk s.toArray).extract l h=ByteArray.mk ((s.take h).drop l).toArray:=by
 apply ByteArray.ext
 apply Array.ext'
 simp[ByteArray.data_extract,List.extract_eq_take_drop,List.drop_take]
theorem zb9 {P:Program} {w:World} {γ:Gh} {ρ:Env} {a:Act} {x:Operand} {y:Opd} {d:Nat} {n:Int} (hr:Rep γ w (y.ev ρ) (a.eval x)) (h:bound d ρ (some y)=some n) :
  ∃ k,a.eval x=.int k n:=by
 unfold bound at h
 simp only at h
 cases hy:y.ev ρ<;>simp only[hy] at h hr<;>try (cases h;done)
 simp only[Al1] at h
 subst h
 generalize hu:a.eval x=v at hr
 cases hr
 exact⟨_,rfl⟩
def zbf:Option Operand→Option Opd→Bool
 | none,none=>true
 | some x,some y=>zQ x y
 | _,_=>false
theorem Yf {P:Program} {w:World} (k:IntKind) (n:Int) (y:Nat) (code:BoundsCode) (h0:0≤n) (h1:n≤y):(Instr.sliceBound (.int k n) y code).run P w=.ok n.toNat w:=by
 have hc:0≤n∧n≤(y:Int):=⟨h0,h1⟩
 simp[Instr.sliceBound,asIntOf,hc]
theorem zc3 {P:Program} {w:World} {γ:Gh} {ρ:Env} {a:Act} (isSlice:Bool) (len cap:Nat) {lo hi:Option Operand} {lo' hi':Option Opd} (hlo:zbf lo lo'=true) (hhi:zbf hi hi'=true)
  (he:EnvRel γ w ρ a.tmps) {l h:Int} (hl:bound 0 ρ lo'=some l) (hh:bound len ρ hi'=some h) (h0:0≤l) (h1:l≤h) (h2:h≤len) (hc:len≤cap) :
  (Instr.sliceBounds isSlice len cap (lo.map a.eval) (hi.map a.eval) none).run P w=.ok (l.toNat,h.toNat,cap) w:=by
 have e1:∀(v:Value),hi.map a.eval=some v→∃ k,v=.int k h:=by
  intro v hv
  cases hi with
  | none=>cases hv
  | some x =>
   cases hi' with
   | none=>cases hhi
   | some y =>
    simp only[zak,Al1] at hv
    obtain⟨k,hk⟩:=zb9 (P:=P) (zt hhi he) hh
    exact⟨k,hv▸hk⟩
 have e2:∀(v:Value),lo.map a.eval=some v→∃ k,v=.int k l:=by
  intro v hv
  cases lo with
  | none=>cases hv
  | some x =>
   cases lo' with
   | none=>cases hlo
   | some y =>
    simp only[zak,Al1] at hv
    obtain⟨k,hk⟩:=zb9 (P:=P) (zt hlo he) hl
    exact⟨k,hv▸hk⟩
 have e3:hi.map a.eval=none→h=len:=by
  intro hv
  cases hi with
  | some x=>cases hv
  | none =>
   cases hi' with
   | some y=>cases hhi
   | none=>simpa[bound] using hh.symm
 have e4:lo.map a.eval=none→l=0:=by
  intro hv
  cases lo with
  | some x=>cases hv
  | none =>
   cases lo' with
   | some y=>cases hlo
   | none=>simpa[bound] using hl.symm
 have b1:∀ k code,(Instr.sliceBound (.int k h) cap code).run P w=.ok h.toNat w:=fun k code=>Yf k h cap code (by omega) (by omega)
 have b2:∀ k code,(Instr.sliceBound (.int k l) h.toNat code).run P w=.ok l.toNat w:=fun k code=>Yf k l _ code h0 (by omega)
 unfold Instr.sliceBounds
 cases hh':hi.map a.eval with
 | none =>
  have:=e3 hh'
  subst this
  cases hl':lo.map a.eval with
  | none=>have:=e4 hl';subst this;simp
  | some v=>obtain⟨k,rfl⟩:=e2 v hl';simp at b2;simp[b2]
 | some u =>
  obtain⟨k',rfl⟩:=e1 u hh'
  cases hl':lo.map a.eval with
  | none=>have:=e4 hl';subst this;simp[b1]
  | some v=>obtain⟨k,rfl⟩:=e2 v hl';simp[b1,b2]
theorem zwi {P:Program} {o:Oper} {t:TypeId} {x:Operand} {lo hi:Option Operand} {x':Opd} {lo' hi':Option Opd} (ho:o.op=.slice t x lo hi none) (h:zQ x x'=true) (hlo:zbf lo lo'=true) (hhi:zbf hi hi'=true)
  (ht:P.underlying t=some .string):Zl P o (.sls x' lo' hi'):=by
 intro γ w ρ a c he hc
 have r1:=zt h he
 simp only[pev] at hc
 cases hx:x'.ev ρ<;>simp only[hx] at hc r1<;>try (cases hc;done)
 rename_i s
 cases hl:bound 0 ρ lo' with
 | none=>simp only[hl] at hc;cases hc
 | some l =>
  cases hh:bound s.length ρ hi' with
  | none=>simp only[hl,hh] at hc;cases hc
  | some hv =>
   simp only[hl,hh] at hc
   split at hc
   ·rename_i hk
    obtain⟨h0,h1,h2⟩:=hk
    simp only[Al1] at hc
    subst hc
    generalize hv:a.eval x=v at r1
    cases r1
    refine zU (v:=.string _) ?_ (.str _)
    have hb:=zc3 (P:=P) false s.length s.length hlo hhi he hl hh h0 h1 h2 (Al4 _)
    simp only[execOp,ho,hv,Instr.sliceAt,Sem.run_bind,run_underlying ht,Result.andThen_ok,Instr.slice,Option.map_none,Option.isSome_none,Al7,if_false,Sem.run_pure,zeE,hb]
    rw[zlz _ _ _ (by omega)]
   ·cases hc
theorem znr {P:Program} {w:World} {o:Oper} {a:Act} {ts:Array TypeId} {x:Operand} (ho:o.op=.call { callee:=.builtin .len,args:=#[x],argTypes:=ts }) {v:Value} {n:Int} (hv:a.eval x=v)
  (hr:(Builtin.len_ ts o.type #[v]).run P w=.ok (.int .i64 n) w):(execOp a.eval o).run P w=.ok (.value (.int .i64 n)) w:=by
 simp[execOp,ho,resolve,invoke,builtin,hv,hr]
theorem zsq {P:Program} {o:Oper} {t:TypeId} {ts:Array TypeId} {x:Operand} {x':Opd} (ho:o.op=.call { callee:=.builtin .len,args:=#[x],argTypes:=ts }) (hts:ts[0]?=some t) (h:zQ x x'=true)
  (ht:P.underlying t=some .string):Zl P o (.lens x'):=by
 intro γ w ρ a c he hc
 have r1:=zt h he
 simp only[pev] at hc
 cases hx:x'.ev ρ<;>simp only[hx] at hc r1<;>try (cases hc;done)
 simp only[Al1] at hc
 subst hc
 generalize hv:a.eval x=v at r1
 cases r1
 exact zU (znr ho hv (by simp[Builtin.len_,hts,run_underlying ht,goInt,zeE])) (.int _ _)
theorem zuL {P:Program} {o:Oper} {t e:TypeId} {ts:Array TypeId} {x:Operand} {x':Opd} (ho:o.op=.call { callee:=.builtin .len,args:=#[x],argTypes:=ts }) (hts:ts[0]?=some t) (h:zQ x x'=true)
  (ht:P.underlying t=some (.slice e)):Zl P o (.len x'):=by
 intro γ w ρ a c he hc
 have r1:=zt h he
 simp only[pev] at hc
 cases hx:x'.ev ρ<;>simp only[hx] at hc r1<;>try (cases hc;done)
 all_goals simp only[Al1] at hc
 all_goals subst hc
 all_goals generalize hv:a.eval x=v at r1
 all_goals cases r1
 all_goals exact zU (znr ho hv (by simp[Builtin.len_,hts,run_underlying ht,goInt])) (.int _ _)
theorem Z3 (F:Nat→Prop) (γ:Gh) (w:World) (k:BK) (c:Array Value) (t:TypeId) :
  Ext F γ w (fun b=>if b=w.heap.size then k else γ b) (w.alloc (.cells c t)):=by
 have hne:∀ b,b<w.heap.size→b≠w.heap.size:=fun b h=>Nat.ne_of_lt h
 refine⟨⟨by simp,fun b o v hc hp=>?_,fun b arr E fr hb=>?_⟩,rfl,rfl,fun a _=>RowKit.frozen?_alloc_cells w c t a,fun b hb _=>⟨by simp[hne b hb],heap_alloc_old w _ hb⟩⟩
 ·have hlt:=World.block_lt_of_cell? w _ hc
  refine⟨by simpa[Yv,hne b hlt] using hp,?_⟩
  rw[World.cell?_alloc_lt _ _ _ hlt];exact hc
 ·have hlt:=(zck.1 hb).1
  exact⟨arr,by rw[heap_alloc_old w _ hlt];exact hb,rfl⟩
theorem Ye (F:Nat→Prop) (γ:Gh) (w:World):Ext F γ w γ w.drew :=
 ⟨⟨Al4 _,fun b o v hc hp=>⟨hp,hc⟩,fun b arr E fr hb=>⟨arr,hb,rfl⟩⟩,rfl,rfl,fun _ _=>rfl,fun b hb _=>⟨rfl,rfl⟩⟩
theorem zti {P:Program} {o:Oper} {t:TypeId} {x:Operand} {x':Opd} (ho:o.op=.box t x) (h:zQ x x'=true):Zl P o (.boxv x'):=by
 intro γ w ρ a c he hc
 have r1:=zt h he
 simp only[pev] at hc
 split at hc
 ·rename_i hb
  simp only[Al1] at hc
  subst hc
  obtain⟨hl,h1,hr⟩:=r1.cells hb
  have hext:=Z3 (fun _=>False) γ w .imm (a.eval x).cells t
  refine⟨.pointer (some ⟨w.heap.size,0,none⟩),_,_,?_,hext,?_⟩
  ·simp[execOp,ho,Instr.box,newVar,newRow]
  ·refine .view _ w.heap.size 0 (fun j=>(a.eval x).cells.toList.getD j undef) (fun j hj=>?_) (fun j d hd=>?_)
   ·rw[hl] at hj
    have hg:(a.eval x).cells.toList[j]?=some (a.eval x).cells.toList[j]:=Al9 hj
    have hg':(a.eval x).cells.toList.getD j undef=(a.eval x).cells.toList[j]:=by simp[List.getD,hg]
    rw[hg']
    refine⟨?_,by simp[Yv],h1 j _ hg⟩
    rw[World.cell?_alloc_new]
    simp
   ·have hj:j<(a.eval x).cells.toList.length:=by rw[← hl];exact(Z4.1 hd).1
    have hg:(a.eval x).cells.toList[j]?=some (a.eval x).cells.toList[j]:=Al9 hj
    have hg':(a.eval x).cells.toList.getD j undef=(a.eval x).cells.toList[j]:=by simp[List.getD,hg]
    rw[hg']
    exact(hr j d _ hd hg).mono hext.mono
 ·cases hc
theorem zqG {P:Program} {w:World} {γ:Gh} {ρ:Env} {a:Act} {mx:Bool} {k:IntKind} (he:EnvRel γ w ρ a.tmps):∀(ys:List Operand) (ys':List Opd) (n m:Int),YY ys ys'=true→yi mx k ρ n ys'=some m →
  ((ys.map a.eval).foldlM (if mx then Builtin.max2 else Builtin.min2) (.int k n)).run P w=.ok (.int k m) w
 | [],[],n,m,_,hm=>by simp only[yi,Al1] at hm;subst hm;rfl
 | [],_::_,_,_,h,_=>by simp[YY] at h
 | _::_,[],_,_,h,_=>by simp[YY] at h
 | y::ys,y'::ys',n,m,h,hm=>by
  simp only[YY,Al0] at h
  have r:=zt h.1 he
  simp only[yi] at hm
  cases hy:y'.ev ρ<;>simp only[hy] at hm r<;>try (cases hm;done)
  rename_i k' b
  split at hm
  ·rename_i hk
   subst hk
   generalize hu:a.eval y=v at r
   cases r
   have ih:=zqG (P:=P) he ys ys' _ m h.2 hm
   simp only[List.map_cons,List.foldlM_cons,hu]
   cases mx
   ·simp only[Al7,if_false] at ih ⊢
    simp only[Sem.run_bind,Builtin.min2,Sem.run_pure,Result.andThen_ok]
    simpa[mm2] using ih
   ·simp only[if_true] at ih ⊢
    simp only[Sem.run_bind,Builtin.max2,Sem.run_pure,Result.andThen_ok]
    simpa[mm2] using ih
  ·cases hm
theorem zwD {P:Program} {o:Oper} {ts:Array TypeId} {mx:Bool} {x:Operand} {ys:List Operand} {x':Opd} {ys':List Opd} {args:Array Operand}
  (ho:o.op=.call { callee:=.builtin (if mx then .max else .min),args:=args,argTypes:=ts }) (ha:args.toList=x::ys) (h:zQ x x'=true) (h2:YY ys ys'=true):Zl P o (.mm mx x' ys'):=by
 intro γ w ρ a c he hc
 have r1:=zt h he
 simp only[pev] at hc
 cases hx:x'.ev ρ<;>simp only[hx] at hc r1<;>try (cases hc;done)
 rename_i k n
 generalize hv:a.eval x=v at r1
 cases r1
 cases hm:yi mx k ρ n ys' with
 | none=>simp[hm] at hc
 | some m =>
  simp only[hm,zak,Al1] at hc
  subst hc
  refine zU (v:=.int k m) ?_ (.int _ _)
  have hr:=zqG (P:=P) (mx:=mx) he ys ys' n m h2 hm
  have hargs:args.toList.map a.eval=.int k n::ys.map a.eval:=by rw[ha];simp[hv]
  cases mx
  ·simp only[Al7,if_false] at ho hr
   simp[execOp,ho,resolve,invoke,builtin,Builtin.min_,hargs,hr]
  ·simp only[if_true] at ho hr
   simp[execOp,ho,resolve,invoke,builtin,Builtin.max_,hargs,hr]
def K1.isTy (P:Program) (k:K1) (t:TypeId):Bool :=
 match k,P.underlying t with
 | .b,some .bool=>true
 | .s,some .string=>true
 | .i k,some (.int k')=>decide (k=k')
 | _,_=>false
def zbo (P:Program):List Field→Nat→List K1→Bool
 | [],_,[]=>true
 | f :: fs, off, k :: ks => f.name != "_" && f.offset == off && k.isTy P f.type && zbo P fs (off + 1) ks
 | _,_,_=>false
theorem ZX {P:Program} {k:K1} {t:TypeId} (h:k.isTy P t=true) (w:World):(isAgg t).run P w=.ok false w:=by
 cases hd:P.underlying t with
 | none=>cases k<;>simp[K1.isTy,hd] at h
 | some d =>
  rw[ziD hd,hd]
  cases k<;>cases d<;>simp_all [K1.isTy,zfA]
theorem zeI {P:Program} {w:World} {γ:Gh} {k:K1} {t:TypeId} {c d:AV} {u v:Value} (hk:k.isTy P t=true) (hc:k.fits c=true) (hd:k.fits d=true) (rc:Rep γ w c u) (rd:Rep γ w d v) (n:Nat) :
  (Op.equalIn (n+1) t u v).run P w=.ok (c.keq1 d) w:=by
 cases k with
 | b =>
  have ht:P.underlying t=some .bool:=by
   cases hu:P.underlying t with
   | none=>simp[K1.isTy,hu] at hk
   | some x=>cases x<;>simp_all [K1.isTy]
  cases c<;>simp[K1.fits] at hc
  cases d<;>simp[K1.fits] at hd
  cases rc;cases rd
  rw[run_equalIn_bool' w n t _ _ ht];rfl
 | s =>
  have ht:P.underlying t=some .string:=by
   cases hu:P.underlying t with
   | none=>simp[K1.isTy,hu] at hk
   | some x=>cases x<;>simp_all [K1.isTy]
  cases c<;>simp[K1.fits] at hc
  cases d<;>simp[K1.fits] at hd
  cases rc;cases rd
  rw[run_equalIn_string w n t _ _ ht,zdy,zdy];rfl
 | i k =>
  have ht:P.underlying t=some (.int k):=by
   cases hu:P.underlying t with
   | none=>simp[K1.isTy,hu] at hk
   | some x=>cases x<;>simp_all [K1.isTy]
  cases c<;>simp[K1.fits] at hc
  cases d<;>simp[K1.fits] at hd
  subst hc;subst hd
  cases rc;cases rd
  rw[run_equalIn_int w n t _ _ _ _ ht];rfl
theorem zcv {P:Program} {w:World} {γ:Gh} (n:Nat) (xs ys:Array Value):∀(fs:List Field) (off:Nat) (ks:List K1) (as bs:List AV),zbo P fs off ks=true→zX ks as=true→zX ks bs=true →
  (∀ i c,as[i]?=some c→∃ v,xs[off+i]?=some v∧Rep γ w c v)→(∀ i c,bs[i]?=some c→∃ v,ys[off+i]?=some v∧Rep γ w c v) →
  (Op.eqFields (n+1) xs ys fs).run P w=.ok (zcQ as bs) w
 | [],_,[],[],[],_,_,_,_,_=>rfl
 | [],_,[],_::_,_,_,h,_,_,_=>by simp[zX] at h
 | [],_,[],[],_::_,_,_,h,_,_=>by simp[zX] at h
 | [],_,_::_,_,_,h,_,_,_,_=>by simp[zbo] at h
 | _::_,_,[],_,_,h,_,_,_,_=>by simp[zbo] at h
 | _::_,_,_::_,[],_,_,h,_,_,_=>by simp[zX] at h
 | _::_,_,_::_,_::_,[],_,_,h,_,_=>by simp[zX] at h
 | f::fs,off,k::ks,a::as,b::bs,hf,ha,hb,hx,hy=>by
  simp only[zbo,Al0,bne_iff_ne,ne_eq,beq_iff_eq] at hf
  obtain⟨⟨⟨hname,hoff⟩,hty⟩,hrest⟩:=hf
  simp only[zX,Al0] at ha hb
  obtain⟨u,hu,ru⟩:=hx 0 a rfl
  obtain⟨v,hv,rv⟩:=hy 0 b rfl
  simp only[Nat.add_zero] at hu hv
  have ih:=zcv n xs ys fs (off+1) ks as bs hrest ha.2 hb.2
   (fun i c hc=>by have:=hx (i+1) c (by simpa using hc);rwa [show off+(i+1)=off+1+i by omega] at this)
   (fun i c hc=>by have:=hy (i+1) c (by simpa using hc);rwa [show off+(i+1)=off+1+i by omega] at this)
  have p1:(part f.type xs f.offset).run P w=.ok u w:=by simp[part,ZX hty,hoff,hu]
  have p2:(part f.type ys f.offset).run P w=.ok v w:=by simp[part,ZX hty,hoff,hv]
  have e1:=zeI hty ha.1 hb.1 ru rv n
  simp only[Op.eqFields,hname,not_false_eq_true,ne_eq,if_true,Sem.run_bind,p1,p2,e1,Result.andThen_ok]
  cases hab:a.keq1 b
  ·simp[zcQ,hab]
  ·simp[zcQ,hab,ih]
theorem zve {P:Program} {o:Oper} {op:BinOp} {neg:Bool} {t u:TypeId} {x y:Operand} {x' y':Opd} {ks:List K1} {fs:Array Field} (ho:o.op=.binOp op t x y u) (h:zQ x x'=true) (h2:zQ y y'=true)
  (hop:op=if neg then .neq else .eql) (ht:P.underlying t=some (.struct fs)) (hks:zbo P fs.toList 0 ks=true) (hp:P.stoodInHeld t=false) (hg:P.eqGuardType P.depth t=false):Zl P o (.eqa neg ks x' y'):=by
 intro γ w ρ a c he hc
 have r1:=zt h he
 have r2:=zt h2 he
 simp only[pev] at hc
 cases hx:x'.ev ρ<;>simp only[hx] at hc r1<;>try (cases hc;done)
 cases hy:y'.ev ρ<;>simp only[hy] at hc r2<;>try (cases hc;done)
 rename_i as bs
 split at hc
 ·rename_i hk
  obtain⟨hk1,hk2⟩:=hk
  simp only[Al1] at hc
  subst hc
  generalize hv:a.eval x=v at r1
  generalize hu:a.eval y=v' at r2
  cases r1 with
  | agg _ vs hl h1 hr =>
   cases r2 with
   | agg _ us hl' h1' hr' =>
    have hfo:P.fieldsOf t=fs:=by simp[Program.fieldsOf,ht]
    have hrun:(Op.equalIn 10000 t (.agg vs.toArray) (.agg us.toArray)).run P w=.ok (zcQ as bs) w:=by
     rw[run_equalIn_struct w 9999 t _ _ (by rw[hfo];exact ht) hp,hfo]
     refine zcv (γ:=γ) 9998 _ _ fs.toList 0 ks as bs hks hk1 hk2 (fun i c hc=>?_) (fun i c hc=>?_)
     ·have hi:i<vs.length:=by rw[← hl];exact(Z4.1 hc).1
      exact⟨vs[i],by simp[hi],hr i c _ hc (Al9 hi)⟩
     ·have hi:i<us.length:=by rw[← hl'];exact(Z4.1 hc).1
      exact⟨us[i],by simp[hi],hr' i c _ hc (Al9 hi)⟩
    refine zU (v:=.bool (if neg=true then !zcQ as bs else zcQ as bs)) ?_ (.bool _)
    cases neg<;>simp only[Al7,if_false,if_true] at hop ⊢<;>subst hop <;>
     simp only[execOp,ho,hv,hu,Sem.run_bind,run_eqGuard_agg w _ t x y _ _ hg,Result.andThen_ok,run_eql_struct,run_neq_struct,hrun,Sem.run_pure]
 ·cases hc
theorem ze1 (vs:Array Value):∀(off:Nat) (cs:List Value),off+vs.size≤cs.length →
  (vs.zipIdx.foldl (fun cs (c,j)=>cs.setIfInBounds (off+j) c) cs.toArray)=(cs.take off++vs.toList++cs.drop (off+vs.size)).toArray:=by
 obtain⟨l⟩:=vs
 intro off cs h
 simp only[List.size_toArray] at h
 have key:∀(l:List Value) (k off:Nat) (cs:List Value),off+k+l.length≤cs.length →
   ((l.zipIdx k).foldl (fun(cs:Array Value) (x:Value×Nat)=>cs.setIfInBounds (off+x.2) x.1) cs.toArray)=(cs.take (off+k)++l++cs.drop (off+k+l.length)).toArray:=by
  intro l
  induction l with
  | nil=>intro k off cs h;simp
  | cons x l ih =>
   intro k off cs h
   simp only[Al2] at h
   simp only[List.zipIdx_cons,List.foldl_cons,List.setIfInBounds_toArray]
   rw[ih (k+1) off _ (by simp;omega)]
   congr 1
   have h1:(cs.set (off+k) x).take (off+(k+1))=cs.take (off+k)++[x]:=by
    rw[show off+(k+1)=off+k+1 by omega,List.take_succ_eq_append_getElem (by simp;omega)]
    rw[List.take_set_of_le (by omega)]
    simp
   have h2:(cs.set (off+k) x).drop (off+(k+1)+l.length)=cs.drop (off+k+(l.length+1)):=by
    rw[List.drop_set_of_lt (by omega)]
    congr 1
    omega
   rw[h1,h2]
   simp
 have:=key l 0 off cs (by omega)
 have hz:(l.toArray.zipIdx)=(l.zipIdx 0).toArray:=by simp
 rw[hz,List.foldl_toArray']
 ·simpa using this
 ·simp
def zo (γ:Gh) (w:World) (cs:List AV) (vs:List Value):Prop :=
 cs.length=vs.length∧(∀(i:Nat) (v:Value),vs[i]?=some v→v.oneCell'=true)∧∀(i:Nat) (c:AV) (v:Value),cs[i]?=some c→vs[i]?=some v→Rep γ w c v
theorem zo.append {γ : Gh} {w : World} {cs ds : List AV} {vs us : List Value} (h : zo γ w cs vs) (h' : zo γ w ds us) : zo γ w (cs ++ ds) (vs ++ us) :=
  ⟨by simp [h.1, h'.1], fun i u hu => by
    rcases Nat.lt_or_ge i vs.length with hi | hi
    · rw [zb8 hi] at hu; exact h.2.1 i u hu
    · rw [zfc hi] at hu; exact h'.2.1 _ u hu,
   fun i d u hd hu => by
    rcases Nat.lt_or_ge i cs.length with hi | hi
    · rw [zb8 hi] at hd
      rw [zb8 (by rw [← h.1]; exact hi)] at hu
      exact h.2.2 i d u hd hu
    · rw [zfc hi] at hd
      rw [zfc (by rw [← h.1]; exact hi), ← h.1] at hu
      exact h'.2.2 _ d u hd hu⟩
theorem zo.take {γ : Gh} {w : World} {cs : List AV} {vs : List Value} (h : zo γ w cs vs) (n : Nat) : zo γ w (cs.take n) (vs.take n) :=
  ⟨by simp [h.1], fun i u hu => (by
    rw [zgW] at hu
    split at hu
    · exact h.2.1 i u hu
    · cases hu),
   fun i d u hd hu => by
    rw [zgW] at hd hu
    split at hd
    · rename_i hi; rw [if_pos hi] at hu; exact h.2.2 i d u hd hu
    · cases hd⟩
theorem zo.drop {γ : Gh} {w : World} {cs : List AV} {vs : List Value} (h : zo γ w cs vs) (n : Nat) : zo γ w (cs.drop n) (vs.drop n) :=
  ⟨by simp [h.1], fun i u hu => by rw [List.getElem?_drop] at hu; exact h.2.1 _ u hu,
   fun i d u hd hu => by rw [List.getElem?_drop] at hd hu; exact h.2.2 _ d u hd hu⟩
theorem zo.splice {γ:Gh} {w:World} {cs ds:List AV} {vs us:List Value} (h:zo γ w cs vs) (h':zo γ w ds us) (off:Nat) :
  zo γ w (splice cs off ds) (vs.take off++us++vs.drop (off+us.length)):=by
 unfold Ab.splice
 rw[h'.1]
 exact((h.take off).append h').append (h.drop _)
def zbc (place:Nat→Option (Nat×Nat)):List (Nat×Operand)→List (Nat×Nat×Opd)→Bool
 | [],[]=>true
 | (i,x)::r,(off,n,y)::s=>decide (place i=some (off,n))&&zQ x y&&zbc place r s
 | _,_=>false
theorem zlq {γ:Gh} {w:World} {ρ:Env} {a:Act} (place:Nat→Option (Nat×Nat)) (he:EnvRel γ w ρ a.tmps):∀(ps:List (Nat×Operand)) (qs:List (Nat×Nat×Opd)) (cs:List AV) (vs:List Value) (ds:List AV),
  zbc place ps qs=true→yh ρ cs qs=some ds→zo γ w cs vs →
  ∃ us,Instr.fill place vs.toArray (ps.map fun(i,x)=>(i,a.eval x))=some us.toArray∧zo γ w ds us
 | [],[],cs,vs,ds,_,hd,hr=>by simp only[yh,Al1] at hd;subst hd;exact⟨vs,rfl,hr⟩
 | [],_::_,_,_,_,h,_,_=>by simp[zbc] at h
 | _::_,[],_,_,_,h,_,_=>by simp[zbc] at h
 | (i,x)::ps,(off,n,y)::qs,cs,vs,ds,h,hd,hr=>by
  simp only[zbc,Al0,yH] at h
  obtain⟨⟨hp,hxy⟩,hrest⟩:=h
  simp only[yh] at hd
  split at hd
  ·rename_i hc
   obtain⟨hlen,hle,hbox⟩:=hc
   obtain⟨hl,h1,h2⟩:=(zt hxy he).cells hbox
   have hsz:(a.eval x).cells.size=n:=by rw[← hlen,hl];simp
   obtain⟨us,hu,hru⟩:=zlq place he ps qs _ _ ds hrest hd (hr.splice ⟨hl,h1,h2⟩ off)
   refine⟨us,?_,hru⟩
   simp only[List.map_cons,Instr.fill,hp]
   have hcond:¬ ((decide ((a.eval x).cells.size≠n)||decide (off+(a.eval x).cells.size > vs.toArray.size))=true):=by
    simp[hsz,← hr.1];omega
   rw[if_neg hcond,ze1 _ off vs (by rw[hsz,← hr.1];omega)]
   simpa using hu
  ·cases hd
theorem zR (sz:Nat):∀(xs:List (List AV)),(∀ x∈xs,x.length=sz)→xs.flatten.length=xs.length*sz
 | [],_=>by simp
 | x::xs,h=>by
  have ih:=zR sz xs fun y hy=>h y (Zm _ hy)
  have hx:=h x (Zr ..)
  simp only[List.flatten_cons,Al5,ih,hx,Al2,Nat.add_mul]
  omega
theorem zdb (sz:Nat):∀(xs:List (List AV)) (i j:Nat),(∀ x∈xs,x.length=sz)→j<sz→xs.flatten[i*sz+j]?=(xs[i]?).bind (·[j]?)
 | [],i,j,_,_=>by simp
 | x::xs,0,j,h,hj=>by
  have hx:=h x (Zr ..)
  simp only[Nat.zero_mul,Nat.zero_add,List.flatten_cons,List.getElem?_cons_zero,Option.bind_some]
  rw[zb8 (by omega)]
 | x::xs,i+1,j,h,hj=>by
  have hx:=h x (Zr ..)
  have ih:=zdb sz xs i j (fun y hy=>h y (Zm _ hy)) hj
  simp only[List.flatten_cons,List.getElem?_cons_succ]
  rw[zfc (by rw[hx,Nat.add_mul];omega),hx,← ih]
  congr 1
  rw[Nat.add_mul]
  omega
theorem Rep.sl_flat {γ:Gh} {w:World} {o:Own} {sz:Nat} {xs:List (List AV)} {us:List Value} {b off cap:Nat} (hu:∀ x∈xs,x.length=sz) (hl:xs.flatten.length=us.length)
  (hrow:∀(k:Nat) (u:Value),us[k]?=some u→CellIs γ w b (off+k) u) (hrel:∀(k:Nat) (c:AV) (u:Value),xs.flatten[k]?=some c→us[k]?=some u→Rep γ w c u)
  (hc:xs.length≤cap) (hm:cap≤maxLen) (ho:zc2 w o ⟨b,off,none⟩ xs.length cap sz):Rep γ w (.sl o sz xs) (.slice (some ⟨b,off,none⟩) xs.length cap):=by
 have hlen:=zR sz xs hu
 have hin:∀ i x,xs[i]?=some x→∀ j,j<sz→∃ u,us[i*sz+j]?=some u:=by
  intro i x hx j hj
  have hi:i<xs.length:=(Z4.1 hx).1
  have h1:i*sz+j<us.length:=by
   rw[← hl,hlen]
   have:(i+1)*sz≤xs.length*sz:=Nat.mul_le_mul_right _ hi
   rw[Nat.add_mul] at this
   omega
  exact⟨us[i*sz+j],Al9 h1⟩
 refine .sl o sz xs b off cap (fun i j=>us.getD (i*sz+j) undef) hc hm hu (fun i x hx j hj=>?_) (fun i x hx j c hj=>?_) ho
 ·obtain⟨u,hu'⟩:=hin i x hx j hj
  have:=hrow _ u hu'
  simpa[List.getD,hu'] using this
 ·have hj':j<sz:=by
   have:=(Z4.1 hj).1
   rw[hu x (List.mem_of_getElem? hx)] at this
   exact this
  obtain⟨u,hu'⟩:=hin i x hx j hj'
  have:=hrel _ c u (by rw[zdb sz xs i j hu hj',hx];exact hj) hu'
  simpa[List.getD,hu'] using this
theorem Rep.flat {γ : Gh} {w : World} {o : Own} {sz : Nat} {xs : List (List AV)} {b off n cap : Nat} (h : Rep γ w (.sl o sz xs) (.slice (some ⟨b, off, none⟩) n cap)) :
    n = xs.length ∧ (∀ x ∈ xs, x.length = sz) ∧ xs.length ≤ cap ∧ cap ≤ maxLen ∧ zc2 w o ⟨b, off, none⟩ xs.length cap sz ∧
    ∃ us : List Value, xs.flatten.length = us.length ∧ (∀ (k : Nat) (u : Value), us[k]? = some u → CellIs γ w b (off + k) u) ∧
      ∀ (k : Nat) (c : AV) (u : Value), xs.flatten[k]? = some c → us[k]? = some u → Rep γ w c u := by
  cases h with
  | sl0 _ _ _ ho => exact ⟨rfl, by simp, Al4 _, Nat.zero_le _, by rcases ho with rfl | rfl <;> simp [zc2], [], rfl, by simp, by simp⟩
  | sl _ _ _ _ _ _ cv hc hm hu hcell hr ho =>
    have hlen := zR sz xs hu
    refine ⟨rfl, hu, hc, hm, ho, (List.range (xs.length * sz)).map (fun k => cv (k / sz) (k % sz)), by simp [hlen], fun k u hk => ?_, fun k c u hck hk => ?_⟩
    · simp only [YH, zdp] at hk
      obtain ⟨k', hk', rfl⟩ := hk
      obtain ⟨hlt, rfl⟩ : k < xs.length * sz ∧ k = k' := by
        obtain ⟨h1, h2⟩ := Z4.1 hk'
        simp at h1 h2
        exact ⟨h1, h2⟩
      have hsz : 0 < sz := by rcases Nat.eq_zero_or_pos sz with h | h; · simp [h] at hlt
                              · exact h
      have hdiv : k / sz < xs.length := (Nat.div_lt_iff_lt_mul hsz).2 hlt
      have := hcell (k / sz) _ (Al9 hdiv) (k % sz) (Nat.mod_lt _ hsz)
      rwa [Nat.mul_comm, Nat.div_add_mod] at this
    · simp only [YH, zdp] at hk
      obtain ⟨k', hk', rfl⟩ := hk
      obtain ⟨hlt, rfl⟩ : k < xs.length * sz ∧ k = k' := by
        obtain ⟨h1, h2⟩ := Z4.1 hk'
        simp at h1 h2
        exact ⟨h1, h2⟩
      have hsz : 0 < sz := by rcases Nat.eq_zero_or_pos sz with h | h; · simp [h] at hlt
                              · exact h
      have hdiv : k / sz < xs.length := (Nat.div_lt_iff_lt_mul hsz).2 hlt
      have hg := zdb sz xs (k / sz) (k % sz) hu (Nat.mod_lt _ hsz)
      rw [Nat.mul_comm, Nat.div_add_mod, hck, Al9 hdiv] at hg
      exact hr (k / sz) _ (Al9 hdiv) (k % sz) c hg.symm
def Yj:List (Nat×Operand)→List (Nat×Opd)→Bool
 | [],[]=>true
 | (i,x)::r,(k,y)::s=>i==k&&zQ x y&&Yj r s
 | _,_=>false
theorem YZ (sz:Nat) (c:List AV) (hc:c.length=sz):∀(xs:List (List AV)) (i:Nat),(∀ x∈xs,x.length=sz)→i<xs.length→splice xs.flatten (i*sz) c=(xs.set i c).flatten
 | [],_,_,h=>by simp at h
 | x::xs,0,h,_=>by
  have hx:=h x (Zr ..)
  simp[splice,hc,← hx]
 | x::xs,i+1,h,hi=>by
  have hx:=h x (Zr ..)
  have ih:=YZ sz c hc xs i (fun y hy=>h y (Zm _ hy)) (by simpa using hi)
  simp only[List.flatten_cons,List.set_cons_succ]
  rw[← ih]
  unfold splice
  have e1:(i+1)*sz=x.length+i*sz:=by rw[Nat.add_mul,hx];omega
  rw[e1,List.take_length_add_append,show x.length+i*sz+c.length=x.length+(i*sz+c.length) by omega,List.drop_length_add_append]
  simp
theorem zcC {γ:Gh} {w:World} {cs:List AV} {vs:List Value} (h:zo γ w cs vs):zo γ w (cs.map AV.strip1) vs :=
 ⟨by simpa using h.1,h.2.1,fun i c v hc hv=>by
  rw[YH] at hc
  cases hx:cs[i]? with
  | none=>simp[hx] at hc
  | some x=>simp only[hx,zak,Al1] at hc;subst hc;exact(h.2.2 i x v hx hv).strip1⟩
theorem zfp {S:AV→AV} (hS:∀ {γ:Gh} {w:World} {cs:List AV} {vs:List Value},zo γ w cs vs→zo γ w (cs.map S) vs) {γ:Gh} {w:World} {ρ:Env} {a:Act} {sz:Nat} (he:EnvRel γ w ρ a.tmps):∀(ps:List (Nat×Operand)) (qs:List (Nat×Opd)) (xs:List (List AV)) (vs:List Value) (ys:List (List AV)),
  Yj ps qs=true→yc S ρ sz xs qs=some ys→(∀ x∈xs,x.length=sz)→zo γ w xs.flatten vs →
  ∃ us:List Value,Instr.fill (fun i=>some (i*sz,sz)) vs.toArray (ps.map fun(i,x)=>(i,a.eval x))=some us.toArray∧zo γ w ys.flatten us∧(∀ y∈ys,y.length=sz)∧ys.length=xs.length
 | [],[],xs,vs,ys,_,hd,hu,hr=>by simp only[yc,Al1] at hd;subst hd;exact⟨vs,rfl,hr,hu,rfl⟩
 | [],_::_,_,_,_,h,_,_,_=>by simp[Yj] at h
 | _::_,[],_,_,_,h,_,_,_=>by simp[Yj] at h
 | (i,x)::ps,(k,y)::qs,xs,vs,ys,h,hd,hu,hr=>by
  simp only[Yj,Al0,beq_iff_eq] at h
  obtain⟨⟨rfl,hxy⟩,hrest⟩:=h
  simp only[yc] at hd
  split at hd
  ·rename_i hc
   obtain⟨hlen,hlt,hbox⟩:=hc
   have hcells:zo γ w ((y.ev ρ).cells.map S) (a.eval x).cells.toList:=hS ((zt hxy he).cells hbox)
   have hlen':((y.ev ρ).cells.map S).length=sz:=by simpa using hlen
   have hsz:(a.eval x).cells.size=sz:=by rw[← hlen',hcells.1];simp
   have hfl:=zR sz xs hu
   have hfit:i*sz+sz≤vs.length:=by
    rw[← hr.1,hfl,← Nat.succ_mul]
    exact Nat.mul_le_mul_right _ hlt
   have hspl:=hr.splice hcells (i*sz)
   rw[YZ sz _ hlen' xs i hu hlt] at hspl
   obtain⟨us,hus,hru,huy,hly⟩:=zfp hS he ps qs _ _ ys hrest hd (fun z hz=>by
    rcases List.mem_or_eq_of_mem_set hz with hz|hz
    ·exact hu z hz
    ·rw[hz];exact hlen') hspl
   refine⟨us,?_,hru,huy,by rw[hly];simp⟩
   simp only[List.map_cons,Instr.fill]
   have hcond:¬ ((decide ((a.eval x).cells.size≠sz)||decide (i*sz+(a.eval x).cells.size > vs.toArray.size))=true):=by
    simp[hsz];omega
   rw[if_neg hcond,ze1 _ (i*sz) vs (by rw[hsz];exact hfit)]
   simpa using hus
  ·cases hd
theorem zbD (zero:List AV) (n:Nat):∀(k:Nat),k<(List.replicate n zero).flatten.length→(List.replicate n zero).flatten[k]?=zero[k % zero.length]?:=by
 induction n with
 | zero=>simp
 | succ n ih =>
  intro k hk
  simp only[List.replicate_succ,List.flatten_cons,Al5] at hk ⊢
  rcases Nat.lt_or_ge k zero.length with h|h
  ·rw[zb8 h,Nat.mod_eq_of_lt h]
  ·rw[zfc h,ih (k-zero.length) (by omega)]
   congr 1
   rw[Nat.mod_eq_sub_mod h]
theorem zvN {P:Program} {o:Oper} {t e:TypeId} {n sz:Nat} {parts:Array (Nat×Operand)} {qs:List (Nat×Opd)} {zero:List AV} {ei:TypeInfo} {z:Value} (ho:o.op=.buildSlice t n parts)
  (ht:P.underlying t=some (.slice e)) (hi:P.info? e=some ei) (hz:ei.zero=some z) (hsz:ei.size=sz) (hpos:0<sz) (hsmall:n*sz≤2 ^ 24) (hzero:zao z.cells.toList zero=true)
  (hparts:Yj parts.toList qs=true):Zl P o (.bls sz n zero qs):=by
 intro γ w ρ a c he hc
 simp only[pev] at hc
 split at hc
 ·rename_i hzl
  cases hf:yc AV.strip1 ρ sz (List.replicate n zero) qs with
  | none=>simp[hf] at hc
  | some ys =>
   simp only[hf,zak,Al1] at hc
   subst hc
   obtain⟨hz1,hz2,hz3⟩:=zb2 hzero γ w
   have huni:∀ x∈List.replicate n zero,x.length=sz:=fun x hx=>by rw[(List.mem_replicate.1 hx).2];exact hzl
   have hfl:(List.replicate n zero).flatten.length=n*sz:=by rw[zR sz _ huni];simp
   have hzs:z.cells.size=sz:=by have:=hz1;simp at this;omega
   have hstart:zo γ w (List.replicate n zero).flatten ((List.range (n*sz)).map (fun k=>z.cells.toList.getD (k % sz) undef)):=by
    refine⟨by simp[hfl],fun i v hv=>?_,fun i c v hc hv=>?_⟩
    ·simp only[YH,zdp] at hv
     obtain⟨k,_,rfl⟩:=hv
     have hlt:k % sz<z.cells.toList.length:=by simp[hzs];exact Nat.mod_lt _ hpos
     exact hz2 (k % sz) _ (by rw[List.getD,Al9 hlt];rfl)
    ·simp only[YH,zdp] at hv
     obtain⟨k,hk,rfl⟩:=hv
     obtain⟨h1,h2⟩:=Z4.1 hk
     simp at h1 h2
     subst h2
     rw[zbD zero n i (by rw[hfl];exact h1),hzl] at hc
     have hlt:i % sz<z.cells.toList.length:=by simp[hzs];exact Nat.mod_lt _ hpos
     exact hz3 (i % sz) c _ hc (by rw[List.getD,Al9 hlt];rfl)
   obtain⟨us,hus,hru,huy,hly⟩:=zfp zcC he parts.toList qs _ _ ys hparts hf huni hstart
   have hlen:ys.length=n:=by rw[hly];simp
   have hext:=Z3 (fun _=>False) γ w .imm us.toArray e
   have hcells:∀ f:Nat→Value,((List.range (n*sz)).map f).toArray=(Array.range (n*sz)).map f:=fun f=>by apply Array.ext';simp
   refine⟨.slice (some ⟨w.heap.size,0,none⟩) n n,_,_,?_,hext,?_⟩
   ·have hstart':(Array.range (n*sz)).map (z.cells[· % z.cells.size]!)=((List.range (n*sz)).map (fun k=>z.cells.toList.getD (k % sz) undef)).toArray:=by
     rw[hcells]
     apply Array.map_congr_left
     intro k hk
     have hlt:k % sz<z.cells.size:=by rw[hzs];exact Nat.mod_lt _ hpos
     rw[hzs]
     simp[List.getD,hlt]
    have hmap:(parts.map fun(x:Nat×Operand)=>(x.1,a.eval x.2)).toList=parts.toList.map fun(i,x)=>(i,a.eval x):=by simp
    have hnot:¬ n*ei.size > 2 ^ 24:=by rw[hsz];omega
    simp only[execOp,ho,Instr.buildSlice,Sem.run_bind,run_underlying ht,Result.andThen_ok,sizeOf,typeInfo,run_program,hi,Sem.run_pure,hsz,zeroValue,hz]
    rw[hsz] at hnot
    rw[← hstart'] at hus
    by_cases hn:n*sz=0
    ·have h0:∀ f:Nat→Value,(Array.range 0).map f=#[]:=fun f=>by apply Array.ext';simp
     rw[hn,h0] at hus
     simp[hn,h0,hus,newRow]
    ·simp[hn,hnot,hus,newRow,zeroValue,typeInfo,hi,hz]
   ·rw[← hlen]
    refine Rep.sl_flat huy hru.1 (fun k u hk=>?_) (fun k c u hc hk=>(hru.2.2 k c u hc hk).mono hext.mono) (by omega) ?_ rfl
    ·refine⟨?_,by simp[Yv],hru.2.1 k u hk⟩
     rw[Nat.zero_add,World.cell?_alloc_new]
     simpa using hk
    ·have:n*1≤n*sz:=Nat.mul_le_mul_left _ hpos
     unfold maxLen;omega
 ·cases hc
theorem zbe {γ:Gh} {w:World} {vs:List Value} {cs:List AV} (h:zao vs cs=true):zo γ w cs vs:=let ⟨a,b,c⟩:=zb2 h γ w;⟨a,b,c⟩
def zjZ (P:Program) (t:TypeId):Option (Nat→Option (Nat×Nat)) :=
 match P.underlying t with
 | some (.array _ e)=>(P.info? e).map fun ie=>fun i=>some (i*ie.size,ie.size)
 | some (.struct fields)=>(fields.toList.mapM (fun f=>(P.info? f.type).map fun i=>(f.offset,i.size))).map fun places=>fun i=>places.toArray[i]?
 | _=>none
theorem zvQ {P:Program} {o:Oper} {t:TypeId} {parts:Array (Nat×Operand)} {qs:List (Nat×Nat×Opd)} {zero:List AV} {ti:TypeInfo} {z:Value} {place:Nat→Option (Nat×Nat)} (ho:o.op=.build t parts)
  (hi:P.info? t=some ti) (hz:ti.zero=some z) (hzero:zao z.cells.toList zero=true) (hpl:zjZ P t=some place) (hparts:zbc place parts.toList qs=true):Zl P o (.bld zero qs):=by
 intro γ w ρ a c he hc
 simp only[pev] at hc
 cases hf:yh ρ zero qs with
 | none=>simp[hf] at hc
 | some ds =>
  simp only[hf,zak,Al1] at hc
  subst hc
  obtain⟨us,hus,hr⟩:=zlq place he parts.toList qs zero z.cells.toList ds hparts hf (zbe hzero)
  refine zU (v:=.agg us.toArray) ?_ (.agg _ _ hr.1 hr.2.1 hr.2.2)
  have hbuilt:P.built t (parts.map fun(x:Nat×Operand)=>(x.1,a.eval x.2)).toList=some us.toArray:=by
   have hmap:(parts.map fun(x:Nat×Operand)=>(x.1,a.eval x.2)).toList=parts.toList.map fun(i,x)=>(i,a.eval x):=by simp
   rw[hmap]
   unfold zjZ at hpl
   unfold Program.built
   cases hd:P.underlying t with
   | none=>simp[hd] at hpl
   | some d =>
    cases d<;>simp only[hd] at hpl<;>try (cases hpl;done)
    ·rename_i n e
     cases hie:P.info? e with
     | none=>simp[hie] at hpl
     | some ie =>
      simp only[hie,zak,Al1] at hpl
      subst hpl
      simp only[hi,hz,hie]
      simpa using hus
    ·rename_i fields
     cases hm:fields.toList.mapM (fun f=>(P.info? f.type).map fun i=>(f.offset,i.size)) with
     | none=>simp[hm] at hpl
     | some places =>
      simp only[hm,zak,Al1] at hpl
      subst hpl
      simp only[hi,hz,hm]
      simpa using hus
  simp only[execOp,ho,Sem.run_bind,run_build w t _ _ hbuilt,Result.andThen_ok,Sem.run_pure]
theorem Rep.cut {γ:Gh} {w:World} {o:Own} {sz:Nat} {xs:List (List AV)} {ad:Option Addr} {n cap:Nat} (hr:Rep γ w (.sl o sz xs) (.slice ad n cap)) {l h m:Nat} (h1:l≤h) (h2:h≤xs.length) (h3:h≤m) (h4:m≤cap)
  (o':Own) (ho':o'=.no∨(o'=.full∧m=h)∨(o'=o.cut l∧h=xs.length∧m=cap)):Rep γ w (.sl o' sz ((xs.take h).drop l)) (.slice (if m=l then ad else ad.map (·.add (l*sz))) (h-l) (m-l)):=by
 cases hr with
 | slnil _ _ hn =>
  simp only[Al3] at h2
  have e1:m=0:=by omega
  have e2:h=0:=by omega
  have e3:l=0:=by omega
  subst e1;subst e2;subst e3
  simp only[List.take_nil,List.drop_nil,if_true,Nat.sub_self]
  exact .slnil o' sz (by
   rcases ho' with rfl|⟨rfl,_⟩|⟨rfl,_⟩
   ·simp
   ·simp
   ·cases o with
    | tip b d=>exact absurd rfl (hn b d)
    | _=>simp[Own.cut])
 | sl0 _ _ ad hn =>
  simp only[Al3] at h2
  have e1:m=0:=by omega
  have e2:h=0:=by omega
  have e3:l=0:=by omega
  subst e1;subst e2;subst e3
  simp only[List.take_nil,List.drop_nil,if_true,Nat.sub_self]
  exact .sl0 o' sz ad (by
   rcases ho' with rfl|⟨rfl,_⟩|⟨rfl,_⟩
   ·simp
   ·simp
   ·rcases hn with rfl|rfl<;>simp[Own.cut])
 | sl _ _ _ b off _ cv hc hm hu hcell hrr ho =>
  have hlen:((xs.take h).drop l).length=h-l:=by simp;omega
  have hget:∀ i x,((xs.take h).drop l)[i]?=some x→xs[l+i]?=some x∧l+i<h:=by
   intro i x hx
   rw[List.getElem?_drop,zgW] at hx
   split at hx
   ·rename_i hlt;exact⟨hx,hlt⟩
   ·cases hx
  have hown:zc2 w o' ⟨b,off+l*sz,none⟩ ((xs.take h).drop l).length (m-l) sz:=by
   rcases ho' with rfl|⟨rfl,rfl⟩|⟨rfl,rfl,rfl⟩
   ·trivial
   ·simpa[zc2] using hlen
   ·cases o with
    | no=>trivial
    | nil=>exact ho.elim
    | full =>
     have:xs.length=m:=ho
     show ((xs.take xs.length).drop l).length=m-l
     omega
    | tip b' d =>
     rcases ho with h0|⟨ha,arr,E,hb,hs⟩
     ·exact .inl (by omega)
     ·simp only[Addr.mk.injEq] at ha
      obtain⟨rfl,rfl,_⟩:=ha
      refine .inr ⟨by rw[Nat.add_mul],arr,E,hb,?_⟩
      rw[hs]
      congr 1
      omega
  have hown2:m=l→zc2 w o' ⟨b,off,none⟩ ((xs.take h).drop l).length (m-l) sz:=by
   intro hml
   rcases ho' with rfl|⟨rfl,rfl⟩|⟨rfl,rfl,rfl⟩
   ·trivial
   ·simpa[zc2] using hlen
   ·cases o with
    | no=>trivial
    | nil=>exact ho.elim
    | full =>
     have:xs.length=m:=ho
     show ((xs.take xs.length).drop l).length=m-l
     omega
    | tip b' d=>exact .inl (by omega)
  rw[← hlen]
  split
  ·rename_i hml
   have hnil:(xs.take h).drop l=[]:=List.eq_nil_of_length_eq_zero (by omega)
   refine .sl o' sz _ b off (m-l) (fun _ _=>undef) (by omega) (by omega) (fun x hx=>by rw[hnil] at hx;cases hx) (fun i x hx=>by rw[hnil] at hx;simp at hx) (fun i x hx=>by rw[hnil] at hx;simp at hx) (hown2 hml)
  ·simp only[zak,addr_add]
   refine .sl o' sz _ b (off+l*sz) (m-l) (fun i j=>cv (l+i) j) (by omega) (by omega) (fun x hx=>?_) (fun i x hx j hj=>?_) (fun i x hx j c hj=>?_) hown
   ·exact hu x (List.mem_of_mem_take (List.mem_of_mem_drop hx))
   ·obtain⟨hx',_⟩:=hget i x hx
    have:=hcell (l+i) x hx' j hj
    rw[show off+l*sz+(i*sz+j)=off+((l+i)*sz+j) by rw[Nat.add_mul];omega]
    exact this
   ·obtain⟨hx',_⟩:=hget i x hx
    exact hrr (l+i) x hx' j c hj
theorem zlv {P:Program} {w:World} {γ:Gh} {ρ:Env} {a:Act} (len cap:Nat) {lo hi:Option Operand} {m0:Operand} {lo' hi':Option Opd} {m0':Opd} (hlo:zbf lo lo'=true) (hhi:zbf hi hi'=true) (hmx:zQ m0 m0'=true)
  (he:EnvRel γ w ρ a.tmps) {l h m:Int} (hl:bound 0 ρ lo'=some l) (hh:bound len ρ hi'=some h) (hm:bound 0 ρ (some m0')=some m) (hhs:hi'.isSome=true) (h0:0≤l) (h1:l≤h) (h2:h≤m) (h3:m≤cap) :
  (Instr.sliceBounds true len cap (lo.map a.eval) (hi.map a.eval) (some (a.eval m0))).run P w=.ok (l.toNat,h.toNat,m.toNat) w:=by
 obtain⟨km,hkm⟩:=zb9 (P:=P) (zt hmx he) hm
 cases hi with
 | none=>cases hi'<;>simp[zbf] at hhi hhs
 | some x =>
  cases hi' with
  | none=>cases hhi
  | some y =>
   obtain⟨kh,hkh⟩:=zb9 (P:=P) (zt hhi he) hh
   have b0:∀ k code,(Instr.sliceBound (.int k m) cap code).run P w=.ok m.toNat w:=fun k code=>Yf k m cap code (by omega) (by omega)
   have b1:∀ k code,(Instr.sliceBound (.int k h) m.toNat code).run P w=.ok h.toNat w:=fun k code=>Yf k h _ code (by omega) (by omega)
   have b2:∀ k code,(Instr.sliceBound (.int k l) h.toNat code).run P w=.ok l.toNat w:=fun k code=>Yf k l _ code h0 (by omega)
   unfold Instr.sliceBounds
   cases lo with
   | none =>
    cases lo' with
    | some y=>cases hlo
    | none =>
     have:l=0:=by simpa[bound] using hl.symm
     subst this
     simp[hkm,hkh,b0,b1]
   | some x2 =>
    cases lo' with
    | none=>cases hlo
    | some y2 =>
     obtain⟨kl,hkl⟩:=zb9 (P:=P) (zt hlo he) hl
     simp[hkm,hkh,hkl,b0,b1,b2]
theorem Rep.slice_form {γ:Gh} {w:World} {o:Own} {sz:Nat} {xs:List (List AV)} {v:Value} (h:Rep γ w (.sl o sz xs) v):∃ ad cap,v=.slice ad xs.length cap∧xs.length≤cap:=by
 cases h with
 | slnil _ _ _=>exact⟨none,0,rfl,Al4 _⟩
 | sl0 _ _ ad _=>exact⟨some ad,0,rfl,Al4 _⟩
 | sl _ _ _ b off cap cv hc _ _ _ _ _=>exact⟨_,cap,rfl,hc⟩
theorem zvV {P:Program} {o:Oper} {t e:TypeId} {x:Operand} {lo hi mx:Option Operand} {x':Opd} {lo' hi' mx':Option Opd} {sz:Nat} {ei:TypeInfo} (ho:o.op=.slice t x lo hi mx) (h:zQ x x'=true) (hlo:zbf lo lo'=true)
  (hhi:zbf hi hi'=true) (hmx:zbf mx mx'=true) (hsome:mx'.isSome=true→hi'.isSome=true) (ht:P.underlying t=some (.slice e)) (hei:P.info? e=some ei) (hsz:ei.size=sz):Zl P o (.sll sz x' lo' hi' mx'):=by
 intro γ w ρ a c he hc
 have r1:=zt h he
 simp only[pev] at hc
 cases hx:x'.ev ρ<;>simp only[hx] at hc r1<;>try (cases hc;done)
 rotate_left
 ·rename_i b off len cap
  generalize hv:a.eval x=v at r1
  cases r1 with
  | ms _ _ _ _ hlt hcap hm =>
   cases mx' with
   | some _=>cases hc
   | none =>
    cases mx with
    | some y=>cases hmx
    | none =>
     cases hl:bound 0 ρ lo' with
     | none=>simp only[hl,znd] at hc;cases hc
     | some l =>
      cases hh:bound len ρ hi' with
      | none=>simp only[hl,hh,znd] at hc;cases hc
      | some hb =>
       simp only[hl,hh,znd] at hc
       split at hc
       ·rename_i hk
        obtain⟨h0,h1,h2⟩:=hk
        simp only[Al1] at hc
        subst hc
        have hbnd:=zc3 (P:=P) true len cap hlo hhi he hl hh h0 h1 h2 hcap
        have hr:Rep γ w (.ms b (if cap=l.toNat then off else off+l.toNat*sz) (hb.toNat-l.toNat) (cap-l.toNat)) (.slice (if cap=l.toNat then some ⟨b,off,none⟩ else (some (⟨b,off,none⟩:Addr)).map (·.add (l.toNat*sz))) (hb.toNat-l.toNat) (cap-l.toNat)):=by
         by_cases h:cap=l.toNat
         ·rw[if_pos h,if_pos h];exact .ms b off _ _ hlt (by omega) (by omega)
         ·rw[if_neg h,if_neg h]
          simp only[zak,addr_add]
          exact .ms b _ _ _ hlt (by omega) (by omega)
        refine zU ?_ hr
        simp only[execOp,ho,hv,Instr.sliceAt,Sem.run_bind,run_underlying ht,Result.andThen_ok,Instr.slice,Option.map_none,hbnd,sizeOf,typeInfo,run_program,hei,Sem.run_pure,hsz]
       ·cases hc
 rename_i own sz' xs
 obtain⟨ad,cap,hv,hcap⟩:=r1.slice_form
 rw[hv] at r1
 cases hl:bound 0 ρ lo' with
 | none=>simp only[hl] at hc;cases hc
 | some l =>
  cases hh:bound xs.length ρ hi' with
  | none=>simp only[hl,hh] at hc;cases mx'<;>simp at hc
  | some hb =>
   cases mx' with
   | none =>
    cases mx with
    | some y=>cases hmx
    | none =>
     simp only[hl,hh] at hc
     split at hc
     ·rename_i hk
      obtain⟨rfl,h0,h1,h2⟩:=hk
      simp only[Al1] at hc
      subst hc
      have hbnd:=zc3 (P:=P) true xs.length cap hlo hhi he hl hh h0 h1 h2 hcap
      refine zU ?_ (r1.cut (l:=l.toNat) (h:=hb.toNat) (m:=cap) (by omega) (by omega) (by omega) (Al4 _) _ (by
       cases hi' with
       | none=>simp only[bound,Al1] at hh;subst hh;exact .inr (.inr ⟨by simp,by simp,rfl⟩)
       | some _=>exact .inl (by simp)))
      simp only[execOp,ho,hv,Instr.sliceAt,Sem.run_bind,run_underlying ht,Result.andThen_ok,Instr.slice,Option.map_none,hbnd,sizeOf,typeInfo,run_program,hei,Sem.run_pure,hsz]
     ·cases hc
   | some m' =>
    cases mx with
    | none=>cases hmx
    | some y =>
     simp only[hl,hh] at hc
     cases hm:m'.ev ρ<;>simp only[hm] at hc<;>try (cases hc;done)
     rename_i km m
     split at hc
     ·rename_i hk
      obtain⟨rfl,h0,h1,h2,h3⟩:=hk
      simp only[Al1] at hc
      subst hc
      have hbnd:=zlv (P:=P) xs.length cap hlo hhi hmx he hl hh (m:=m) (by simp[bound,hm]) (hsome rfl) h0 h1 h2 (by omega)
      refine zU ?_ (r1.cut (l:=l.toNat) (h:=hb.toNat) (m:=m.toNat) (by omega) (by omega) (by omega) (by omega) _ ?_)
      ·simp only[execOp,ho,hv,Instr.sliceAt,Sem.run_bind,run_underlying ht,Result.andThen_ok,Instr.slice,zak,hbnd,sizeOf,typeInfo,run_program,hei,Sem.run_pure,hsz]
      ·split
       ·rename_i e;exact .inr (.inl ⟨rfl,by rw[e]⟩)
       ·exact .inl rfl
     ·cases hc
def yw (H:zb) (w:World) (H':zb):Prop:=∀ b,(H' b).isSome=true→(H b).isSome=true∨w.heap.size≤b
def keysOf (H:zb):Nat→Prop:=fun b=>(H b).isSome=true
def ze3 (P:Program) (o:Oper) (ao:AOp):Prop :=
 ∀(γ:Gh) (w:World) (H:zb) (ρ:Env) (a:Act) (K KP:AV→zb→Prop) (next:Act→World→Prop) (Q:Exit→Act→World→Prop),
  EnvRel γ w ρ a.tmps→zr γ w H→aop P KP ao ρ H K →
  (∀ γ' w' H' c v,Ext (keysOf H) γ w γ' w'→zr γ' w' H'→yw H w H'→Rep γ' w' c v→K c H'→next (a.put o.dst v) w') →
  (∀ γ' w' H' c v,Ext (keysOf H) γ w γ' w'→zr γ' w' H'→yw H w H'→Rep γ' w' c v→KP c H'→Q (.panic [{ v,recovered:=false }]) a w') →
  o.wp P a w next Q
theorem yw.refl (H:zb) (w:World):yw H w H:=fun _ h=>.inl h
theorem yr {P:Program} {o:Oper} {a:Act} {w w':World} {v:Value} {next:Act→World→Prop} {Q:Exit→Act→World→Prop} (h:(execOp a.eval o).run P w=.ok (.value v) w') (hn:next (a.put o.dst v) w'):o.wp P a w next Q:=by
 unfold Oper.wp
 rw[h]
 exact hn
theorem zei {P:Program} {o:Oper} {a:Act} {w w':World} {next:Act→World→Prop} {Q:Exit→Act→World→Prop} (h:(execOp a.eval o).run P w=.ok .skip w') (hn:next (a.put o.dst undef) w'):o.wp P a w next Q:=by
 unfold Oper.wp
 rw[h]
 exact hn
theorem zS {P:Program} {o:Oper} {ao:AOp} (hcls:ao.cls=.pure) (h:Zl P o ao):ze3 P o ao:=by
 intro γ w H ρ a K KP next Q he hs hop hn hp
 unfold aop at hop
 rw[hcls] at hop
 simp only at hop
 cases hv:pev ρ ao with
 | none=>simp[hv] at hop
 | some c =>
  simp only[hv] at hop
  obtain⟨v,γ',w',hr,hext,hrep⟩:=h γ w ρ a c he hv
  exact yr hr (hn γ' w' H c v (hext.weaken fun _ f=>f.elim) (hs.kept hext fun _ _ _ f=>f) (yw.refl _ _) hrep hop)
def zmP (P:Program) (o:Oper) (ao:AOp):Prop :=
 ∀(γ:Gh) (w:World) (H:zb) (ρ:Env) (a:Act) (c:AV),EnvRel γ w ρ a.tmps→zr γ w H→rev ρ H ao=some c →
  ∃ v,(execOp a.eval o).run P w=.ok (.value v) w∧Rep γ w c v
theorem zgU {P:Program} {o:Oper} {ao:AOp} (hcls:ao.cls=.read) (h:zmP P o ao):ze3 P o ao:=by
 intro γ w H ρ a K KP next Q he hs hop hn hp
 unfold aop at hop
 rw[hcls] at hop
 simp only at hop
 cases hv:rev ρ H ao with
 | none=>simp[hv] at hop
 | some c =>
  simp only[hv] at hop
  obtain⟨v,hr,hrep⟩:=h γ w H ρ a c he hs hv
  exact yr hr (hn γ w H c v (.refl _ _ _) hs (yw.refl _ _) hrep hop)
theorem zhG {P:Program} {w:World} {t:TypeId} {ti:TypeInfo} {d:TypeDesc} {n:Nat} {ag:Bool} (hi:P.info? t=some ti) (hn:ti.size=n) (hd:P.underlying t=some d) (hag:zfA (P.underlying t)=ag) (h1:ag=true∨n=1)
  (b off:Nat) (us:List Value) (hlen:us.length=n) (hc:∀(j:Nat) (v:Value),us[j]?=some v→w.cell? ⟨b,off+j,none⟩=some v) :
  (loadVar t ⟨b,off,none⟩).run P w=.ok (if ag then .agg us.toArray else us.headD undef) w:=by
 unfold loadVar
 rw[Sem.run_bind,ziD hd,hag]
 cases ag with
 | true =>
  have hl:(loadCells ⟨b,off,none⟩ us.length).run P w=.ok us.toArray w:=run_loadCells_list w _ us (fun j v hj=>by rw[addr_add];exact hc j v hj)
  rw[hlen] at hl
  simp[sizeOf,typeInfo,hi,hn,hl]
 | false =>
  have hn1:n=1:=by rcases h1 with h|h<;>simp_all
  subst hn1
  cases us with
  | nil=>simp at hlen
  | cons u us =>
   have h0:=hc 0 u rfl
   simp only[Nat.add_zero] at h0
   simp[h0]
theorem zvR {γ:Gh} {w:World} {cs:List AV} {us:List Value} {n:Nat} {ag:Bool} (h1:ag=true∨n=1) (hl:cs.length=n) (h:zo γ w cs us):Rep γ w (mk ag cs) (if ag then .agg us.toArray else us.headD undef):=by
 cases ag with
 | true=>exact .agg _ _ h.1 h.2.1 h.2.2
 | false =>
  have hn1:n=1:=by rcases h1 with h|h<;>simp_all
  subst hn1
  cases cs with
  | nil=>simp at hl
  | cons c cs =>
   cases us with
   | nil=>simp[zo] at h
   | cons u us=>exact h.2.2 0 c u rfl rfl
theorem zuv {P:Program} {o:Oper} {t:TypeId} {x:Operand} {x':Opd} {n:Nat} {ag:Bool} {ti:TypeInfo} {d:TypeDesc} (ho:o.op=.load t x) (h:zQ x x'=true) (hi:P.info? t=some ti) (hn:ti.size=n) (hd:P.underlying t=some d)
  (hag:zfA (P.underlying t)=ag) (h1:ag=true∨n=1):zmP P o (.ld n ag x'):=by
 intro γ w H ρ a c he hs hc
 have r1:=zt h he
 simp only[rev] at hc
 have fin:∀ b off us cs,a.eval x=.pointer (some ⟨b,off,none⟩)→cs.length=n→zo γ w cs us→(∀(j:Nat) (v:Value),us[j]?=some v→w.cell? ⟨b,off+j,none⟩=some v)→c=mk ag cs →
   ∃ v,(execOp a.eval o).run P w=.ok (.value v) w∧Rep γ w c v:=by
  intro b off us cs hv hl hr hcell hceq
  subst hceq
  refine⟨_,?_,zvR h1 hl hr⟩
  have hrun:=zhG hi hn hd hag h1 b off us (by rw[← hr.1];exact hl) hcell
  simp[execOp,ho,hv,Instr.loadAt,Instr.sureAddr,hrun]
 cases hx:x'.ev ρ<;>simp only[hx] at hc r1<;>try (cases hc;done)
 ·rename_i b off
  cases hb:H b with
  | none=>simp[hb] at hc
  | some ob =>
   cases ob<;>simp only[hb] at hc<;>try (cases hc;done)
   rename_i cs
   split at hc
   ·rename_i hle
    simp only[Al1] at hc
    generalize hv:a.eval x=v at r1
    cases r1
    cases hs b _ hb with
    | cells _ vs E hk hbb hl hone hr =>
     have hfr:zo γ w ((cs.drop off).take n) ((vs.drop off).take n):=(zo.drop ⟨hl,hone,hr⟩ off).take n
     refine fin b off _ _ hv (by simp;omega) hfr (fun j u hj=>?_) hc.symm
     rw[zgW] at hj
     split at hj
     ·rw[List.getElem?_drop] at hj
      rw[cell_of_row w b _ _ _ _ hbb]
      simpa using hj
     ·cases hj
   ·cases hc
 ·rename_i cs
  split at hc
  ·rename_i hle
   simp only[Al1] at hc
   generalize hv:a.eval x=v at r1
   cases r1 with
   | view _ b off cv hcell hr =>
    refine fin b off ((List.range n).map cv) (cs.take n) hv (by simp;omega) ⟨by simp;omega,fun i u hu=>?_,fun i c u hc hu=>?_⟩ (fun j u hj=>?_) hc.symm
    ·simp only[YH,zdp] at hu
     obtain⟨k,hk,rfl⟩:=hu
     obtain⟨h1,h2⟩:=Z4.1 hk
     simp at h1 h2
     exact(hcell k (by omega)).2.2
    ·simp only[YH,zdp] at hu
     obtain⟨k,hk,rfl⟩:=hu
     obtain⟨h1,h2⟩:=Z4.1 hk
     simp at h1 h2
     subst h2
     rw[zgW,if_pos h1] at hc
     exact hr i _ hc
    ·simp only[YH,zdp] at hj
     obtain⟨k,hk,rfl⟩:=hj
     obtain⟨h1,h2⟩:=Z4.1 hk
     simp at h1 h2
     subst h2
     exact(hcell j (by omega)).1
  ·cases hc
theorem zmp (F:Nat→Prop) (γ:Gh) (w:World) (k:BK) (es:Array MapEntry) (clock:Nat) :
  Ext F γ w (fun b=>if b=w.heap.size then k else γ b) (w.alloc (.map es clock)):=by
 have hne:∀ b,b<w.heap.size→b≠w.heap.size:=fun b h=>Nat.ne_of_lt h
 have hold:∀ b,b<w.heap.size→(w.alloc (.map es clock)).heap[b]?=w.heap[b]?:=fun b hb=>heap_alloc_old w _ hb
 refine⟨⟨by simp,fun b o v hc hp=>?_,fun b arr E fr hb=>?_⟩,rfl,rfl,fun a _=>?_,fun b hb _=>⟨by simp[hne b hb],hold b hb⟩⟩
 ·have hlt:=World.block_lt_of_cell? w _ hc
  refine⟨by simpa[Yv,hne b hlt] using hp,?_⟩
  rw[World.cell?_alloc_lt _ _ _ hlt];exact hc
 ·have hlt:=(zck.1 hb).1
  exact⟨arr,by rw[hold b hlt];exact hb,rfl⟩
 ·by_cases h:a.block=w.heap.size
  ·have e1:(w.alloc (.map es clock)).heap[a.block]?=some (.map es clock):=by rw[h];exact heap_alloc_new w _
   have e2:w.heap[a.block]?=none:=by rw[h];simp
   simp[World.frozen?,e1,e2]
  ·exact World.frozen?_alloc_old _ _ _ h
theorem YO {γ γ':Gh} {w w':World} {H:zb} {x:AObj} {F:Nat→Prop} (hs:zr γ w H) (hext:Ext (fun _=>False) γ w γ' w') (hx:ObjRel γ' w' w.heap.size x):zr γ' w' (H.upd w.heap.size x):=by
 intro b o hb
 unfold zb.upd at hb
 split at hb
 ·rename_i e;subst e;simp only[Al1] at hb;subst hb;exact hx
 ·exact hs.kept hext (fun _ _ _ f=>f) b o hb
theorem Zo {H:zb} {w:World} {x:AObj}:yw H w (H.upd w.heap.size x):=by
 intro b hb
 unfold zb.upd at hb
 split at hb
 ·rename_i e;exact .inr (by omega)
 ·exact .inl hb
theorem ZM {γ:Gh} {w:World} {H:zb} (hs:zr γ w H):H w.heap.size=none:=by
 cases h:H w.heap.size with
 | none=>rfl
 | some o=>exact absurd (hs _ _ h).lt (Nat.lt_irrefl _)
theorem zd2 {γ:Gh} {w:World} {H:zb} (hs:zr γ w H):¬ zcz H:=fun⟨n,h⟩=>by
 cases hb:H (max n w.heap.size) with
 | none=>exact h _ (Nat.le_max_left ..) hb
 | some o=>have:=(hs _ _ hb).lt;omega
theorem zrS {P:Program} {o:Oper} {t:TypeId} {zero:List AV} {ti:TypeInfo} {z:Value} (ho:o.op=.alloc t) (hi:P.info? t=some ti) (hz:ti.zero=some z) (hzero:zao z.cells.toList zero=true):ze3 P o (.alloc zero):=by
 intro γ w H ρ a K KP next Q he hs hop hn hp
 simp only[aop,AOp.cls,oev,yJ] at hop
 have hext:=Z3 (fun _=>False) γ w .own z.cells t
 have hf:=zbe (γ:=fun b=>if b=w.heap.size then BK.own else γ b) (w:=w.alloc (.cells z.cells t)) hzero
 refine yr (v:=.pointer (some ⟨w.heap.size,0,none⟩)) ?_ (hn _ _ _ _ _ (hext.weaken fun _ f=>f.elim) (YO (F:=fun _=>False) hs hext (.cells zero z.cells.toList t (by simp) ?_ hf.1 hf.2.1 hf.2.2)) Zo (.ptr _ 0 (by simp)) (hop _ (ZM hs)))
 ·simp[execOp,ho,Instr.alloc,zeroValue,typeInfo,hi,hz,newVar,newRow]
 ·rw[heap_alloc_new]
theorem zv2 {P:Program} {o:Oper} {t:TypeId} {x:Operand} {x':Opd} (ho:o.op=.box t x) (h:zQ x x'=true):ze3 P o (.box x'):=by
 intro γ w H ρ a K KP next Q he hs hop hn hp
 simp only[aop,AOp.cls,oev,yJ] at hop
 split at hop
 ·rename_i ob hob
  split at hob
  ·rename_i hbox
   simp only[Al1] at hob
   subst hob
   have hext:=Z3 (fun _=>False) γ w .own (a.eval x).cells t
   obtain⟨hl,h1,hr⟩:=((zt h he).mono hext.mono).cells hbox
   refine yr (v:=.pointer (some ⟨w.heap.size,0,none⟩)) ?_ (hn _ _ _ _ _ (hext.weaken fun _ f=>f.elim) (YO (F:=fun _=>False) hs hext (.cells _ (a.eval x).cells.toList t (by simp) ?_ hl h1 hr)) Zo (.ptr _ 0 (by simp)) (hop _ (ZM hs)))
   ·simp[execOp,ho,Instr.box,newVar,newRow]
   ·rw[heap_alloc_new]
  ·cases hob
 ·exact(zd2 hs hop).elim
theorem zvF {P:Program} {o:Oper} {t:TypeId} {kt:KT} (ho:o.op=.makeMap t none):ze3 P o (.mkm kt):=by
 intro γ w H ρ a K KP next Q he hs hop hn hp
 simp only[aop,AOp.cls,oev,yJ] at hop
 have hext:=zmp (fun _=>False) γ w .own #[] 0
 refine yr (v:=.map (some w.heap.size)) ?_ (hn _ _ _ _ _ (hext.weaken fun _ f=>f.elim) (YO (F:=fun _=>False) hs hext (.map kt [] [] 0 (by simp) (by simp) ?_ rfl (by simp))) Zo (.mp _ (by simp)) (hop _ (ZM hs)))
 ·simp[execOp,ho,Instr.makeMap]
 ·rw[heap_alloc_new]
theorem zsm {P:Program} {o:Oper} {f:FuncId} {args:Array Operand} {args':List Opd} {ts:Array TypeId} (ho:o.op=.call { callee:=.value (.func f),args:=args,argTypes:=ts }) (h:YY args.toList args'=true) (hf:Program.callable P f=true) :
  ze3 P o (.call f args'):=by
 intro γ w H ρ a K KP next Q he hs hop hn hp
 simp only[aop,AOp.cls,eff] at hop
 have hargs:=zcb h he
 have hc:=hop γ w _ he.tab hs hargs
 unfold Program.callable at hf
 cases hfn:P.funcs[f]? with
 | none=>simp[hfn] at hf
 | some fn =>
  simp only[hfn,Al0,bne_iff_ne,ne_eq] at hf
  obtain⟨hbody,hname⟩:=hf
  obtain⟨bd,hb⟩:=zmt.1 hbody
  have hmap:args.map a.eval=(args.toList.map a.eval).toArray:=by apply Array.ext';simp
  have hrun:(execOp a.eval o).run P w=.ok (.enter f (args.toList.map a.eval).toArray) w:=by
   simp[execOp,ho,resolve,Act.eval,Deferred.ofValue,invoke,callFunc,hfn,hname,hb,hmap]
  unfold Oper.wp
  rw[hrun]
  refine Calls.mono hc fun e w' ⟨γ',H',r,hext,hst,hnew,hend,hq⟩=>?_
  cases e with
  | returned v =>
   cases r with
   | ret c=>exact hn γ' w' H' c v hext hst hnew hend hq
   | pan c=>exact hend.elim
  | panicked ch =>
   cases r with
   | ret c=>exact hend.elim
   | pan c =>
    obtain⟨v,rfl,hrep⟩:=hend
    exact hp γ' w' H' c v hext hst hnew hrep hq
  | outgrown=>cases r<;>exact hend.elim
theorem zrt {P:Program} {o:Oper} {g:Operand} {g':Opd} {args:Array Operand} {args':List Opd} {ts:Array TypeId} (ho:o.op=.call { callee:=.value g,args:=args,argTypes:=ts }) (hg:zQ g g'=true) (h:YY args.toList args'=true) :
  ze3 P o (.callv g' args'):=by
 intro γ w H ρ a K KP next Q he hs hop hn hp
 simp only[aop,AOp.cls,eff] at hop
 have r1:=zt hg he
 cases hx:g'.ev ρ<;>simp only[hx] at hop r1<;>try (exact hop.elim)
 rename_i f first caps
 obtain⟨hf,hop⟩:=hop
 generalize hv:a.eval g=v at r1
 cases r1 with
 | clo _ _ _ vs us hl hl' hr hr' =>
  have hargs:=zcb h he
  have hall:yg γ w (first++args'.map (Opd.ev ρ)++caps) (vs++args.toList.map a.eval++us):=(yg.append ⟨hl,hr⟩ hargs).append ⟨hl',hr'⟩
  have hc:=hop γ w _ he.tab hs hall
  unfold Program.callable at hf
  cases hfn:P.funcs[f]? with
  | none=>simp[hfn] at hf
  | some fn =>
   simp only[hfn,Al0,bne_iff_ne,ne_eq] at hf
   obtain⟨hbody,hname⟩:=hf
   obtain⟨bd,hb⟩:=zmt.1 hbody
   have hmap:vs.toArray++args.map a.eval++us.toArray=(vs++args.toList.map a.eval++us).toArray:=by apply Array.ext';simp
   have hrun:(execOp a.eval o).run P w=.ok (.enter f (vs++args.toList.map a.eval++us).toArray) w:=by
    rw[← hmap]
    simp only[execOp,ho,resolve,hv,Deferred.ofValue,Sem.run_bind,Sem.run_pure,Result.andThen_ok,invoke,callFunc,run_program,hfn]
    simp[hname,hb]
   unfold Oper.wp
   rw[hrun]
   refine Calls.mono hc fun e w' ⟨γ',H',r,hext,hst,hnew,hend,hq⟩=>?_
   cases e with
   | returned v =>
    cases r with
    | ret c=>exact hn γ' w' H' c v hext hst hnew hend hq
    | pan c=>exact hend.elim
   | panicked ch =>
    cases r with
    | ret c=>exact hend.elim
    | pan c =>
     obtain⟨v,rfl,hrep⟩:=hend
     exact hp γ' w' H' c v hext hst hnew hrep hq
   | outgrown=>cases r<;>exact hend.elim
theorem zvB {P:Program} {o:Oper} {x:Operand} {x':Opd} (ho:o.op=.panic x) (h:zQ x x'=true):ze3 P o (.pan x'):=by
 intro γ w H ρ a K KP next Q he hs hop hn hp
 simp only[aop,AOp.cls,eff] at hop
 have r1:=zt h he
 cases hx:x'.ev ρ<;>simp only[hx] at hop r1<;>try (exact hop.elim)
 rename_i t y
 generalize hv:a.eval x=v at r1
 have r2:=r1
 cases r1 with
 | ifc _ _ u hr =>
  have hrun:(execOp a.eval o).run P w=.halt (.panic (.iface t u)) w:=by
   simp[execOp,ho,hv,Instr.panic]
  unfold Oper.wp
  rw[hrun]
  exact hp γ w H _ _ (.refl _ _ _) hs (yw.refl _ _) r2 hop
theorem zaz (w:World) (b:Nat) (cs:Array Value) (old:Array Value) (E:TypeId) (fr:Nat×Nat) (h:w.heap[b]?=some (.cells old E fr)):(w.setRow b cs).heap[b]?=some (.cells cs E fr):=setRow_heap w b old cs E fr h
theorem YK {F:Nat→Prop} {γ γ':Gh} {w:World} {b:Nat} {old cs:Array Value} {E:TypeId} (hb:w.heap[b]?=some (.cells old E (0,0))) (hsz:cs.size=old.size) (hF:F b)
  (hk:∀ o,Yv γ b o→Yv γ' b o∧cs[o]?=old[o]?) (hg:∀ c,c≠b→γ' c=γ c):Ext F γ w γ' (w.setRow b cs):=by
 have hother:∀ c,c≠b→(w.setRow b cs).heap[c]?=w.heap[c]?:=fun c hc=>setRow_other w b c cs (by omega)
 have hself:(w.setRow b cs).heap[b]?=some (.cells cs E (0,0)):=zaz w b cs old E _ hb
 refine⟨⟨by simp,fun c o v hc hp=>?_,fun c arr E' fr hc=>?_⟩,rfl,rfl,fun a _=>?_,fun c hc hn=>?_⟩
 ·by_cases hcb:c=b
  ·subst hcb
   obtain⟨h1,h2⟩:=hk o hp
   refine⟨h1,?_⟩
   rw[cell_of_row _ _ _ _ _ _ hself,h2]
   rw[cell_of_row _ _ _ _ _ _ hb] at hc
   exact hc
  ·refine⟨by simpa[Yv,hg c hcb] using hp,?_⟩
   rw[World.cell?_of_block (w:=w) (hother c hcb)]
   exact hc
 ·by_cases hcb:c=b
  ·subst hcb
   rw[hb] at hc
   simp only[Al1,Obj.cells.injEq] at hc
   obtain⟨rfl,rfl,rfl⟩:=hc
   exact⟨cs,hself,hsz⟩
  ·exact⟨arr,(hother c hcb).trans hc,rfl⟩
 ·by_cases hcb:a.block=b
  ·simp[World.frozen?,hcb,hself,hb]
  ·exact World.frozen?_of_block (hother _ hcb)
 ·have hcb:c≠b:=fun e=>hn (e▸hF)
  exact⟨hg c hcb,hother c hcb⟩
theorem zar {γ γ':Gh} {w w':World} {H:zb} {b:Nat} {x:AObj} (hs:zr γ w H) (hext:Ext (fun c=>c=b) γ w γ' w') (hx:ObjRel γ' w' b x):zr γ' w' (H.upd b x):=by
 intro c o hc
 unfold zb.upd at hc
 split at hc
 ·rename_i e;subst e;simp only[Al1] at hc;subst hc;exact hx
 ·rename_i hne
  have ho:=hs c o hc
  obtain⟨g,k⟩:=hext.frame c ho.lt hne
  exact ho.kept hext.mono g k
theorem Y3 {H:zb} {w:World} {b:Nat} {x:AObj} (hb:(H b).isSome=true):yw H w (H.upd b x):=by
 intro c hc
 unfold zb.upd at hc
 split at hc
 ·rename_i e;subst e;exact .inl hb
 ·exact .inl hc
theorem zw5 {P:Program} {o:Oper} {t:TypeId} {x y:Operand} {x' y':Opd} {n:Nat} {ti:TypeInfo} (ho:o.op=.store t x y) (h:zQ x x'=true) (h2:zQ y y'=true) (hi:P.info? t=some ti) (hn0:ti.size=n):ze3 P o (.st n x' y'):=by
 intro γ w H ρ a K KP next Q he hs hop hn hp
 simp only[aop,AOp.cls,eff] at hop
 have r1:=zt h he
 have r2:=zt h2 he
 cases hx:x'.ev ρ<;>simp only[hx] at hop r1<;>try (exact hop.elim)
 rename_i b off
 cases hb:H b with
 | none=>simp[hb] at hop
 | some ob =>
  cases ob<;>simp only[hb] at hop<;>try (exact hop.elim)
  rename_i cs
  obtain⟨hlen,hle,hbox,hK⟩:=hop
  generalize hv:a.eval x=v at r1
  cases r1
  cases hs b _ hb with
  | cells _ vs E hk hbb hl hone hr =>
   obtain⟨cl,c1,c2⟩:=r2.cells hbox
   have hsz:(a.eval y).cells.size=n:=by rw[← hlen,cl];simp
   have hst:=run_storeCells_at P b off E (a.eval y).cells.toList 0 vs.toArray w hbb (by simp[hsz];omega) (fun u hu=>by
    obtain⟨i,hi⟩:=List.mem_iff_getElem?.1 hu
    exact c1 i u hi)
   simp only[Nat.add_zero] at hst
   have hrun:(execOp a.eval o).run P w=.ok .skip (w.setRow b (vs.take off++(a.eval y).cells.toList++vs.drop (off+(a.eval y).cells.toList.length)).toArray):=by
    simp[execOp,ho,hv,Instr.storeAt,Instr.sureAddr,storeVar,sizeOf,typeInfo,hi,hn0,hsz,hst]
   have hext:Ext (fun c=>c=b) γ w γ (w.setRow b (vs.take off++(a.eval y).cells.toList++vs.drop (off+(a.eval y).cells.toList.length)).toArray) :=
    YK hbb (by simp[hsz];omega) rfl (fun q hq=>by simp[Yv,hk] at hq) (fun _ _=>rfl)
   have hf:zo γ w (splice cs off (y'.ev ρ).cells) (vs.take off++(a.eval y).cells.toList++vs.drop (off+(a.eval y).cells.toList.length)):=zo.splice ⟨hl,hone,hr⟩ ⟨cl,c1,c2⟩ off
   refine zei hrun (hn γ _ _ _ _ (hext.weaken fun c e=>by subst e;simp[keysOf,hb]) (zar hs hext (.cells _ _ E hk (zaz w b _ _ E _ hbb) hf.1 hf.2.1 fun i c v hc hv=>(hf.2.2 i c v hc hv).mono hext.mono))
    (Y3 (by simp[hb])) (.tup [] [] rfl (by simp)) hK)
theorem zgT {P:Program} {γ:Gh} {w:World} {o:Own} {sz:Nat} {ys:List (List AV)} {v:Value} {tx e':TypeId} (hk:P.underlying tx=some (.slice e')) (h:Rep γ w (.sl o sz ys) v) :
  ∃ news,Src P sz tx v ys.length news w∧zo γ w ys.flatten news∧(ys≠[]→∀ y∈ys,y.length=sz):=by
 obtain⟨ad,cap,hv,hcap⟩:=h.slice_form
 subst hv
 cases h with
 | slnil _ _ _=>exact⟨[],Src.ofNil w hk 0,⟨rfl,by simp,by simp⟩,by simp⟩
 | sl0 _ _ ad _=>exact⟨[],Src.ofSlice w hk ad 0 0 [] (by simp) (by simp) (by simp),⟨rfl,by simp,by simp⟩,by simp⟩
 | sl _ _ _ b off _ cv hc hm hu hcell hr ho =>
  obtain⟨_,_,_,_,_,us,hul,hrow,hrel⟩:=(Rep.sl o sz ys b off cap cv hc hm hu hcell hr ho).flat
  refine⟨us,Src.ofSlice w hk _ _ _ us (by rw[← hul,zR sz ys hu]) (fun j u hj=>by rw[addr_add];exact(hrow j u hj).1) (fun u hu'=>?_),⟨hul,fun i u hi=>(hrow i u hi).2.2,hrel⟩,fun _=>hu⟩
  obtain⟨i,hi⟩:=List.mem_iff_getElem?.1 hu'
  exact(hrow i u hi).2.2
theorem zia (ys:List (List AV)):(ys.map (·.map AV.strip1)).flatten=ys.flatten.map AV.strip1:=by
 induction ys with
 | nil=>rfl
 | cons y ys ih=>rw[List.map_cons,List.flatten_cons,List.flatten_cons,List.map_append,ih]
section
variable {P:Program} {w:World}
theorem zaX (t tx ty e:TypeId) (i:TypeInfo) (ht:P.underlying t=some (.slice e)) (hi:P.info? e=some i) (x:Value) (news:List Value) (hs:Src P i.size tx x 0 news w) :
  (Builtin.append_ #[t,tx] ty #[.slice none 0 0,x]).run P w=.ok (.slice none 0 0) w:=by
 rcases hs.kind with ⟨e',hk⟩|hk<;>simp[Builtin.append_,run_underlying ht,run_underlying hk,sizeOf,typeInfo,hi,hs.len,hs.cells]
theorem zde (t tx ty e:TypeId) (i:TypeInfo) (ht:P.underlying t=some (.slice e)) (hi:P.info? e=some i) (b off sLen sCap:Nat) (cur:Array Value) (E:TypeId) (hb:w.heap[b]?=some (.cells cur E (0,0)))
  (x:Value) (n:Nat) (news:List Value) (hs:Src P i.size tx x n news w) (hroom:sLen+n≤sCap) (hfit:off+sLen*i.size+news.length≤cur.size) :
  (Builtin.append_ #[t,tx] ty #[.slice (some ⟨b,off,none⟩) sLen sCap,x]).run P w =
   .ok (.slice (some ⟨b,off,none⟩) (sLen+n) sCap) (w.setRow b (cur.toList.take (off+sLen*i.size)++news++cur.toList.drop (off+sLen*i.size+news.length)).toArray):=by
 have hst:=run_storeCells_at P b (off+sLen*i.size) E news 0 cur w hb (by simpa using hfit) hs.one
 simp only[Nat.add_zero] at hst
 rcases hs.kind with ⟨e',hk⟩|hk<;>simp[Builtin.append_,run_underlying ht,run_underlying hk,sizeOf,typeInfo,hi,hs.len,hroom,hs.cells,Addr.add_lit,hst]
theorem zaW (t tx ty e:TypeId) (i:TypeInfo) (ht:P.underlying t=some (.slice e)) (hi:P.info? e=some i) (ad:Addr) (sLen:Nat)
  (x:Value) (news:List Value) (hs:Src P i.size tx x 0 news w) (hnews:news=[]) :
  (Builtin.append_ #[t,tx] ty #[.slice (some ad) sLen sLen,x]).run P w=.ok (.slice (some ad) sLen sLen) w:=by
 have h1:=hs.cells
 rw[hnews] at h1
 rcases hs.kind with ⟨e',hk⟩|hk<;>simp[Builtin.append_,run_underlying ht,run_underlying hk,sizeOf,typeInfo,hi,hs.len,h1,storeCells]
end
theorem zgi {H:zb} {w:World} {b:Nat} {x:AObj} (hb:(H b).isSome=true) {b':Nat} (h':b'=b∨w.heap.size≤b'):yw H w ((H.del b).upd b' x):=by
 intro c hc
 unfold zb.upd at hc
 split at hc
 ·rename_i e
  subst e
  rcases h' with rfl|h'
  ·exact .inl hb
  ·exact .inr h'
 ·unfold zb.del at hc
  split at hc
  ·cases hc
  ·exact .inl hc
theorem zi1 {γ:Gh} {w:World} {H:zb} (hs:zr γ w H) (b:Nat):zr γ w (H.del b):=hs.sub fun c o hc=>by
 unfold zb.del at hc
 split at hc
 ·cases hc
 ·exact hc
theorem zmy {P:Program} {o:Oper} {a:Act} {γ:Gh} {w:World} {H:zb} {K:AV→zb→Prop} {next:Act→World→Prop} {Q:Exit→Act→World→Prop}
  {t tx e:TypeId} {i:TypeInfo} {z:Value} {sz bytes:Nat} (ht:P.underlying t=some (.slice e)) (hi:P.info? e=some i) (hz:i.zero=some z) (hsz:i.size=sz) (hby:i.bytes=bytes) (hzs:z.cells.size=sz) (hpos:0<sz)
  {own own':Own} {s1 s2:Nat} {xs ys:List (List AV)} {v x:Value} (hx:Rep γ w (.sl own s1 xs) v) {news:List Value} (hsrc:Src P sz tx x ys.length news w) (hnews:zo γ w ys.flatten news) (hys:ys≠[]→∀ y∈ys,y.length=sz)
  (hs:zr γ w H) (hop:zl1 sz bytes (.sl own s1 xs) (.sl own' s2 ys) H K)
  (hexec:∀ r w',(Builtin.append_ #[t,tx] o.type #[v,x]).run P w=.ok r w'→(execOp a.eval o).run P w=.ok (.value r) w')
  (hn:∀ γ' w' H' c v,Ext (keysOf H) γ w γ' w'→zr γ' w' H'→yw H w H'→Rep γ' w' c v→K c H'→next (a.put o.dst v) w'):o.wp P a w next Q:=by
 obtain⟨e1,e2,hbytes,hmax,hK⟩:=hop
 subst e2
 subst e1
 have hys':∀ y∈ys.map (·.map AV.strip1),y.length=s1:=by
  intro y hy
  simp only[List.mem_map] at hy
  obtain⟨y',hy',rfl⟩:=hy
  rw[List.length_map]
  exact hys (List.ne_nil_of_mem hy') y' hy'
 have hnews':zo γ w (ys.map (·.map AV.strip1)).flatten news:=by rw[zia];exact zcC hnews
 have hnl:news.length=ys.length*s1:=by rw[hsrc.newsLen]
 have hsrc':Src P i.size tx x ys.length news w:=by rw[hsz];exact hsrc
 have grown:∀(base:Option Addr) (cap:Nat) (olds:List Value) (H':zb),v=.slice base xs.length cap→(Builtin.firstCells i.size xs.length (.slice base xs.length cap)).run P w.drew=.ok olds.toArray w.drew →
   zo γ w xs.flatten olds→olds.length=xs.length*s1→(∀ y∈xs,y.length=s1)→cap<xs.length+ys.length→zr γ w H' →
   yw H w (H'.upd w.heap.size (.tip (xs.length+ys.length) s1)) →
   K (.sl (.tip w.heap.size 0) s1 (xs++ys.map (·.map AV.strip1))) (H'.upd w.heap.size (.tip (xs.length+ys.length) s1))→o.wp P a w next Q:=by
  intro base cap olds H' hv hold hfr holen hux hlt hs' hkeys hk
  have hr:=run_append_grow_src (P:=P) w t tx o.type e i z ht hi hz base xs.length cap olds hold x ys.length news hsrc' hlt (by simp only[maxLen] at hmax;omega) (growslice_fits hlt (by rw[hby];exact hbytes))
  rw[← hv] at hr
  generalize hcap:grownCap w (xs.length+ys.length) cap e=cap' at hr
  have hge:xs.length+ys.length≤cap':=hcap▸grownCap_ge w _ cap e
  have hle:cap'≤maxLen:=hcap▸grownCap_le_maxLen w _ cap e hmax
  generalize harr:(olds++news).toArray++Builtin.zeroCells z.cells (cap'-(xs.length+ys.length))=arr at hr
  have harrsz:arr.size=cap'*s1:=by
   rw[← harr]
   simp only[Array.size_append,List.size_toArray,Al5,size_zeroCells,hzs,holen,hnl,← Nat.add_mul]
   congr 1
   omega
  have hext:Ext (fun _=>False) γ w (fun b=>if b=w.heap.size then .buf ((xs.length+ys.length)*s1) else γ b) (w.drew.alloc (.cells arr e)) :=
   (Ye (fun _=>False) γ w).trans (Z3 (fun _=>False) γ w.drew (.buf ((xs.length+ys.length)*s1)) arr e) (fun _ _ f=>f)
  have hnewb:(w.drew.alloc (.cells arr e)).heap[w.heap.size]?=some (.cells arr e (0,0)):=heap_alloc_new w.drew _
  have hrel:zo (fun b=>if b=w.heap.size then .buf ((xs.length+ys.length)*s1) else γ b) (w.drew.alloc (.cells arr e)) (xs++ys.map (·.map AV.strip1)).flatten (olds++news):=by
   rw[List.flatten_append]
   have h0:=zo.append hfr hnews'
   exact⟨h0.1,h0.2.1,fun i c u hc hu=>(h0.2.2 i c u hc hu).mono hext.mono⟩
  have hlen:(xs++ys.map (·.map AV.strip1)).length=xs.length+ys.length:=by simp
  have huni:∀ y∈xs++ys.map (·.map AV.strip1),y.length=s1:=fun y hy=>by
   rcases List.mem_append.1 hy with h|h
   ·exact hux y h
   ·exact hys' y h
  refine yr (hexec _ _ hr) (hn _ _ _ _ _ (hext.weaken fun _ f=>f.elim) (YO (F:=fun _=>False) hs' hext (.tip _ _ arr e (by simp) hnewb (by rw[harrsz];exact Nat.mul_le_mul_right _ hge))) hkeys ?_ hk)
  rw[show (Value.slice (some ⟨w.heap.size,0,none⟩) (xs.length+ys.length) cap')=Value.slice (some ⟨w.heap.size,0,none⟩) (xs++ys.map (·.map AV.strip1)).length cap' from by rw[hlen]]
  refine Rep.sl_flat huni hrel.1 (fun k u hk=>?_) hrel.2.2 (by rw[hlen];exact hge) hle (.inr ⟨by rw[Nat.zero_mul],arr,e,hnewb,by rw[harrsz,Nat.zero_add]⟩)
  have hkl:k<(olds++news).length:=(Z4.1 hk).1
  refine⟨?_,?_,hrel.2.1 k u hk⟩
  ·rw[Nat.zero_add,cell_of_row _ _ _ _ _ _ hnewb,← harr]
   rw[Array.getElem?_append_left (by simpa using hkl)]
   simpa using hk
  ·simp only[Yv,if_true,Nat.zero_add]
   rw[Al5,holen,hnl,← Nat.add_mul] at hkl
   exact hkl
 obtain⟨ad,cap,hv,hcap⟩:=hx.slice_form
 cases own with
 | no=>exact hK.elim
 | nil =>
  obtain⟨hK1,hK2⟩:=hK
  rw[hv] at hx
  cases hx with
  | sl _ _ _ b off _ cv hc hm hu hcell hr ho=>exact ho.elim
  | sl0 _ _ _ ho=>simp at ho
  | slnil _ _ _ =>
   by_cases hy:ys=[]
   ·subst hy
    have hr:=zaX (P:=P) t tx o.type e i ht hi x news hsrc'
    rw[hv] at hexec
    exact yr (hexec _ _ hr) (hn γ w H _ _ (.refl _ _ _) hs (yw.refl _ _) (.slnil .nil _ (by simp)) (hK1 rfl))
   ·have hp:0<ys.length:=List.length_pos_iff.2 hy
    refine grown none 0 [] H hv (run_firstCells_none _ _ _ _ _) ⟨rfl,by simp,by simp⟩ (by simp) (by simp) (by simpa using hp) hs Zo (hK2 hy _ (ZM hs))
 | full =>
  obtain⟨hK1,hK2⟩:=hK
  have hx0:=hx
  rw[hv] at hx
  cases hx with
  | slnil _ _ _ =>
   by_cases hy:ys=[]
   ·subst hy
    have hr:=zaX (P:=P) t tx o.type e i ht hi x news hsrc'
    rw[hv] at hexec
    exact yr (hexec _ _ hr) (hn γ w H _ _ (.refl _ _ _) hs (yw.refl _ _) (.slnil .full _ (by simp)) (hK1 rfl))
   ·have hp:0<ys.length:=List.length_pos_iff.2 hy
    refine grown none 0 [] H hv (run_firstCells_none _ _ _ _ _) ⟨rfl,by simp,by simp⟩ (by simp) (by simp) (by simpa using hp) hs Zo (hK2 hy _ (ZM hs))
  | sl0 _ _ ad _ =>
   by_cases hy:ys=[]
   ·subst hy
    have hnil:news=[]:=List.eq_nil_of_length_eq_zero (by rw[hnl];simp)
    have hr:=zaW (P:=P) t tx o.type e i ht hi ad 0 x news hsrc' hnil
    rw[hv] at hexec hx0
    exact yr (hexec _ _ hr) (hn γ w H _ _ (.refl _ _ _) hs (yw.refl _ _) hx0 (hK1 rfl))
   ·have hp:0<ys.length:=List.length_pos_iff.2 hy
    refine grown (some ad) 0 [] H hv ?_ ⟨rfl,by simp,by simp⟩ (by simp) (by simp) (by simpa using hp) hs Zo (hK2 hy _ (ZM hs))
    exact run_firstCells_some w.drew i.size 0 ad 0 0 [] (by simp) (by simp)
  | sl _ _ _ b off _ cv hc hm hu hcell hr ho =>
   have hfull:xs.length=cap:=ho
   by_cases hy:ys=[]
   ·subst hy
    have hnil:news=[]:=List.eq_nil_of_length_eq_zero (by rw[hnl];simp)
    have hr:=zaW (P:=P) t tx o.type e i ht hi ⟨b,off,none⟩ xs.length x news hsrc' hnil
    rw[hv,← hfull] at hexec
    rw[hv,← hfull] at hx0
    exact yr (hexec _ _ hr) (hn γ w H _ _ (.refl _ _ _) hs (yw.refl _ _) hx0 (hK1 rfl))
   ·have hp:0<ys.length:=List.length_pos_iff.2 hy
    rw[hv] at hx0
    obtain⟨_,_,_,_,_,us,hul,hrow,hrel⟩:=hx0.flat
    have hulen:us.length=xs.length*s1:=by rw[← hul,zR s1 xs hu]
    refine grown (some ⟨b,off,none⟩) cap us H hv ?_ ⟨hul,fun i u hi=>(hrow i u hi).2.2,hrel⟩ hulen hu (by omega) hs Zo (hK2 hy _ (ZM hs))
    exact run_firstCells_some w.drew i.size xs.length ⟨b,off,none⟩ xs.length cap us (by rw[hsz];exact hulen) (fun j u hj=>by rw[addr_add];exact(hrow j u hj).1)
 | tip b d =>
  obtain⟨hHb,hK2⟩:=hK
  have hx0:=hx
  rw[hv] at hx
  cases hx with
  | slnil _ _ hno=>exact absurd rfl (hno b d)
  | sl0 _ _ _ ho=>simp at ho
  | sl _ _ _ b1 off _ cv hc hm hu hcell hr ho =>
   rw[hv] at hx0
   have hx1:=hx0
   obtain⟨_,_,_,_,_,us,hul,hrow,hrel⟩:=hx0.flat
   have hulen:us.length=xs.length*s1:=by rw[← hul,zR s1 xs hu]
   by_cases hroom:xs.length+ys.length≤cap
   ·rcases ho with hcap0|⟨hadr,arr,E,hb,hasz⟩
    ·-- nothing there,nothing new
     have hx00:xs.length=0:=by omega
     have hy00:ys.length=0:=by omega
     have hye:ys=[]:=List.eq_nil_of_length_eq_zero hy00
     have hxe:xs=[]:=List.eq_nil_of_length_eq_zero hx00
     subst hye
     subst hxe
     subst hcap0
     have hnil:news=[]:=List.eq_nil_of_length_eq_zero (by rw[hnl];simp)
     have hr:=zaW (P:=P) t tx o.type e i ht hi ⟨b1,off,none⟩ 0 x news hsrc' hnil
     rw[hv] at hexec
     have hup:(H.del b).upd b (.tip (d+(([]:List (List AV)).length+([]:List (List AV)).length)) s1)=H:=by
      funext c
      simp only[zb.upd,zb.del]
      split
      ·rename_i e;subst e;rw[hHb];simp
      ·rfl
     have hk:=hK2 b d (by simp[zb.del])
     rw[hup] at hk
     exact yr (hexec _ _ hr) (hn γ w H _ _ (.refl _ _ _) hs (yw.refl _ _) (by simpa using hx1) hk)
    simp only[Addr.mk.injEq] at hadr
    obtain⟨rfl,rfl,_⟩:=hadr
    have hfit:d*s1+xs.length*i.size+news.length≤arr.size:=by
     rw[hsz,hnl,hasz,← Nat.add_mul,← Nat.add_mul]
     exact Nat.mul_le_mul_right _ (by omega)
    have hrun:=zde (P:=P) t tx o.type e i ht hi b1 (d*s1) xs.length cap arr E hb x ys.length news hsrc' hroom hfit
    rw[hv] at hexec
    rw[hsz] at hrun
    rw[hsz] at hfit
    generalize hoff:d*s1+xs.length*s1=off at hrun hfit
    generalize hrow':(arr.toList.take off++news++arr.toList.drop (off+news.length)).toArray=arr' at hrun
    have htl:(arr.toList.take off).length=off:=by simp;omega
    have hsz':arr'.size=arr.size:=by
     rw[← hrow']
     simp
     omega
    have hlow:∀ k,k<off→arr'[k]?=arr[k]?:=by
     intro k hk
     rw[← hrow',List.getElem?_toArray,zb0,zb8 (by omega),zgW,if_pos hk]
     simp
    have hpre:∀ k,k<(us++news).length→arr'[d*s1+k]?=(us++news)[k]?:=by
     intro k hk
     rcases Nat.lt_or_ge k us.length with hku|hku
     ·rw[zb8 hku,hlow _ (by omega)]
      have:=(hrow k us[k] (Al9 hku)).1
      rw[cell_of_row w b1 _ arr E _ hb] at this
      rw[Al9 hku,← this]
     ·rw[Al5] at hk
      rw[zfc hku,← hrow',List.getElem?_toArray,zb0,zfc (by omega),htl,zb8 (by omega)]
      congr 1
      omega
    have hk:γ b1=.buf ((d+xs.length)*s1):=by
     cases hs b1 _ hHb with
     | tip _ _ _ _ hk _ _=>exact hk
    have hext:Ext (fun c=>c=b1) γ w (fun c=>if c=b1 then .buf ((d+(xs.length+ys.length))*s1) else γ c) (w.setRow b1 arr') :=
     YK hb hsz' rfl (fun q hq=>by
      simp only[Yv,hk] at hq
      rw[Nat.add_mul,hoff] at hq
      refine⟨?_,hlow q hq⟩
      simp only[Yv,if_true]
      rw[Nat.add_mul,Nat.add_mul];omega) (fun c hc=>by simp[hc])
    have hself:=zaz w b1 arr' arr E _ hb
    have hrel':zo (fun c=>if c=b1 then .buf ((d+(xs.length+ys.length))*s1) else γ c) (w.setRow b1 arr') (xs++ys.map (·.map AV.strip1)).flatten (us++news):=by
     rw[List.flatten_append]
     have h0:=zo.append (γ:=γ) (w:=w) ⟨hul,fun i u hi=>(hrow i u hi).2.2,hrel⟩ hnews'
     exact⟨h0.1,h0.2.1,fun i c u hc hu=>(h0.2.2 i c u hc hu).mono hext.mono⟩
    have hlen:(xs++ys.map (·.map AV.strip1)).length=xs.length+ys.length:=by simp
    have huni:∀ y∈xs++ys.map (·.map AV.strip1),y.length=s1:=fun y hy=>by
     rcases List.mem_append.1 hy with h|h
     ·exact hu y h
     ·exact hys' y h
    refine yr (hexec _ _ hrun) (hn _ _ _ _ _ (hext.weaken fun c e=>by subst e;simp[keysOf,hHb])
     (zar (zi1 hs b1) hext (.tip _ _ arr' E (by simp) hself (by rw[hsz',hasz];exact Nat.mul_le_mul_right _ (by omega)))) (zgi (by simp[hHb]) (.inl rfl)) ?_ (hK2 b1 d (by simp[zb.del])))
    rw[show (Value.slice (some ⟨b1,d*s1,none⟩) (xs.length+ys.length) cap)=Value.slice (some ⟨b1,d*s1,none⟩) (xs++ys.map (·.map AV.strip1)).length cap from by rw[hlen]]
    refine Rep.sl_flat huni hrel'.1 (fun k u hk'=>?_) hrel'.2.2 (by rw[hlen];exact hroom) hm (.inr ⟨rfl,arr',E,hself,by rw[hsz',hasz]⟩)
    have hkl:k<(us++news).length:=(Z4.1 hk').1
    refine⟨?_,?_,hrel'.2.1 k u hk'⟩
    ·rw[cell_of_row _ _ _ _ _ _ hself,hpre k hkl]
     exact hk'
    ·simp only[Yv,if_true]
     rw[Al5,hulen,hnl,← Nat.add_mul] at hkl
     rw[Nat.add_mul]
     omega
   ·have hk3:=hK2 w.heap.size 0 (by
     unfold zb.del;split
     ·rfl
     ·exact ZM hs)
    rw[Nat.zero_add] at hk3
    refine grown (some ⟨b1,off,none⟩) cap us (H.del b) hv ?_ ⟨hul,fun i u hi=>(hrow i u hi).2.2,hrel⟩ hulen hu (by omega) (zi1 hs b) (zgi (by simp[hHb]) (.inr (Al4 _))) hk3
    exact run_firstCells_some w.drew i.size xs.length ⟨b1,off,none⟩ xs.length cap us (by rw[hsz];exact hulen) (fun j u hj=>by rw[addr_add];exact(hrow j u hj).1)
theorem zva {P:Program} {o:Oper} {t tx e ex:TypeId} {x y:Operand} {x' y':Opd} {i:TypeInfo} {z:Value} {sz bytes:Nat} (ho:o.op=.call { callee:=.builtin .append,args:=#[x,y],argTypes:=#[t,tx] }) (h:zQ x x'=true) (h2:zQ y y'=true)
  (ht:P.underlying t=some (.slice e)) (htx:P.underlying tx=some (.slice ex)) (hi:P.info? e=some i) (hz:i.zero=some z) (hsz:i.size=sz) (hby:i.bytes=bytes) (hzs:z.cells.size=sz) (hpos:0<sz):ze3 P o (.app sz bytes x' y'):=by
 intro γ w H ρ a K KP next Q he hs hop hn hp
 simp only[aop,AOp.cls,eff] at hop
 have r1:=zt h he
 have r2:=zt h2 he
 cases hx:x'.ev ρ<;>rw[hx] at hop r1<;>try (exact False.elim hop)
 cases hy:y'.ev ρ<;>rw[hy] at hop r2<;>try (exact False.elim hop)
 rename_i own s1 xs own' s2 ys
 have hs2:s2=sz:=hop.2.1
 subst hs2
 obtain⟨news,hsrc,hnews,hys⟩:=zgT (P:=P) htx r2
 refine zmy ht hi hz hsz hby hzs hpos r1 hsrc hnews hys hs hop (fun r w' hr=>?_) hn
 simp[execOp,ho,resolve,invoke,builtin,hr]
def zbP (P:Program) (n:Nat) (e:TypeId) (ks:List K1):Bool :=
 match ks with
 | [k,k']=>decide (n=2)&&decide (k'=k)&&k.isTy P e&&(match P.info? e with|some i=>decide (i.size=1)|none=>false)
 | _=>false
theorem zdx {P:Program} {e:TypeId} (h:(match P.info? e with|some i=>decide (i.size=1)|none=>false)=true) (w:World):(sizeOf e).run P w=.ok 1 w:=by
 cases hi:P.info? e with
 | none=>simp[hi] at h
 | some i =>
  simp only[hi,yH] at h
  simp[sizeOf,typeInfo,Sem.run_bind,hi,h]
theorem zqf:List.range' 0 2 1=[0,1]:=rfl
theorem zmO {P:Program} {w:World} {γ:Gh} {t e:TypeId} {n:Nat} {ks:List K1} {as bs:List AV} {us vs:List Value} (ht:P.underlying t=some (.array n e)) (hk:zbP P n e ks=true) (ha:zX ks as=true) (hb:zX ks bs=true)
  (hl:as.length=us.length) (hl':bs.length=vs.length) (hr:∀(i:Nat) (c:AV) (v:Value),as[i]?=some c→us[i]?=some v→Rep γ w c v) (hr':∀(i:Nat) (c:AV) (v:Value),bs[i]?=some c→vs[i]?=some v→Rep γ w c v) (m:Nat) :
  (Op.equalIn (m+2) t (.agg us.toArray) (.agg vs.toArray)).run P w=.ok (zcQ as bs) w:=by
 match ks,hk with
 | [k,k'],hk =>
  simp only[zbP,Al0,yH] at hk
  obtain⟨⟨⟨rfl,rfl⟩,hty⟩,hsz⟩:=hk
  match as,us,hl with
  | [a0,a1],[u0,u1],_ =>
   match bs,vs,hl' with
   | [b0,b1],[v0,v1],_ =>
    simp only[zX,Al0,Bool.and_true] at ha hb
    have r0:=hr 0 a0 u0 rfl rfl
    have r1:=hr 1 a1 u1 rfl rfl
    have s0:=hr' 0 b0 v0 rfl rfl
    have s1:=hr' 1 b1 v1 rfl rfl
    have e0:=zeI hty ha.1 hb.1 r0 s0 m
    have e1:=zeI hty ha.2 hb.2 r1 s1 m
    have p0:(part e #[u0,u1] (0*1)).run P w=.ok u0 w:=by simp[part,ZX hty]
    have p1:(part e #[u0,u1] (1*1)).run P w=.ok u1 w:=by simp[part,ZX hty]
    have q0:(part e #[v0,v1] (0*1)).run P w=.ok v0 w:=by simp[part,ZX hty]
    have q1:(part e #[v0,v1] (1*1)).run P w=.ok v1 w:=by simp[part,ZX hty]
    rw[Op.equalIn]
    simp only[Sem.run_bind,run_underlying ht,Result.andThen_ok,zdx hsz]
    rw[Std.Legacy.Range.forIn_eq_forIn_range']
    simp only[Std.Legacy.Range.size,Nat.sub_zero,Nat.add_one_sub_one,Nat.div_one,zqf,List.forIn_cons,List.forIn_nil,Sem.run_bind,p0,q0,e0,Result.andThen_ok]
    cases h0:a0.keq1 b0
    ·simp[zcQ,h0]
    ·simp only[Bool.not_true,Al7,if_false,Sem.run_bind,Sem.run_pure,p1,q1,e1,Result.andThen_ok]
     cases h1:a1.keq1 b1
     ·simp[zcQ,h0,h1]
     ·simp[zcQ,h0,h1]
   | [],_,_=>simp[zX] at hb
   | [_],_,_=>simp[zX] at hb
   | _::_::_::_,_,_=>simp[zX] at hb
  | [],_,_=>simp[zX] at ha
  | [_],_,_=>simp[zX] at ha
  | _::_::_::_,_,_=>simp[zX] at ha
 | [],hk=>simp[zbP] at hk
 | [_],hk=>simp[zbP] at hk
 | _::_::_::_,hk=>simp[zbP] at hk
def zcP (P:Program) (t:TypeId) (kt:KT):Bool :=
 match kt with
 | .one k=>k.isTy P t
 | .agg ks=>match P.underlying t with
  | some (.struct fs)=>zbo P fs.toList 0 ks&&!P.stoodInHeld t
  | some (.array n e)=>zbP P n e ks
  | _=>false
theorem zix {c:AV} {v:Value} (h:c.conc1=some v) (γ:Gh) (w:World):Rep γ w c v:=by
 cases c<;>simp only[AV.conc1,Al1] at h<;>try (cases h;done)
 ·subst h;exact .bool _
 ·subst h;exact .int _ _
 ·subst h;exact .str _
theorem zor {c:AV} {v:Value} (h:c.conc1=some v):v.oneCell'=true:=by
 cases c<;>simp only[AV.conc1,Al1] at h<;>first|(cases h;done)|(subst h;rfl)
theorem zim:∀ {cs:List AV} {vs:List Value},zbp cs=some vs→∀(γ:Gh) (w:World),zo γ w cs vs
 | [],vs,h,γ,w=>by simp only[zbp,Al1] at h;subst h;exact⟨rfl,by simp,by simp⟩
 | c::cs,vs,h,γ,w=>by
  unfold zbp at h
  cases h1:c.conc1 with
  | none=>simp[h1] at h
  | some v =>
   cases h2:zbp cs with
   | none=>simp[h1,h2] at h
   | some us =>
    simp only[h1,h2,Al1] at h
    subst h
    have ih:=zim h2 γ w
    have hone:zo γ w [c] [v]:=⟨rfl,fun i u hu=>by
     cases i with
     | zero=>simp at hu;subst hu;exact zor h1
     | succ i=>simp at hu,fun i d u hd hu=>by
     cases i with
     | zero=>simp at hd hu;subst hd;subst hu;exact zix h1 γ w
     | succ i=>simp at hd⟩
    exact hone.append ih
theorem zkn {c:AV} {v:Value} (h:c.conc=some v) (γ:Gh) (w:World):Rep γ w c v:=by
 cases c with
 | agg cs =>
  simp only[AV.conc,zdp] at h
  obtain⟨vs,hvs,rfl⟩:=h
  have:=zim hvs γ w
  exact .agg _ _ this.1 this.2.1 this.2.2
 | _=>(simp only[AV.conc] at h;exact zix h γ w)
theorem zij {c:AV} {v:Value} {k:K1} {γ:Gh} {w:World} (hf:k.fits c=true) (h:Rep γ w c v):c.conc1=some v:=by
 cases k<;>cases c<;>simp[K1.fits] at hf<;>cases h<;>rfl
theorem ziV {γ:Gh} {w:World}:∀ {ks:List K1} {cs:List AV} {vs:List Value},zX ks cs=true→cs.length=vs.length→(∀(i:Nat) (c:AV) (v:Value),cs[i]?=some c→vs[i]?=some v→Rep γ w c v)→zbp cs=some vs
 | _,[],[],_,_,_=>rfl
 | _,[],_::_,_,h,_=>by simp at h
 | _,_::_,[],_,h,_=>by simp at h
 | [],_::_,_::_,h,_,_=>by simp[zX] at h
 | k::ks,c::cs,v::vs,hf,hl,hr=>by
  simp only[zX,Al0] at hf
  have h1:=zij hf.1 (hr 0 c v rfl rfl)
  have h2:=ziV hf.2 (by simpa using hl) (fun i c v hc hv=>hr (i+1) c v (by simpa using hc) (by simpa using hv))
  simp[zbp,h1,h2]
theorem zhx {c:AV} {v:Value} {kt:KT} {γ:Gh} {w:World} (hf:kt.fits c=true) (h:Rep γ w c v):c.conc=some v:=by
 cases kt with
 | one k =>
  have:=zij (k:=k) hf h
  cases c<;>first|exact this|(cases k<;>simp[KT.fits,K1.fits] at hf)
 | agg ks =>
  cases c<;>simp[KT.fits] at hf
  cases h with
  | agg _ vs hl h1 hr=>simp[AV.conc,ziV hf hl hr]
theorem zm2 {c d:AV} {k:K1} (h:k.fits c=true):c.keq d=c.keq1 d:=by
 cases k<;>cases c<;>simp[K1.fits] at h<;>cases d<;>rfl
theorem zm6 {P:Program} {w:World} {kt:KT} {t:TypeId} {c d:AV} {u v:Value} (hk:zcP P t kt=true) (hc:kt.fits c=true) (hd:kt.fits d=true) (hu:c.conc=some u) (hv:d.conc=some v) :
  (Op.equal t u v).run P w=.ok (c.keq d) w:=by
 have γ:Gh:=fun _=>.imm
 have rc:=zkn hu γ w
 have rd:=zkn hv γ w
 unfold Op.equal Op.maxDepth
 cases kt with
 | one k=>rw[zm2 (k:=k) hc];exact zeI hk hc hd rc rd 9999
 | agg ks =>
  cases c<;>simp[KT.fits] at hc
  cases d<;>simp[KT.fits] at hd
  rename_i as bs
  unfold zcP at hk
  simp only at hk
  cases hd':P.underlying t with
  | none=>simp[hd'] at hk
  | some ds =>
   cases ds<;>simp only[hd'] at hk<;>try (cases hk;done)
   case array n e =>
    cases rc with
    | agg _ vs hl h1 hr =>
     cases rd with
     | agg _ us hl' h1' hr'=>exact zmO (m:=9998) hd' hk hc hd hl hl' hr hr'
   rename_i fs
   simp only[Al0,Bool.not_eq_true'] at hk
   cases rc with
   | agg _ vs hl h1 hr =>
    cases rd with
    | agg _ us hl' h1' hr' =>
     have hfo:P.fieldsOf t=fs:=by simp[Program.fieldsOf,hd']
     rw[run_equalIn_struct w 9999 t _ _ (by rw[hfo];exact hd') hk.2,hfo]
     exact zcv (γ:=γ) 9998 _ _ fs.toList 0 ks as bs hk.1 hc hd
      (fun i c hc=>by
       have hi:i<vs.length:=by rw[← hl];exact(Z4.1 hc).1
       exact⟨vs[i],by simp[hi],hr i c _ hc (Al9 hi)⟩)
      (fun i c hc=>by
       have hi:i<us.length:=by rw[← hl'];exact(Z4.1 hc).1
       exact⟨us[i],by simp[hi],hr' i c _ hc (Al9 hi)⟩)
def za0 (es:List (AV×AV)) (k:AV):Option Nat :=
 match es with
 | []=>none
 | (a,_)::r=>if k.keq a then some 0 else (za0 r k).map (·+1)
theorem zdk {P:Program} {w:World} {γ:Gh} {kt:KT} {t:TypeId} {k:AV} {kv:Value} (hk:zcP P t kt=true) (hf:kt.fits k=true) (hkv:k.conc=some kv):∀(es:List (AV×AV)) (cs:List MapEntry) (n:Nat),
  es.length=cs.length→(∀ x∈es,kt.fits x.1=true)→(∀(i:Nat) (x:AV×AV) (e:MapEntry),es[i]?=some x→cs[i]?=some e→EntryRel γ w x e) →
  (Instr.findAsking t kv cs n).run P w=.ok ((za0 es k).map fun i=>(n+i,(cs.getD i default).val)) w
 | [],[],n,_,_,_=>rfl
 | [],_::_,_,h,_,_=>by simp at h
 | _::_,[],_,h,_,_=>by simp at h
 | x::es,e::cs,n,hl,hfit,hr=>by
  have hx:=hr 0 x e rfl rfl
  have he:=zm6 (w:=w) hk hf (hfit x (Zr ..)) hkv hx.key
  have ih:=zdk hk hf hkv es cs (n+1) (by simpa using hl) (fun y hy=>hfit y (Zm _ hy)) (fun i y e' hy he'=>hr (i+1) y e' (by simpa using hy) (by simpa using he'))
  simp only[Instr.findAsking,Sem.run_bind,he,Result.andThen_ok,za0]
  cases hq:k.keq x.1
  ·simp only[Al7,if_false,ih]
   cases za0 es k with
   | none=>rfl
   | some i=>simp;omega
  ·simp
theorem zlT {P:Program} {w:World} {t:TypeId} {d:TypeDesc} (hd:P.underlying t=some d) {u v:Value} {b:Bool} (hb:Instr.sameNow d u v=some b):(Op.equal t u v).run P w=.ok b w:=by
 unfold Instr.sameNow at hb
 unfold Op.equal Op.maxDepth
 rw[Op.equalIn]
 split at hb
 ·split at hb
  ·rename_i hkk
   simp only[Al1] at hb
   simp[run_underlying hd,hkk,hb]
  ·cases hb
 ·simp only[Al1] at hb
  simp[run_underlying hd,hb]
 ·simp only[Al1] at hb
  simp[run_underlying hd,hb]
 ·cases hb
theorem zf6 {P:Program} {w:World} {γ:Gh} {kt:KT} {t:TypeId} {d:TypeDesc} {k:AV} {kv:Value} (hd:P.underlying t=some d) (hk:zcP P t kt=true) (hf:kt.fits k=true) (hkv:k.conc=some kv):∀(es:List (AV×AV)) (cs:List MapEntry) (n:Nat) (r:Option (Nat×Value)),
  es.length=cs.length→(∀ x∈es,kt.fits x.1=true)→(∀(i:Nat) (x:AV×AV) (e:MapEntry),es[i]?=some x→cs[i]?=some e→EntryRel γ w x e) →
  Instr.findNow d kv cs n=some r→r=(za0 es k).map fun i=>(n+i,(cs.getD i default).val)
 | [],[],n,r,_,_,_,h=>by simp only[Instr.findNow,Al1] at h;subst h;rfl
 | [],_::_,_,_,h,_,_,_=>by simp at h
 | _::_,[],_,_,h,_,_,_=>by simp at h
 | x::es,e::cs,n,r,hl,hfit,hr,h=>by
  have hx:=hr 0 x e rfl rfl
  have he:=zm6 (w:=w) hk hf (hfit x (Zr ..)) hkv hx.key
  simp only[Instr.findNow] at h
  have hsame:∀ b,Instr.sameNow d kv e.key=some b→k.keq x.1=b:=by
   intro b hb
   have h2:=zlT (P:=P) (w:=w) hd hb
   rw[he] at h2
   simpa using h2
  cases hs:Instr.sameNow d kv e.key with
  | none=>simp[hs] at h
  | some b =>
   have hq:=hsame b hs
   cases b
   ·simp only[hs] at h
    have ih:=zf6 hd hk hf hkv es cs (n+1) r (by simpa using hl) (fun y hy=>hfit y (Zm _ hy)) (fun i y e' hy he'=>hr (i+1) y e' (by simpa using hy) (by simpa using he')) h
    rw[ih]
    simp only[za0,hq,Al7,if_false]
    cases za0 es k with
    | none=>rfl
    | some i=>simp;omega
   ·simp only[hs,Al1] at h
    subst h
    simp[za0,hq]
theorem zds {P:Program} {w:World} {γ:Gh} {kt:KT} {t:TypeId} {d:TypeDesc} {k:AV} {kv:Value} (hd:P.underlying t=some d) (hk:zcP P t kt=true) (hf:kt.fits k=true) (hkv:k.conc=some kv) (es:List (AV×AV)) (cs:List MapEntry)
  (hl:es.length=cs.length) (hfit:∀ x∈es,kt.fits x.1=true) (hr:∀(i:Nat) (x:AV×AV) (e:MapEntry),es[i]?=some x→cs[i]?=some e→EntryRel γ w x e) :
  (Instr.findKey t kv cs).run P w=.ok ((za0 es k).map fun i=>(i,(cs.getD i default).val)) w:=by
 unfold Instr.findKey
 rw[Sem.run_bind,run_underlying hd w]
 simp only[Result.andThen_ok]
 cases h:Instr.findNow d kv cs 0 with
 | some r =>
  have:=zf6 (γ:=γ) (w:=w) hd hk hf hkv es cs 0 r hl hfit hr h
  simp[this]
 | none =>
  have:=zdk (P:=P) (w:=w) (γ:=γ) hk hf hkv es cs 0 hl hfit hr
  simpa using this
theorem zd9:∀ {es:List (AV×AV)} {k:AV},za0 es k=none→zaV es k=none∧∀ v,zbs es k v=es++[(k,v)]
 | [],_,_=>⟨rfl,fun _=>rfl⟩
 | (a,u)::es,k,h=>by
  unfold za0 at h
  split at h
  ·cases h
  ·rename_i hq
   have ih:=zd9 (es:=es) (k:=k) (by simpa using h)
   exact⟨by unfold zaV;simp[hq,ih.1],fun v=>by unfold zbs;simp[hq,ih.2 v]⟩
theorem zej:∀ {es:List (AV×AV)} {k:AV} {i:Nat},za0 es k=some i→∃ x,es[i]?=some x∧zaV es k=some x.2∧k.keq x.1=true∧∀ v,zbs es k v=es.set i (k,v)
 | [],_,_,h=>by simp[za0] at h
 | (a,u)::es,k,i,h=>by
  unfold za0 at h
  split at h
  ·rename_i hq
   simp only[Al1] at h
   subst h
   exact⟨(a,u),rfl,by unfold zaV;simp[hq],hq,fun v=>by unfold zbs;simp[hq]⟩
  ·rename_i hq
   simp only[zdp] at h
   obtain⟨j,hj,rfl⟩:=h
   obtain⟨x,h1,h2,h3,h4⟩:=zej (es:=es) (k:=k) hj
   exact⟨x,by simpa using h1,by unfold zaV;simp[hq,h2],h3,fun v=>by unfold zbs;simp[hq,h4 v]⟩
theorem zbS {P:Program} {k:K1} {t:TypeId} (h:k.isTy P t=true) (empty:Bool) (n:Nat) (v:Value) (w:World):(Instr.checkKey empty (n+1) t v).run P w=.ok () w:=by
 cases hd:P.underlying t with
 | none=>cases k<;>simp[K1.isTy,hd] at h
 | some d =>
  unfold Instr.checkKey
  rw[Sem.run_bind,run_underlying hd w]
  cases k<;>cases d<;>simp_all [K1.isTy]
theorem zcL {P:Program} {w:World} {empty:Bool} (n:Nat) (xs:Array Value):∀(fs:List Field) (off:Nat) (ks:List K1),zbo P fs off ks=true→off+ks.length≤xs.size →
  (forIn fs PUnit.unit fun f _ => (if f.name ≠ "_" then do
    let __do_lift ← part f.type xs f.offset
    Instr.checkKey empty (n+1) f.type __do_lift
    pure (ForInStep.yield PUnit.unit)
   else pure (ForInStep.yield PUnit.unit):Sem (ForInStep PUnit))).run P w=.ok PUnit.unit w
 | [],_,_,_,_=>by simp
 | _::_,_,[],h,_=>by simp[zbo] at h
 | f::fs,off,k::ks,hf,hl=>by
  simp only[zbo,Al0,bne_iff_ne,ne_eq,beq_iff_eq] at hf
  obtain⟨⟨⟨hname,hoff⟩,hty⟩,hrest⟩:=hf
  simp only[Al2] at hl
  have ih:=zcL (P:=P) (w:=w) (empty:=empty) n xs fs (off+1) ks hrest (by omega)
  have hlt:off<xs.size:=by omega
  have p1:(part f.type xs f.offset).run P w=.ok xs[off] w:=by simp[part,ZX hty,hoff,hlt]
  simp only[List.forIn_cons,ne_eq,hname,not_false_eq_true,if_true,Sem.run_bind,p1,Result.andThen_ok,zbS hty empty n _ w,Sem.run_pure]
  simpa using ih
theorem zbl:∀ {ks:List K1} {cs:List AV},zX ks cs=true→cs.length=ks.length
 | [],[],_=>rfl
 | [],_::_,h=>by simp[zX] at h
 | _::_,[],h=>by simp[zX] at h
 | _::ks,_::cs,h=>by simp only[zX,Al0] at h;simp[zbl h.2]
theorem zev {P:Program} {w:World} {γ:Gh} {kt:KT} {t:TypeId} {k:AV} {kv:Value} (hk:zcP P t kt=true) (hf:kt.fits k=true) (hkv:Rep γ w k kv) (empty:Bool):(Instr.checkKey empty 10000 t kv).run P w=.ok () w:=by
 cases kt with
 | one k1=>exact zbS hk empty 9999 kv w
 | agg ks =>
  cases k<;>simp[KT.fits] at hf
  unfold zcP at hk
  simp only at hk
  cases hd:P.underlying t with
  | none=>simp[hd] at hk
  | some ds =>
   cases ds<;>simp only[hd] at hk<;>try (cases hk;done)
   case array n e =>
    match ks,hk with
    | [k,k'],hk =>
     simp only[zbP,Al0,yH] at hk
     obtain⟨⟨⟨rfl,rfl⟩,hty⟩,hsz⟩:=hk
     cases hkv with
     | agg _ vs hl h1 hr =>
      have hlen:=zbl hf
      rw[hl] at hlen
      match vs,hlen with
      | [v0,v1],_ =>
       have p0:(part e #[v0,v1] (0*1)).run P w=.ok v0 w:=by simp[part,ZX hty]
       have p1:(part e #[v0,v1] (1*1)).run P w=.ok v1 w:=by simp[part,ZX hty]
       unfold Instr.checkKey
       rw[Sem.run_bind,run_underlying hd w]
       simp only[Result.andThen_ok]
       rw[Std.Legacy.Range.forIn_eq_forIn_range']
       simp only[Std.Legacy.Range.size,Nat.sub_zero,Nat.add_one_sub_one,Nat.div_one,zqf,List.forIn_cons,List.forIn_nil,Sem.run_bind,zdx hsz,Result.andThen_ok,p0,p1,zbS hty empty 9998 _ w,Sem.run_pure]
    | [],hk=>simp[zbP] at hk
    | [_],hk=>simp[zbP] at hk
    | _::_::_::_,hk=>simp[zbP] at hk
   rename_i cs fs
   simp only[Al0,Bool.not_eq_true'] at hk
   cases hkv with
   | agg _ vs hl h1 hr =>
    unfold Instr.checkKey
    rw[Sem.run_bind,run_underlying hd w]
    simp only[Result.andThen_ok]
    have:=zcL (P:=P) (w:=w) (empty:=empty) 9998 vs.toArray fs.toList 0 ks hk.1 (by simp[← hl,zbl hf])
    rw[← Array.forIn_toList]
    simpa using this
theorem zwo {P:Program} {o:Oper} {t key elem:TypeId} {m k:Operand} {m' k':Opd} {ok:Bool} {kt:KT} {d:TypeDesc} {ei:TypeInfo} {z:Value} {zero:AV} (ho:o.op=.lookup t m k ok) (hm:zQ m m'=true) (hk:zQ k k'=true)
  (ht:P.underlying t=some (.map key elem)) (hkt:zcP P key kt=true) (hd:P.underlying key=some d) (hei:P.info? elem=some ei) (hz:ei.zero=some z) (hzero:zri z zero=true):zmP P o (.lkp kt zero ok m' k'):=by
 intro γ w H ρ a c he hs hc
 have r1:=zt hm he
 have r2:=zt hk he
 simp only[rev] at hc
 split at hc
 ·rename_i hfit
  have hck:=fun empty=>zev (P:=P) hkt hfit r2 empty
  have hzr:=zkl hzero γ w
  cases hx:m'.ev ρ<;>simp only[hx] at hc r1<;>try (cases hc;done)
  ·simp only[Al1] at hc
   subst hc
   generalize hv:a.eval m=v at r1
   cases r1
   have hfk:(Instr.findKey key (a.eval k) []).run P w=.ok none w:=zds (γ:=γ) hd hkt hfit (zhx hfit r2) [] [] rfl (by simp) (by simp)
   cases ok with
   | true =>
    refine⟨.tuple #[z,.bool false],?_,?_⟩
    ·simp[execOp,ho,hv,Instr.lookup,run_underlying ht,hck,hfk,zeroValue,typeInfo,hei,hz]
    ·simp only[YR,if_true,Option.getD_none,Option.isSome_none]
     exact .tup _ [z,.bool false] rfl (yg.cons hzr (yg.cons (.bool _) yg.nil)).2
   | false =>
    refine⟨z,?_,?_⟩
    ·simp[execOp,ho,hv,Instr.lookup,run_underlying ht,hck,hfk,zeroValue,typeInfo,hei,hz]
    ·simpa[YR] using hzr
  ·rename_i b
   cases hb:H b with
   | none=>simp[hb] at hc
   | some ob =>
    cases ob<;>simp only[hb] at hc<;>try (cases hc;done)
    rename_i kt' es
    split at hc
    ·rename_i hkk
     subst hkk
     simp only[Al1] at hc
     subst hc
     generalize hv:a.eval m=v at r1
     cases r1
     cases hs b _ hb with
     | map _ _ cs clock hff hgk hbb hl hr =>
      have hfk:=zds (P:=P) (w:=w) (γ:=γ) hd hkt hfit (zhx hfit r2) es cs hl hff hr
      have hobj:(getObj b).run P w=.ok (.map cs.toArray clock) w:=by simp[getObj,Sem.run,hbb]
      cases hmf:za0 es (k'.ev ρ) with
      | none =>
       have hg:=(zd9 hmf).1
       rw[hmf] at hfk
       simp only[Option.map_none] at hfk
       rw[hg]
       cases ok with
       | true =>
        refine⟨.tuple #[z,.bool false],?_,?_⟩
        ·simp[execOp,ho,hv,Instr.lookup,run_underlying ht,hobj,hck,hfk,zeroValue,typeInfo,hei,hz]
        ·simp only[YR,if_true,Option.getD_none,Option.isSome_none]
         exact .tup _ [z,.bool false] rfl (yg.cons hzr (yg.cons (.bool _) yg.nil)).2
       | false =>
        refine⟨z,?_,?_⟩
        ·simp[execOp,ho,hv,Instr.lookup,run_underlying ht,hobj,hck,hfk,zeroValue,typeInfo,hei,hz]
        ·simpa[YR] using hzr
      | some i =>
       obtain⟨x,hxi,hg,_,_⟩:=zej hmf
       rw[hmf] at hfk
       simp only[zak] at hfk
       rw[hg]
       have hi:i<cs.length:=by rw[← hl];exact(Z4.1 hxi).1
       have hci:cs[i]?=some cs[i]:=Al9 hi
       have hgd:(cs.getD i default)=cs[i]:=by simp[List.getD,hci]
       rw[hgd] at hfk
       have hval:=(hr i x _ hxi hci).val
       cases ok with
       | true =>
        refine⟨.tuple #[cs[i].val,.bool true],?_,?_⟩
        ·simp[execOp,ho,hv,Instr.lookup,run_underlying ht,hobj,hck,hfk]
        ·simp only[YR,if_true,Option.getD_some,Option.isSome_some]
         exact .tup _ [cs[i].val,.bool true] rfl (yg.cons hval (yg.cons (.bool _) yg.nil)).2
       | false =>
        refine⟨cs[i].val,?_,?_⟩
        ·simp[execOp,ho,hv,Instr.lookup,run_underlying ht,hobj,hck,hfk]
        ·simpa[YR] using hval
    ·cases hc
 ·cases hc
theorem ziv {k:K1} {c d:AV} (hc:k.fits c=true) (hd:k.fits d=true) (h:c.keq1 d=true):c.conc1=d.conc1:=by
 cases k<;>cases c<;>simp[K1.fits] at hc<;>cases d<;>simp[K1.fits] at hd<;>simp[AV.keq1] at h
 ·subst h;rfl
 ·subst h;rfl
 ·subst h;subst hc;subst hd;rfl
theorem zhU:∀ {ks:List K1} {cs ds:List AV},zX ks cs=true→zX ks ds=true→zcQ cs ds=true→zbp cs=zbp ds
 | [],[],[],_,_,_=>rfl
 | [],_::_,_,h,_,_=>by simp[zX] at h
 | [],[],_::_,_,h,_=>by simp[zX] at h
 | _::_,[],_,h,_,_=>by simp[zX] at h
 | _::_,_::_,[],_,h,_=>by simp[zX] at h
 | k::ks,c::cs,d::ds,hc,hd,h=>by
  simp only[zX,Al0] at hc hd
  simp only[zcQ,Al0] at h
  unfold zbp
  rw[ziv hc.1 hd.1 h.1,zhU hc.2 hd.2 h.2]
theorem zpC {kt:KT} {c d:AV} (hc:kt.fits c=true) (hd:kt.fits d=true) (h:c.keq d=true):c.conc=d.conc:=by
 cases kt with
 | one k =>
  rw[zm2 (k:=k) hc] at h
  have:=ziv (k:=k) hc hd h
  cases k<;>cases c<;>simp[KT.fits,K1.fits] at hc<;>cases d<;>simp[KT.fits,K1.fits] at hd<;>exact this
 | agg ks =>
  cases c<;>simp[KT.fits] at hc
  cases d<;>simp[KT.fits] at hd
  simp only[AV.conc]
  rw[zhU hc hd h]
theorem zdg {c:AV} {v:Value} (h:c.conc1=some v) (n:Nat):Instr.sameBits n v v=true:=by
 cases c<;>simp only[AV.conc1,Al1] at h<;>first|(cases h;done)|(subst h;cases n<;>simp[Instr.sameBits,beq_toListBytes])
theorem zcX:∀ {cs:List AV} {vs:List Value},zbp cs=some vs→∀ n,(vs.zip vs).all (fun(x,y)=>Instr.sameBits n x y)=true
 | [],vs,h,n=>by simp only[zbp,Al1] at h;subst h;rfl
 | c::cs,vs,h,n=>by
  unfold zbp at h
  cases h1:c.conc1 with
  | none=>simp[h1] at h
  | some v =>
   cases h2:zbp cs with
   | none=>simp[h1,h2] at h
   | some us =>
    simp only[h1,h2,Al1] at h
    subst h
    simp only[List.zip_cons_cons,List.all_cons,zdg h1 n,Bool.true_and]
    exact zcX h2 n
theorem zih {c:AV} {v:Value} (h:c.conc=some v):Instr.sameBits 10000 v v=true:=by
 cases c with
 | agg cs =>
  simp only[AV.conc,zdp] at h
  obtain⟨vs,hvs,rfl⟩:=h
  have:=zcX hvs 9999
  show (vs.toArray.size==vs.toArray.size&&(vs.toArray.toList.zip vs.toArray.toList).all fun(x,y)=>Instr.sameBits 9999 x y)=true
  simpa using this
 | _=>(simp only[AV.conc] at h;exact zdg h 10000)
theorem zhe {γ:Gh} {w:World} {b:Nat} {es es':Array MapEntry} {clock clock':Nat} (hb:w.heap[b]?=some (.map es clock)) :
  Ext (fun c=>c=b) γ w γ { w with heap:=w.heap.setIfInBounds b (.map es' clock') }∧({ w with heap:=w.heap.setIfInBounds b (.map es' clock') }:World).heap[b]?=some (.map es' clock'):=by
 have hlt:b<w.heap.size:=(zck.1 hb).1
 have hother:∀ c,c≠b→(w.heap.setIfInBounds b (.map es' clock'))[c]?=w.heap[c]?:=fun c hc=>by rw[Array.getElem?_setIfInBounds_ne (Ne.symm hc)]
 have hself:(w.heap.setIfInBounds b (.map es' clock'))[b]?=some (.map es' clock'):=by simp[hlt]
 refine⟨⟨⟨by simp,fun c o v hc hp=>⟨hp,?_⟩,fun c arr E fr hc=>?_⟩,rfl,rfl,fun a _=>?_,fun c hc hn=>⟨rfl,hother c hn⟩⟩,hself⟩
 ·have hcb:c≠b:=fun e=>by subst e;simp[World.cell?,hb] at hc
  simp only[World.cell?] at hc ⊢
  rw[hother c hcb];exact hc
 ·have hcb:c≠b:=fun e=>by subst e;rw[hb] at hc;simp at hc
  exact⟨arr,(hother c hcb).trans hc,rfl⟩
 ·by_cases hcb:a.block=b
  ·simp only[World.frozen?,hcb,hself,hb]
  ·simp only[World.frozen?,hother _ hcb]
theorem zpP {P:Program} {o:Oper} {t key elem:TypeId} {m k x:Operand} {m' k' x':Opd} {kt:KT} {d:TypeDesc} (ho:o.op=.mapUpdate t m k x∨o.op=.insert t m k x) (hm:zQ m m'=true) (hk:zQ k k'=true) (hx':zQ x x'=true)
  (ht:P.underlying t=some (.map key elem)) (hkt:zcP P key kt=true) (hd:P.underlying key=some d):ze3 P o (.mup kt m' k' x'):=by
 intro γ w H ρ a K KP next Q he hs hop hn hp
 simp only[aop,AOp.cls,eff] at hop
 have r1:=zt hm he
 have r2:=zt hk he
 have r3:=zt hx' he
 cases hx:m'.ev ρ<;>simp only[hx] at hop r1<;>try (exact False.elim hop)
 rename_i b
 cases hb:H b with
 | none=>simp[hb] at hop
 | some ob =>
  cases ob<;>simp only[hb] at hop<;>try (exact False.elim hop)
  rename_i kt' es
  obtain⟨rfl,hfit,hK⟩:=hop
  have hck:=fun empty=>zev (P:=P) hkt hfit r2 empty
  have hconc:=zhx hfit r2
  generalize hv:a.eval m=v at r1
  cases r1
  cases hs b _ hb with
  | map _ _ cs clock hff hgk hbb hl hr =>
   have hfk:=zds (P:=P) (w:=w) (γ:=γ) hd hkt hfit hconc es cs hl hff hr
   have hobj:(getObj b).run P w=.ok (.map cs.toArray clock) w:=by simp[getObj,Sem.run,hbb]
   have hset:∀ es' clock',(setObj b (.map es' clock')).run P w=.ok () { w with heap:=w.heap.setIfInBounds b (.map es' clock') }:=fun es' clock'=>by simp[setObj,Sem.run,hbb]
   have hexec:∀ w',(Instr.mapUpdate t (.map (some b)) (a.eval k) (a.eval x)).run P w=.ok () w'→(execOp a.eval o).run P w=.ok .skip w':=by
    intro w' hr
    rcases ho with ho|ho<;>simp[execOp,ho,hv,hr]
   cases hmf:za0 es (k'.ev ρ) with
   | none =>
    rw[hmf] at hfk
    simp only[Option.map_none] at hfk
    rw[(zd9 hmf).2] at hK
    have hrun:(Instr.mapUpdate t (.map (some b)) (a.eval k) (a.eval x)).run P w=.ok () { w with heap:=w.heap.setIfInBounds b (.map (cs++[(⟨a.eval k,a.eval x,clock⟩:MapEntry)]).toArray (clock+1)) }:=by
     simp[Instr.mapUpdate,run_underlying ht,hobj,hck,hfk,hset]
    obtain⟨hext,hself⟩:=zhe (γ:=γ) (es':=(cs++[(⟨a.eval k,a.eval x,clock⟩:MapEntry)]).toArray) (clock':=clock+1) hbb
    refine zei (hexec _ hrun) (hn _ _ _ _ _ (hext.weaken fun c e=>by subst e;simp[keysOf,hb]) (zar hs hext (.map kt' _ _ _ (fun y hy=>?_) hgk hself (by simp[hl]) (fun i y e hy he=>?_))) (Y3 (by simp[hb])) (.tup [] [] rfl (by simp)) hK)
    ·rcases List.mem_append.1 hy with h|h
     ·exact hff y h
     ·simp at h;subst h;exact hfit
    ·rcases Nat.lt_or_ge i es.length with hi|hi
     ·rw[zb8 hi] at hy
      rw[zb8 (by omega)] at he
      exact(hr i y e hy he).mono hext.mono
     ·rw[zfc hi] at hy
      rw[zfc (by omega),← hl] at he
      cases hj:i-es.length with
      | zero=>rw[hj] at hy he;simp at hy he;subst hy;subst he;exact⟨hconc,r3.mono hext.mono⟩
      | succ j=>rw[hj] at hy;simp at hy
   | some i =>
    obtain⟨y,hyi,_,hq,hms⟩:=zej hmf
    rw[hmf] at hfk
    simp only[zak] at hfk
    rw[hms] at hK
    have hi:i<cs.length:=by rw[← hl];exact(Z4.1 hyi).1
    have hci:cs[i]?=some cs[i]:=Al9 hi
    have hkey:cs[i].key=a.eval k:=by
     have h1:=(hr i y _ hyi hci).key
     have h2:=zpC hfit (hff y (List.mem_of_getElem? hyi)) hq
     rw[hconc,h1] at h2
     exact(Option.some.inj h2).symm
    have hstay:(Instr.keyThatStays (((cs.toArray[i]?).map (·.key)).getD (a.eval k)) (a.eval k)).run P w=.ok (a.eval k) w:=by
     have e1:((cs.toArray[i]?).map (·.key)).getD (a.eval k)=a.eval k:=by simp[hci,hkey]
     rw[e1]
     simp[Instr.keyThatStays,zih hconc]
    have hmod:(cs.toArray.modify i fun e=>{ e with key:=a.eval k,val:=a.eval x })=(cs.set i { cs[i] with key:=a.eval k,val:=a.eval x }).toArray:=by
     apply Array.ext'
     apply List.ext_getElem?
     intro j
     simp only[Array.getElem?_toList,Array.getElem?_modify,List.getElem?_set]
     by_cases hij:i=j
     ·subst hij;simp[hi]
     ·simp[hij]
    have hrun:(Instr.mapUpdate t (.map (some b)) (a.eval k) (a.eval x)).run P w=.ok () { w with heap:=w.heap.setIfInBounds b (.map (cs.set i { cs[i] with key:=a.eval k,val:=a.eval x }).toArray clock) }:=by
     simp only[Instr.mapUpdate,Sem.run_bind,run_underlying ht,Result.andThen_ok,hobj,hck,hfk,hstay,hmod,hset]
    obtain⟨hext,hself⟩:=zhe (γ:=γ) (es':=(cs.set i { cs[i] with key:=a.eval k,val:=a.eval x }).toArray) (clock':=clock) hbb
    refine zei (hexec _ hrun) (hn _ _ _ _ _ (hext.weaken fun c e=>by subst e;simp[keysOf,hb]) (zar hs hext (.map kt' _ _ _ (fun y hy=>?_) hgk hself (by simp[hl]) (fun j y e hy he=>?_))) (Y3 (by simp[hb])) (.tup [] [] rfl (by simp)) hK)
    ·rcases List.mem_or_eq_of_mem_set hy with h|h
     ·exact hff y h
     ·rw[h];exact hfit
    ·rw[List.getElem?_set] at hy he
     by_cases hij:i=j
     ·subst hij
      have hi':i<es.length:=by omega
      simp only[if_true,hi,hi',Al1] at hy he
      subst hy;subst he
      exact⟨hconc,r3.mono hext.mono⟩
     ·simp only[hij,if_false] at hy he
      exact(hr j y e hy he).mono hext.mono
theorem zjP (zero:List AV) (n:Nat):(zbY zero n).length=n*zero.length:=by
 induction n with
 | zero=>simp[zbY]
 | succ n ih=>simp only[zbY,Al5,ih,Nat.succ_mul];omega
theorem zoL (zero:List AV) (n i:Nat) (h:i<n*zero.length):(zbY zero n)[i]?=zero[i % zero.length]?:=by
 induction n generalizing i with
 | zero=>simp at h
 | succ n ih =>
  simp only[zbY]
  rcases Nat.lt_or_ge i zero.length with hi|hi
  ·rw[zb8 hi,Nat.mod_eq_of_lt hi]
  ·rw[zfc hi,ih _ (by rw[Nat.succ_mul] at h;omega)]
   congr 1
   exact(Nat.mod_eq_sub_mod hi).symm
theorem zdQ (z:Array Value) (n i:Nat) (h:i<n) (hz:i % z.size<z.size):(madeCells z n).toList[i]?=z.toList[i % z.size]?:=by
 simp only[madeCells,Array.toList_map,Array.toList_range,YH,List.getElem?_range h,zak]
 rw[Array.getElem?_toList,Array.getElem?_eq_getElem hz]
 simp[hz]
theorem zpo {γ:Gh} {w:World} {zero:List AV} {z:Value} (hzero:zao z.cells.toList zero=true) (hpos:0<z.cells.size) (k:Nat):zo γ w (zbY zero k) (Builtin.zeroCells z.cells k).toList:=by
 have hf:=zbe (γ:=γ) (w:=w) hzero
 have hzl:zero.length=z.cells.size:=by rw[hf.1];simp
 have hmc:Builtin.zeroCells z.cells k=madeCells z.cells (k*z.cells.size):=rfl
 have hmod:∀ j,j % z.cells.size<z.cells.size:=fun j=>Nat.mod_lt _ hpos
 rw[hmc]
 refine⟨by rw[zjP,hzl,Array.length_toList,size_madeCells],fun j v hj=>?_,fun j d v hd hj=>?_⟩
 ·have hjl:j<k*z.cells.size:=by have:=(Z4.1 hj).1;rw[Array.length_toList,size_madeCells] at this;exact this
  rw[zdQ _ _ _ hjl (hmod j)] at hj
  exact hf.2.1 _ _ hj
 ·have hjl:j<k*z.cells.size:=by have:=(Z4.1 hj).1;rw[Array.length_toList,size_madeCells] at this;exact this
  rw[zdQ _ _ _ hjl (hmod j)] at hj
  rw[zoL _ _ _ (by rw[hzl];exact hjl),hzl] at hd
  exact hf.2.2 _ _ _ hd hj
theorem zo.mono {γ γ':Gh} {w w':World} (m:Mono γ w γ' w') {cs:List AV} {vs:List Value} (h:zo γ w cs vs):zo γ' w' cs vs:=⟨h.1,h.2.1,fun i c v hc hv=>(h.2.2 i c v hc hv).mono m⟩
theorem ztH {P:Program} {o:Oper} {t tx e ex:TypeId} {x y:Operand} {x' y':Opd} {i:TypeInfo} {z:Value} {sz bytes:Nat} {zero:List AV} (ho:o.op=.call { callee:=.builtin .append,args:=#[x,y],argTypes:=#[t,tx] }) (h:zQ x x'=true) (h2:zQ y y'=true)
  (ht:P.underlying t=some (.slice e)) (htx:P.underlying tx=some (.slice ex)) (hi:P.info? e=some i) (hz:i.zero=some z) (hsz:i.size=sz) (hby:i.bytes=bytes) (hzs:z.cells.size=sz) (hpos:0<sz) (hzero:zao z.cells.toList zero=true):ze3 P o (.appm sz bytes zero x' y'):=by
 intro γ w H ρ a K KP next Q he hs hop hn hp
 simp only[aop,AOp.cls,eff] at hop
 have r1:=zt h he
 have r2:=zt h2 he
 cases hy:y'.ev ρ<;>rw[hy] at hop r2<;>try (exact False.elim hop)
 rename_i own' s2 ys
 obtain⟨rfl,hzl,hop⟩:=hop
 obtain⟨news,hsrc,hnews,hys⟩:=zgT (P:=P) htx r2
 have hnews1:zo γ w (ys.flatten.map AV.strip1) news:=zcC hnews
 have hnl:news.length=ys.length*s2:=by rw[hsrc.newsLen]
 have hsrc':Src P i.size tx (a.eval y) ys.length news w:=by rw[hsz];exact hsrc
 have hexec:∀ v r w',a.eval x=v→(Builtin.append_ #[t,tx] o.type #[v,a.eval y]).run P w=.ok r w'→(execOp a.eval o).run P w=.ok (.value r) w':=fun v r w' hv hr=>by
  rw[← hv] at hr
  simp[execOp,ho,resolve,invoke,builtin,hr]
 have grown:∀(base:Option Addr) (len cap:Nat) (os:List AV) (olds:List Value),a.eval x=.slice base len cap→(Builtin.firstCells i.size len (.slice base len cap)).run P w.drew=.ok olds.toArray w.drew →
   zo γ w os olds→olds.length=len*s2→cap<len+ys.length→(len+ys.length)*bytes≤140737488355328→len+ys.length≤maxLen →
   (∀ b' cap',H b'=none→len+ys.length≤cap'→cap'≤maxLen→K (.ms b' 0 (len+ys.length) cap') (H.upd b' (.cells (os++ys.flatten.map AV.strip1++zbY zero (cap'-(len+ys.length))))))→o.wp P a w next Q:=by
  intro base len cap os olds hv hold hfr holen hlt hbytes hmax hk
  have hr:=run_append_grow_src (P:=P) w t tx o.type e i z ht hi hz base len cap olds hold (a.eval y) ys.length news hsrc' hlt (by simp only[maxLen] at hmax;omega) (growslice_fits hlt (by rw[hby];exact hbytes))
  rw[← hv] at hr
  generalize hcap:grownCap w (len+ys.length) cap e=cap' at hr
  have hge:len+ys.length≤cap':=hcap▸grownCap_ge w _ cap e
  have hle:cap'≤maxLen:=hcap▸grownCap_le_maxLen w _ cap e hmax
  generalize harr:(olds++news).toArray++Builtin.zeroCells z.cells (cap'-(len+ys.length))=arr at hr
  have hext:Ext (fun _=>False) γ w (fun b=>if b=w.heap.size then .own else γ b) (w.drew.alloc (.cells arr e)) :=
   (Ye (fun _=>False) γ w).trans (Z3 (fun _=>False) γ w.drew .own arr e) (fun _ _ f=>f)
  have hnewb:(w.drew.alloc (.cells arr e)).heap[w.heap.size]?=some (.cells arr e (0,0)):=heap_alloc_new w.drew _
  have hrel:zo (fun b=>if b=w.heap.size then .own else γ b) (w.drew.alloc (.cells arr e)) (os++ys.flatten.map AV.strip1++zbY zero (cap'-(len+ys.length))) arr.toList:=by
   have earr:arr.toList=(olds++news)++(Builtin.zeroCells z.cells (cap'-(len+ys.length))).toList:=by rw[← harr];simp
   rw[earr]
   exact zo.append (zo.mono hext.mono (zo.append hfr hnews1)) (zpo hzero (by omega) _)
  refine yr (hexec _ _ _ rfl hr) (hn _ _ _ _ _ (hext.weaken fun _ f=>f.elim) (YO (F:=fun _=>False) hs hext (.cells _ arr.toList e (by simp) (by simpa using hnewb) hrel.1 hrel.2.1 hrel.2.2)) Zo ?_ (hk _ _ (ZM hs) hge hle))
  exact .ms _ 0 _ _ (zck.1 hnewb).1 hge hle
 cases hx:x'.ev ρ<;>simp only[hx] at hop r1<;>try (exact False.elim hop)
 ·rename_i own s1 xs
  cases own<;>try (exact False.elim hop)
  obtain⟨rfl,rfl,hbytes,hmax,hK1,hK2⟩:=hop
  generalize hv:a.eval x=v at r1
  cases r1 with
  | sl _ _ _ b off _ cv hc hm hu hcell hr ho=>exact ho.elim
  | sl0 _ _ _ ho=>simp at ho
  | slnil _ _ _ =>
   by_cases hy0:ys=[]
   ·subst hy0
    have hr:=zaX (P:=P) t tx o.type e i ht hi (a.eval y) news hsrc'
    exact yr (hexec _ _ _ hv hr) (hn γ w H _ _ (.refl _ _ _) hs (yw.refl _ _) (.slnil .nil _ (by simp)) (hK1 rfl))
   ·have hp:0<ys.length:=List.length_pos_iff.2 hy0
    refine grown none 0 0 [] [] hv (run_firstCells_none _ _ _ _ _) ⟨rfl,by simp,by simp⟩ (by simp) (by omega) (by simpa using hbytes) (by simpa using hmax) fun b' cap' hb hc hm=>?_
    have:=hK2 hy0 b' cap' hb (by omega) hm
    simpa using this
 ·rename_i b off len cap
  obtain⟨hbytes,hmax,hK⟩:=hop
  cases hb:H b with
  | none=>simp[hb] at hK
  | some ob =>
   cases ob<;>simp only[hb] at hK<;>try (exact False.elim hK)
   rename_i cs
   generalize hv:a.eval x=v at r1
   cases r1 with
   | ms _ _ _ _ hlt hc hm =>
    cases hs b _ hb with
    | cells _ vs E hk hbb hl hone hr =>
     by_cases hroom:len+ys.length≤cap
     ·obtain⟨hfit,hk2⟩:=hK.1 hroom
      have e1:(len+ys.length)*s2=len*s2+ys.length*s2:=Nat.add_mul _ _ _
      have hrun:=zde (P:=P) t tx o.type e i ht hi b off len cap vs.toArray E hbb (a.eval y) ys.length news hsrc' hroom (by rw[hsz,hnl];simp;omega)
      rw[hsz] at hrun
      generalize harr:(vs.toArray.toList.take (off+len*s2)++news++vs.toArray.toList.drop (off+len*s2+news.length))=vs' at hrun
      have harr2:vs.take (off+len*s2)++news++vs.drop (off+len*s2+news.length)=vs':=by rw[← harr]
      have hext:Ext (fun c=>c=b) γ w γ (w.setRow b vs'.toArray) :=
       YK hbb (by rw[← harr2];simp;omega) rfl (fun q hq=>by simp[Yv,hk] at hq) (fun _ _=>rfl)
      have hf:zo γ w (splice cs (off+len*s2) (ys.flatten.map AV.strip1)) vs':=by
       rw[← harr2];exact zo.splice ⟨hl,hone,hr⟩ hnews1 _
      exact yr (hexec _ _ _ hv hrun) (hn γ _ _ _ _ (hext.weaken fun c e=>by subst e;simp[keysOf,hb]) (zar hs hext (.cells _ _ E hk (zaz w b _ _ E _ hbb) hf.1 hf.2.1 fun i c v hc hv=>(hf.2.2 i c v hc hv).mono hext.mono))
       (Y3 (by simp[hb])) (.ms b off _ cap (by simpa using hlt) hroom hm) hk2)
     ·obtain⟨hfit,hk2⟩:=hK.2 (by omega)
      have hlen:((vs.drop off).take (len*s2)).length=len*s2:=by simp;omega
      refine grown (some ⟨b,off,none⟩) len cap ((cs.drop off).take (len*s2)) ((vs.drop off).take (len*s2)) hv ?_ ?_ hlen (by omega) hbytes hmax hk2
      ·refine run_firstCells_some w.drew i.size len ⟨b,off,none⟩ len cap _ (by rw[hsz];exact hlen) fun j u hj=>?_
       rw[addr_add,cell_of_row w.drew b _ _ E _ hbb]
       rw[zgW] at hj
       split at hj
       ·rw[List.getElem?_drop] at hj;simpa using hj
       ·cases hj
      ·refine⟨by simp[hl],fun j u hj=>?_,fun j c u hc hj=>?_⟩
       ·rw[zgW] at hj
        split at hj
        ·rw[List.getElem?_drop] at hj;exact hone _ _ hj
        ·cases hj
       ·rw[zgW] at hj hc
        split at hj
        ·rename_i hlt2
         rw[if_pos hlt2] at hc
         rw[List.getElem?_drop] at hj hc;exact hr _ _ _ hc hj
        ·cases hj
theorem zsO {P:Program} {o:Oper} {t e:TypeId} {n sz:Nat} {parts:Array (Nat×Operand)} {qs:List (Nat×Opd)} {zero:List AV} {ei:TypeInfo} {z:Value} (ho:o.op=.buildSlice t n parts)
  (ht:P.underlying t=some (.slice e)) (hi:P.info? e=some ei) (hz:ei.zero=some z) (hsz:ei.size=sz) (hpos:0<sz) (hsmall:n*sz≤2 ^ 24) (hzero:zao z.cells.toList zero=true)
  (hparts:Yj parts.toList qs=true):ze3 P o (.blsm sz n zero qs):=by
 intro γ w H ρ a K KP next Q he hs hop hn hp
 simp only[aop,AOp.cls,oev,yJ] at hop
 by_cases hzl:zero.length=sz
 case neg=>simp only[hzl,if_false] at hop;exact(zd2 hs hop).elim
 simp only[hzl,if_true] at hop
 cases hf:yc AV.strip1 ρ sz (List.replicate n zero) qs with
 | none=>simp only[hf,Option.map_none] at hop;exact(zd2 hs hop).elim
 | some ys =>
  simp only[hf,zak] at hop
  obtain⟨hz1,hz2,hz3⟩:=zb2 hzero γ w
  have huni:∀ x∈List.replicate n zero,x.length=sz:=fun x hx=>by rw[(List.mem_replicate.1 hx).2];exact hzl
  have hfl:(List.replicate n zero).flatten.length=n*sz:=by rw[zR sz _ huni];simp
  have hzs:z.cells.size=sz:=by have:=hz1;simp at this;omega
  have hstart:zo γ w (List.replicate n zero).flatten ((List.range (n*sz)).map (fun k=>z.cells.toList.getD (k % sz) undef)):=by
   refine⟨by simp[hfl],fun i v hv=>?_,fun i c v hc hv=>?_⟩
   ·simp only[YH,zdp] at hv
    obtain⟨k,_,rfl⟩:=hv
    have hlt:k % sz<z.cells.toList.length:=by simp[hzs];exact Nat.mod_lt _ hpos
    exact hz2 (k % sz) _ (by rw[List.getD,Al9 hlt];rfl)
   ·simp only[YH,zdp] at hv
    obtain⟨k,hk,rfl⟩:=hv
    obtain⟨h1,h2⟩:=Z4.1 hk
    simp at h1 h2
    subst h2
    rw[zbD zero n i (by rw[hfl];exact h1),hzl] at hc
    have hlt:i % sz<z.cells.toList.length:=by simp[hzs];exact Nat.mod_lt _ hpos
    exact hz3 (i % sz) c _ hc (by rw[List.getD,Al9 hlt];rfl)
  obtain⟨us,hus,hru,huy,hly⟩:=zfp zcC he parts.toList qs _ _ ys hparts hf huni hstart
  have hext:=Z3 (fun _=>False) γ w .own us.toArray e
  have hcells:∀ f:Nat→Value,((List.range (n*sz)).map f).toArray=(Array.range (n*sz)).map f:=fun f=>by apply Array.ext';simp
  have hrun:(execOp a.eval o).run P w=.ok (.value (.slice (some ⟨w.heap.size,0,none⟩) n n)) (w.alloc (.cells us.toArray e)):=by
   have hstart':(Array.range (n*sz)).map (z.cells[· % z.cells.size]!)=((List.range (n*sz)).map (fun k=>z.cells.toList.getD (k % sz) undef)).toArray:=by
    rw[hcells]
    apply Array.map_congr_left
    intro k hk
    have hlt:k % sz<z.cells.size:=by rw[hzs];exact Nat.mod_lt _ hpos
    rw[hzs]
    simp[List.getD,hlt]
   have hmap:(parts.map fun(x:Nat×Operand)=>(x.1,a.eval x.2)).toList=parts.toList.map fun(i,x)=>(i,a.eval x):=by simp
   have hnot:¬ n*ei.size > 2 ^ 24:=by rw[hsz];omega
   simp only[execOp,ho,Instr.buildSlice,Sem.run_bind,run_underlying ht,Result.andThen_ok,sizeOf,typeInfo,run_program,hi,Sem.run_pure,hsz,zeroValue,hz]
   rw[hsz] at hnot
   rw[← hstart'] at hus
   by_cases hn:n*sz=0
   ·have h0:∀ f:Nat→Value,(Array.range 0).map f=#[]:=fun f=>by apply Array.ext';simp
    rw[hn,h0] at hus
    simp[hn,h0,hus,newRow]
   ·simp[hn,hnot,hus,newRow,zeroValue,typeInfo,hi,hz]
  have hnm:n≤maxLen:=by
   have:n*1≤n*sz:=Nat.mul_le_mul_left _ hpos
   unfold maxLen;omega
  have hru':=zo.mono hext.mono hru
  exact yr hrun (hn _ _ _ _ _ (hext.weaken fun _ f=>f.elim) (YO (F:=fun _=>False) hs hext (.cells _ us e (by simp) (heap_alloc_new w _) hru'.1 hru'.2.1 hru'.2.2)) Zo (.ms _ 0 n n (by simp) (Al4 _) hnm) (hop _ (ZM hs)))
def YP (P:Program) (t:TypeId):Option TypeInfo :=
 match P.underlying t with
 | some (.slice e)=>P.info? e
 | _=>none
def yV (P:Program) (o:Oper):AOp→Bool
 | .mv y=>match o.op with
  | .move x=>zQ x y
  | .assign x=>zQ x y
  | _=>false
 | .pick a b c=>match o.op with
  | .pick x y z=>zQ x a&&zQ y b&&zQ z c
  | _=>false
 | .nilchk y=>match o.op with
  | .nilCheck x=>zQ x y
  | _=>false
 | .bi op k a b=>match o.op with
  | .binOp op' _ x y _=>decide (op'=op)&&decide (op≠.shl)&&decide (op≠.shr)&&zQ x a&&zQ y b
  | _=>false
 | .shf op a b=>match o.op with
  | .binOp op' _ x y _=>decide (op'=op)&&zQ x a&&zQ y b
  | _=>false
 | .bs op a b=>match o.op with
  | .binOp op' _ x y _=>decide (op'=op)&&zQ x a&&zQ y b
  | _=>false
 | .bb neg a b=>match o.op with
  | .binOp op' t x y _=>decide (op'=if neg then .neq else .eql)&&zQ x a&&zQ y b&&(match P.underlying t with|some .bool=>true|_=>false)
  | _=>false
 | .eqa neg ks a b=>match o.op with
  | .binOp op' t x y _=>decide (op'=if neg then .neq else .eql)&&zQ x a&&zQ y b&&(match P.underlying t with|some (.struct fs)=>zbo P fs.toList 0 ks|_=>false)&&!P.stoodInHeld t&&!P.eqGuardType P.depth t
  | _=>false
 | .ifnil neg a=>match o.op with
  | .binOp op' t x y _=>decide (op'=if neg then .neq else .eql)&&zQ x a&&(match y with|.const .nilIface=>true|_=>false)&&isIface (P.underlying t)
  | _=>false
 | .not a=>match o.op with
  | .unOp .not _ x=>zQ x a
  | _=>false
 | .bld zero qs=>match o.op with
  | .build t parts=>((P.info? t).any fun ti=>ti.zero.any fun z=>zao z.cells.toList zero)&&((zjZ P t).any fun place=>zbc place parts.toList qs)
  | _=>false
 | .bls sz n zero qs=>match o.op with
  | .buildSlice t n' parts=>decide (n'=n)&&((YP P t).any fun ei=>decide (ei.size=sz)&&ei.zero.any fun z=>zao z.cells.toList zero)&&decide (0<sz)&&decide (n*sz≤2 ^ 24)&&Yj parts.toList qs
  | _=>false
 | .mkfn f first caps=>match o.op with
  | .makeFunc (.func f') a b=>decide (f'=f)&&YY a.toList first&&YY b.toList caps
  | _=>false
 | .ext a i=>match o.op with
  | .extract x i'=>decide (i'=i)&&zQ x a
  | _=>false
 | .fa off a=>match o.op with
  | .fieldAddr s x i=>zQ x a&&(match P.underlying s with
    | some (.struct fs)=>(fs[i]?.any fun f=>decide (f.offset=off)&&(P.info? f.type).any fun fi=>decide (fi.size≠0))
    | _=>false)
  | _=>false
 | .ia sz a i=>match o.op with
  | .indexAddr t x y=>zQ x a&&zQ y i&&((YP P t).any fun ei=>decide (ei.size=sz))
  | _=>false
 | .ixs a i=>match o.op with
  | .index t x y=>zQ x a&&zQ y i&&(match P.underlying t with|some .string=>true|_=>false)
  | _=>false
 | .sls a lo hi=>match o.op with
  | .slice t x l h none=>zQ x a&&zbf l lo&&zbf h hi&&(match P.underlying t with|some .string=>true|_=>false)
  | _=>false
 | .sll sz a lo hi mx=>match o.op with
  | .slice t x l h m=>zQ x a&&zbf l lo&&zbf h hi&&zbf m mx&&(!mx.isSome||hi.isSome)&&((YP P t).any fun ei=>decide (ei.size=sz))
  | _=>false
 | .len a=>match o.op with
  | .call { callee:=.builtin .len,args:=as,argTypes:=ts }=>match as.toList with
   | [x]=>zQ x a&&(ts[0]?.any fun t=>match P.underlying t with|some (.slice _)=>true|_=>false)
   | _=>false
  | _=>false
 | .lens a=>match o.op with
  | .call { callee:=.builtin .len,args:=as,argTypes:=ts }=>match as.toList with
   | [x]=>zQ x a&&(ts[0]?.any fun t=>match P.underlying t with|some .string=>true|_=>false)
   | _=>false
  | _=>false
 | .mm mx a ys=>match o.op with
  | .call { callee:=.builtin b,args:=args,argTypes:=_ }=>decide (b=if mx then .max else .min)&&(match args.toList with|x::r=>zQ x a&&YY r ys|[]=>false)
  | _=>false
 | .boxv a=>match o.op with
  | .box _ x=>zQ x a
  | _=>false
 | .ld n ag a=>match o.op with
  | .load t x=>zQ x a&&((P.info? t).any fun ti=>decide (ti.size=n))&&(P.underlying t).isSome&&decide (zfA (P.underlying t)=ag)&&(ag||decide (n=1))
  | _=>false
 | .lkp kt zero ok m k=>match o.op with
  | .lookup t m' k' ok'=>decide (ok'=ok)&&zQ m' m&&zQ k' k&&(match P.underlying t with
    | some (.map key elem)=>zcP P key kt&&(P.underlying key).isSome&&((P.info? elem).any fun ei=>ei.zero.any fun z=>zri z zero)
    | _=>false)
  | _=>false
 | .alloc zero=>match o.op with
  | .alloc t=>((P.info? t).any fun ti=>ti.zero.any fun z=>zao z.cells.toList zero)
  | _=>false
 | .box a=>match o.op with
  | .box _ x=>zQ x a
  | _=>false
 | .mkm _=>match o.op with
  | .makeMap _ none=>true
  | _=>false
 | .st n a b=>match o.op with
  | .store t x y=>zQ x a&&zQ y b&&((P.info? t).any fun ti=>decide (ti.size=n))
  | _=>false
 | .mup kt m k v=>match o.op with
  | .mapUpdate t m' k' v'=>zQ m' m&&zQ k' k&&zQ v' v&&(match P.underlying t with|some (.map key _)=>zcP P key kt&&(P.underlying key).isSome|_=>false)
  | .insert t m' k' v'=>zQ m' m&&zQ k' k&&zQ v' v&&(match P.underlying t with|some (.map key _)=>zcP P key kt&&(P.underlying key).isSome|_=>false)
  | _=>false
 | .app sz bytes a b=>match o.op with
  | .call { callee:=.builtin .append,args:=as,argTypes:=ts }=>match as.toList,ts.toList with
   | [x,y],[t,tx]=>zQ x a&&zQ y b&&((YP P t).any fun ei=>decide (ei.size=sz)&&decide (ei.bytes=bytes)&&ei.zero.any fun z=>decide (z.cells.size=sz))&&decide (0<sz)&&(match P.underlying tx with|some (.slice _)=>true|_=>false)
   | _,_=>false
  | _=>false
 | .appm sz bytes zero a b=>match o.op with
  | .call { callee:=.builtin .append,args:=as,argTypes:=ts }=>match as.toList,ts.toList with
   | [x,y],[t,tx]=>zQ x a&&zQ y b&&((YP P t).any fun ei=>decide (ei.size=sz)&&decide (ei.bytes=bytes)&&ei.zero.any fun z=>decide (z.cells.size=sz)&&zao z.cells.toList zero)&&decide (0<sz)&&(match P.underlying tx with|some (.slice _)=>true|_=>false)
   | _,_=>false
  | _=>false
 | .blsm sz n zero qs=>match o.op with
  | .buildSlice t n' parts=>decide (n'=n)&&((YP P t).any fun ei=>decide (ei.size=sz)&&ei.zero.any fun z=>zao z.cells.toList zero)&&decide (0<sz)&&decide (n*sz≤2 ^ 24)&&Yj parts.toList qs
  | _=>false
 | .call f args=>match o.op with
  | .call { callee:=.value (.func f'),args:=as,argTypes:=_ }=>decide (f'=f)&&YY as.toList args&&Program.callable P f
  | _=>false
 | .callv g args=>match o.op with
  | .call { callee:=.value g',args:=as,argTypes:=_ }=>zQ g' g&&YY as.toList args
  | _=>false
 | .pan a=>match o.op with
  | .panic x=>zQ x a
  | _=>false
theorem ZQ {P:Program} {t:TypeId} {ei:TypeInfo} (h:YP P t=some ei):∃ e,P.underlying t=some (.slice e)∧P.info? e=some ei:=by
 unfold YP at h
 split at h
 ·rename_i e he;exact⟨e,he,h⟩
 ·cases h
theorem yu {α:Type} {x:Option α} {p:α→Bool} (h:x.any p=true):∃ y,x=some y∧p y=true:=by
 cases x with
 | none=>simp at h
 | some y=>exact⟨y,rfl,by simpa using h⟩
theorem zfy {α:Type} {a:Array α} {l:List α} (h:a.toList=l):a=l.toArray:=by
 apply Array.ext';simpa using h
theorem zlh {P:Program} {o:Oper} {ao:AOp} (h:yV P o ao=true):ze3 P o ao:=by
 cases ao with
 | mv y =>
  simp only[yV] at h
  split at h
  ·rename_i ho;exact zS rfl (zuA (.inl ho) h)
  ·rename_i ho;exact zS rfl (zuA (.inr ho) h)
  ·cases h
 | pick a b c =>
  simp only[yV] at h
  split at h
  ·rename_i ho;simp only[Al0] at h;exact zS rfl (zsX ho h.1.1 h.1.2 h.2)
  ·cases h
 | nilchk y =>
  simp only[yV] at h
  split at h
  ·rename_i ho;exact zS rfl (zoB ho h)
  ·cases h
 | bi op k a b =>
  simp only[yV] at h
  split at h
  ·rename_i ho
   simp only[Al0,yH] at h
   obtain⟨⟨⟨⟨rfl,h1⟩,h2⟩,h3⟩,h4⟩:=h
   exact zS rfl (zwT ho h3 h4 h1 h2)
  ·cases h
 | shf op a b =>
  simp only[yV] at h
  split at h
  ·rename_i ho
   simp only[Al0,yH] at h
   obtain⟨⟨rfl,h3⟩,h4⟩:=h
   exact zS rfl (zvA ho h3 h4)
  ·cases h
 | bs op a b =>
  simp only[yV] at h
  split at h
  ·rename_i ho
   simp only[Al0,yH] at h
   obtain⟨⟨rfl,h3⟩,h4⟩:=h
   exact zS rfl (zxl ho h3 h4)
  ·cases h
 | bb neg a b =>
  simp only[yV] at h
  split at h
  ·rename_i ho
   simp only[Al0,yH] at h
   obtain⟨⟨⟨h1,h3⟩,h4⟩,h5⟩:=h
   split at h5
   ·rename_i ht;exact zS rfl (zwz ho h3 h4 h1 ht)
   ·cases h5
  ·cases h
 | eqa neg ks a b =>
  simp only[yV] at h
  split at h
  ·rename_i ho
   simp only[Al0,yH,Bool.not_eq_true'] at h
   obtain⟨⟨⟨⟨⟨h1,h3⟩,h4⟩,h5⟩,h6⟩,h7⟩:=h
   split at h5
   ·rename_i ht;exact zS rfl (zve ho h3 h4 h1 ht h5 h6 h7)
   ·cases h5
  ·cases h
 | ifnil neg a =>
  simp only[yV] at h
  split at h
  ·rename_i ho
   simp only[Al0,yH] at h
   obtain⟨⟨⟨h1,h2⟩,h3⟩,h4⟩:=h
   split at h3
   ·exact zS rfl (zqv ho h1 h2 rfl h4)
   ·cases h3
  ·cases h
 | not a =>
  simp only[yV] at h
  split at h
  ·rename_i ho;exact zS rfl (zwc ho h)
  ·cases h
 | bld zero qs =>
  simp only[yV] at h
  split at h
  ·rename_i ho
   simp only[Al0] at h
   obtain⟨h1,h2⟩:=h
   obtain⟨ti,hti,h1⟩:=yu h1
   obtain⟨z,hz,h1⟩:=yu h1
   obtain⟨pl,hpl,h2⟩:=yu h2
   exact zS rfl (zvQ ho hti hz h1 hpl h2)
  ·cases h
 | bls sz n zero qs =>
  simp only[yV] at h
  split at h
  ·rename_i ho
   simp only[Al0,yH] at h
   obtain⟨⟨⟨⟨rfl,h1⟩,h2⟩,h3⟩,h4⟩:=h
   obtain⟨ei,hei,h1⟩:=yu h1
   simp only[Al0,yH] at h1
   obtain⟨h1,h5⟩:=h1
   obtain⟨z,hz,h5⟩:=yu h5
   obtain⟨e,he,hi⟩:=ZQ hei
   exact zS rfl (zvN ho he hi hz h1 h2 h3 h5 h4)
  ·cases h
 | mkfn f first caps =>
  simp only[yV] at h
  split at h
  ·rename_i ho
   simp only[Al0,yH] at h
   obtain⟨⟨rfl,h1⟩,h2⟩:=h
   exact zS rfl (ztJ ho h1 h2)
  ·cases h
 | ext a i =>
  simp only[yV] at h
  split at h
  ·rename_i ho
   simp only[Al0,yH] at h
   obtain⟨rfl,h1⟩:=h
   exact zS rfl (zvs ho h1)
  ·cases h
 | fa off a =>
  simp only[yV] at h
  split at h
  ·rename_i ho
   simp only[Al0] at h
   obtain⟨h1,h2⟩:=h
   split at h2
   ·rename_i fs hfs
    obtain⟨f,hf,h2⟩:=yu h2
    simp only[Al0,yH] at h2
    obtain⟨h2,h3⟩:=h2
    obtain⟨fi,hfi,h3⟩:=yu h3
    exact zS rfl (zwy ho h1 hfs hf h2 hfi (by simpa using h3))
   ·cases h2
  ·cases h
 | ia sz a i =>
  simp only[yV] at h
  split at h
  ·rename_i ho
   simp only[Al0] at h
   obtain⟨⟨h1,h2⟩,h3⟩:=h
   obtain⟨ei,hei,h3⟩:=yu h3
   obtain⟨e,he,hi⟩:=ZQ hei
   exact zS rfl (zwu ho h1 h2 he hi (by simpa using h3))
  ·cases h
 | ixs a i =>
  simp only[yV] at h
  split at h
  ·rename_i ho
   simp only[Al0] at h
   obtain⟨⟨h1,h2⟩,h3⟩:=h
   split at h3
   ·rename_i ht;exact zS rfl (zuP ho h1 h2 ht)
   ·cases h3
  ·cases h
 | sls a lo hi =>
  simp only[yV] at h
  split at h
  ·rename_i ho
   simp only[Al0] at h
   obtain⟨⟨⟨h1,h2⟩,h3⟩,h4⟩:=h
   split at h4
   ·rename_i ht;exact zS rfl (zwi ho h1 h2 h3 ht)
   ·cases h4
  ·cases h
 | sll sz a lo hi mx =>
  simp only[yV] at h
  split at h
  ·rename_i ho
   simp only[Al0,zc6,Bool.not_eq_true'] at h
   obtain⟨⟨⟨⟨⟨h1,h2⟩,h3⟩,h4⟩,h5⟩,h6⟩:=h
   obtain⟨ei,hei,h6⟩:=yu h6
   obtain⟨e,he,hi⟩:=ZQ hei
   exact zS rfl (zvV ho h1 h2 h3 h4 (fun hs=>by rcases h5 with h5|h5<;>simp_all) he hi (by simpa using h6))
  ·cases h
 | len a =>
  simp only[yV] at h
  split at h
  ·rename_i ho
   split at h
   ·rename_i hl
    simp only[Al0] at h
    obtain⟨h1,h2⟩:=h
    obtain⟨t,ht,h2⟩:=yu h2
    split at h2
    ·rename_i hu;exact zS rfl (zuL (by rw[ho,zfy hl]) ht h1 hu)
    ·cases h2
   ·cases h
  ·cases h
 | lens a =>
  simp only[yV] at h
  split at h
  ·rename_i ho
   split at h
   ·rename_i hl
    simp only[Al0] at h
    obtain⟨h1,h2⟩:=h
    obtain⟨t,ht,h2⟩:=yu h2
    split at h2
    ·rename_i hu;exact zS rfl (zsq (by rw[ho,zfy hl]) ht h1 hu)
    ·cases h2
   ·cases h
  ·cases h
 | mm mx a ys =>
  simp only[yV] at h
  split at h
  ·rename_i ho
   simp only[Al0,yH] at h
   obtain⟨rfl,h2⟩:=h
   split at h2
   ·rename_i ha
    simp only[Al0] at h2
    exact zS rfl (zwD ho ha h2.1 h2.2)
   ·cases h2
  ·cases h
 | boxv a =>
  simp only[yV] at h
  split at h
  ·rename_i ho;exact zS rfl (zti ho h)
  ·cases h
 | ld n ag a =>
  simp only[yV] at h
  split at h
  ·rename_i ho
   simp only[Al0,yH,zc6] at h
   obtain⟨⟨⟨⟨h1,h3⟩,h4⟩,h5⟩,h6⟩:=h
   obtain⟨ti,hti,h3⟩:=yu h3
   obtain⟨d,hd⟩:=zmt.1 h4
   exact zgU rfl (zuv ho h1 hti (by simpa using h3) hd h5 h6)
  ·cases h
 | lkp kt zero ok m k =>
  simp only[yV] at h
  split at h
  ·rename_i ho
   simp only[Al0,yH] at h
   obtain⟨⟨⟨rfl,h1⟩,h2⟩,h3⟩:=h
   split at h3
   ·rename_i ht
    simp only[Al0] at h3
    obtain⟨⟨h3,h4⟩,h5⟩:=h3
    obtain⟨d,hd⟩:=zmt.1 h4
    obtain⟨ei,hei,h5⟩:=yu h5
    obtain⟨z,hz,h5⟩:=yu h5
    exact zgU rfl (zwo ho h1 h2 ht h3 hd hei hz h5)
   ·cases h3
  ·cases h
 | alloc zero =>
  simp only[yV] at h
  split at h
  ·rename_i ho
   obtain⟨ti,hti,h⟩:=yu h
   obtain⟨z,hz,h⟩:=yu h
   exact zrS ho hti hz h
  ·cases h
 | box a =>
  simp only[yV] at h
  split at h
  ·rename_i ho;exact zv2 ho h
  ·cases h
 | mkm kt =>
  simp only[yV] at h
  split at h
  ·rename_i ho;exact zvF ho
  ·cases h
 | st n a b =>
  simp only[yV] at h
  split at h
  ·rename_i ho
   simp only[Al0] at h
   obtain⟨⟨h1,h2⟩,h3⟩:=h
   obtain⟨ti,hti,h3⟩:=yu h3
   exact zw5 ho h1 h2 hti (by simpa using h3)
  ·cases h
 | mup kt m k v =>
  simp only[yV] at h
  split at h
  ·rename_i ho
   simp only[Al0] at h
   obtain⟨⟨⟨h1,h2⟩,h3⟩,h4⟩:=h
   split at h4
   ·rename_i ht
    simp only[Al0] at h4
    obtain⟨d,hd⟩:=zmt.1 h4.2
    exact zpP (.inl ho) h1 h2 h3 ht h4.1 hd
   ·cases h4
  ·rename_i ho
   simp only[Al0] at h
   obtain⟨⟨⟨h1,h2⟩,h3⟩,h4⟩:=h
   split at h4
   ·rename_i ht
    simp only[Al0] at h4
    obtain⟨d,hd⟩:=zmt.1 h4.2
    exact zpP (.inr ho) h1 h2 h3 ht h4.1 hd
   ·cases h4
  ·cases h
 | blsm sz n zero qs =>
  simp only[yV] at h
  split at h
  ·rename_i ho
   simp only[Al0,yH] at h
   obtain⟨⟨⟨⟨rfl,h1⟩,h2⟩,h3⟩,h4⟩:=h
   obtain⟨ei,hei,h1⟩:=yu h1
   simp only[Al0,yH] at h1
   obtain⟨h1,h5⟩:=h1
   obtain⟨z,hz,h5⟩:=yu h5
   obtain⟨e,he,hi⟩:=ZQ hei
   exact zsO ho he hi hz h1 h2 h3 h5 h4
  ·cases h
 | appm sz bytes zero a b =>
  simp only[yV] at h
  split at h
  ·rename_i ho
   split at h
   ·rename_i hl1 hl2
    simp only[Al0,yH] at h
    obtain⟨⟨⟨⟨h1,h2⟩,h3⟩,h4⟩,h5⟩:=h
    obtain⟨ei,hei,h3⟩:=yu h3
    simp only[Al0,yH] at h3
    obtain⟨⟨h3,h6⟩,h7⟩:=h3
    obtain⟨z,hz,h7⟩:=yu h7
    simp only[Al0,yH] at h7
    obtain⟨e,he,hi⟩:=ZQ hei
    split at h5
    ·rename_i htx
     exact ztH (by rw[ho,zfy hl1,zfy hl2]) h1 h2 he htx hi hz h3 h6 h7.1 h4 h7.2
    ·cases h5
   ·cases h
  ·cases h
 | app sz bytes a b =>
  simp only[yV] at h
  split at h
  ·rename_i ho
   split at h
   ·rename_i hl1 hl2
    simp only[Al0,yH] at h
    obtain⟨⟨⟨⟨h1,h2⟩,h3⟩,h4⟩,h5⟩:=h
    obtain⟨ei,hei,h3⟩:=yu h3
    simp only[Al0,yH] at h3
    obtain⟨⟨h3,h6⟩,h7⟩:=h3
    obtain⟨z,hz,h7⟩:=yu h7
    obtain⟨e,he,hi⟩:=ZQ hei
    split at h5
    ·rename_i htx
     exact zva (by rw[ho,zfy hl1,zfy hl2]) h1 h2 he htx hi hz h3 h6 (by simpa using h7) h4
    ·cases h5
   ·cases h
  ·cases h
 | call f args =>
  simp only[yV] at h
  split at h
  ·rename_i ho
   simp only[Al0,yH] at h
   obtain⟨⟨rfl,h1⟩,h2⟩:=h
   exact zsm ho h1 h2
  ·cases h
 | callv g args =>
  simp only[yV] at h
  split at h
  ·rename_i ho
   simp only[Al0] at h
   exact zrt ho h.1 h.2
  ·cases h
 | pan a =>
  simp only[yV] at h
  split at h
  ·rename_i ho;exact zvB ho h
  ·cases h
abbrev Chk:=Nat×Option (Nat×Bool)×AOp
structure AItem where
 dst:Option Nat
 guard:Option (Nat×Bool)
 op:AOp
 chk:List Nat
def gv (g:Option (Nat×Bool)) (ρ:Env):Option Bool :=
 match g with
 | none=>some true
 | some (s,want)=>match ρ s with
  | .bool b=>some (b==want)
  | .tup []=>some false
  | _=>none
def Zi (ρ:Env) (H:zb):List Chk→Prop
 | []=>True
 | (d,g,o)::r=>(gv g ρ=some true→rev ρ H o=some (ρ d))∧Zi ρ H r
def ZP (P:Program) (KP:AV→zb→Prop) (it:AItem) (R:List Chk) (ρ:Env) (H:zb) (K:Env→zb→Prop):Prop :=
 match gv it.guard ρ with
 | some true=>aop P KP it.op ρ H (fun v H'=>Zi (ρ.set it.dst v) H' R∧K (ρ.set it.dst v) H')
 | some false=>K (ρ.set it.dst (.tup [])) H
 | none=>False
def y0 (P:Program) (KP:AV→zb→Prop):List (AItem×List Chk)→Env→zb→(Env→zb→Prop)→Prop
 | [],ρ,H,K=>K ρ H
 | it::r,ρ,H,K=>ZP P KP it.1 it.2 ρ H (fun ρ' H'=>y0 P KP r ρ' H' K)
def Opd.slots:Opd→List Nat
 | .t n=>[n]
 | .k _=>[]
def zeh:Option Opd→List Nat
 | some x=>x.slots
 | none=>[]
def AOp.looks:AOp→List Nat
 | .mv x|.nilchk x|.ifnil _ x|.not x|.ext x _|.fa _ x|.len x|.lens x|.boxv x|.ld _ _ x|.box x|.pan x=>x.slots
 | .pick a b c=>a.slots++b.slots++c.slots
 | .bi _ _ x y|.shf _ x y|.bs _ x y|.bb _ x y|.eqa _ _ x y|.ia _ x y|.ixs x y|.lkp _ _ _ x y|.st _ x y|.app _ _ x y|.appm _ _ _ x y=>x.slots++y.slots
 | .bld _ qs=>qs.flatMap fun q=>q.2.2.slots
 | .bls _ _ _ qs|.blsm _ _ _ qs=>qs.flatMap fun q=>q.2.slots
 | .mkfn _ a b=>a.flatMap Opd.slots++b.flatMap Opd.slots
 | .sls x lo hi=>x.slots++zeh lo++zeh hi
 | .sll _ x lo hi mx=>x.slots++zeh lo++zeh hi++zeh mx
 | .mm _ x ys=>x.slots++ys.flatMap Opd.slots
 | .alloc _|.mkm _=>[]
 | .mup _ a b c=>a.slots++b.slots++c.slots
 | .call _ args=>args.flatMap Opd.slots
 | .callv g args=>g.slots++args.flatMap Opd.slots
theorem yo {ρ ρ':Env} {x:Opd} (h:∀ n∈x.slots,ρ n=ρ' n):x.ev ρ=x.ev ρ':=by
 cases x with
 | t n=>exact h n (by simp[Opd.slots])
 | k c=>rfl
theorem zce {ρ ρ':Env}:∀ {xs:List Opd},(∀ n∈xs.flatMap Opd.slots,ρ n=ρ' n)→xs.map (Opd.ev ρ)=xs.map (Opd.ev ρ')
 | [],_=>rfl
 | x::xs,h=>by
  simp only[List.flatMap_cons,List.mem_append] at h
  simp only[List.map_cons,yo (fun n hn=>h n (.inl hn)),zce (fun n hn=>h n (.inr hn))]
theorem zga {ρ ρ':Env}:∀ {qs:List (Nat×Nat×Opd)} {cs:List AV},(∀ n∈qs.flatMap (fun q=>q.2.2.slots),ρ n=ρ' n)→yh ρ cs qs=yh ρ' cs qs
 | [],_,_=>rfl
 | (off,n,x)::qs,cs,h=>by
  simp only[List.flatMap_cons,List.mem_append] at h
  simp only[yh,yo (fun n hn=>h n (.inl hn)),zga (fun n hn=>h n (.inr hn))]
theorem zc8 {S:AV→AV} {ρ ρ':Env} {sz:Nat}:∀ {qs:List (Nat×Opd)} {cs:List (List AV)},(∀ n∈qs.flatMap (fun q=>q.2.slots),ρ n=ρ' n)→yc S ρ sz cs qs=yc S ρ' sz cs qs
 | [],_,_=>rfl
 | (i,x)::qs,cs,h=>by
  simp only[List.flatMap_cons,List.mem_append] at h
  simp only[yc,yo (fun n hn=>h n (.inl hn)),zc8 (fun n hn=>h n (.inr hn))]
theorem zf7 {ρ ρ':Env} {mx:Bool} {k:IntKind}:∀ {ys:List Opd} {a:Int},(∀ n∈ys.flatMap Opd.slots,ρ n=ρ' n)→yi mx k ρ a ys=yi mx k ρ' a ys
 | [],_,_=>rfl
 | y::ys,a,h=>by
  simp only[List.flatMap_cons,List.mem_append] at h
  simp only[yi,yo (fun n hn=>h n (.inl hn))]
  split
  ·rw[zf7 (fun n hn=>h n (.inr hn))]
  ·rfl
theorem zbB {ρ ρ':Env} {d:Nat} {x:Option Opd} (h:∀ n∈zeh x,ρ n=ρ' n):bound d ρ x=bound d ρ' x:=by
 cases x with
 | none=>rfl
 | some y=>simp only[bound,yo (x:=y) h]
theorem ziy {ρ ρ':Env} {o:AOp} (h:∀ n∈o.looks,ρ n=ρ' n):pev ρ o=pev ρ' o:=by
 cases o<;>simp only[AOp.looks,List.mem_append] at h<;>simp only[pev]
 case pick a b c=>rw[yo (x:=a) (fun n hn=>h n (.inl (.inl hn))),yo (x:=b) (fun n hn=>h n (.inl (.inr hn))),yo (x:=c) (fun n hn=>h n (.inr hn))]
 case bld z qs=>rw[zga h]
 case bls a b z qs=>rw[zc8 h]
 case mkfn f a b=>rw[zce (fun n hn=>h n (.inl hn)),zce (fun n hn=>h n (.inr hn))]
 case sls x lo hi=>rw[yo (x:=x) (fun n hn=>h n (.inl (.inl hn))),zbB (x:=lo) (fun n hn=>h n (.inl (.inr hn)))];simp only[zbB (x:=hi) (fun n hn=>h n (.inr hn))]
 case sll s x lo hi mx =>
  rw[yo (x:=x) (fun n hn=>h n (.inl (.inl (.inl hn)))),zbB (x:=lo) (fun n hn=>h n (.inl (.inl (.inr hn))))]
  simp only[zbB (x:=hi) (fun n hn=>h n (.inl (.inr hn)))]
  cases mx with
  | none =>
   split
   ·rename_i o1 s1 xs _
    generalize bound 0 ρ' lo=b1
    generalize bound xs.length ρ' hi=b2
    cases b1<;>cases b2<;>rfl
   ·rfl
   ·rfl
  | some m =>
   have hm:=yo (x:=m) (fun n hn=>h n (.inr (show n∈zeh (some m) from hn)))
   split
   ·rename_i o1 s1 xs _
    generalize bound 0 ρ' lo=b1
    generalize bound xs.length ρ' hi=b2
    cases b1<;>cases b2<;>first|rfl|(show (match m.ev ρ with|.int _ m=>_|_=>_)=_;rw[hm]<;>rfl)
   ·rfl
   ·rfl
 case mm mx x ys=>rw[yo (x:=x) (fun n hn=>h n (.inl hn))];simp only[zf7 (fun n hn=>h n (.inr hn))]
 all_goals first
  | rfl
  | (rw[yo h];done)
  | (rename_i x y;rw[yo (x:=x) (fun n hn=>h n (.inl hn)),yo (x:=y) (fun n hn=>h n (.inr hn))];done)
theorem zcd {ρ ρ':Env} {H:zb} {o:AOp} (h:∀ n∈o.looks,ρ n=ρ' n):rev ρ H o=rev ρ' H o:=by
 cases o<;>simp only[AOp.looks,List.mem_append] at h<;>simp only[rev]
 all_goals first
  | (rw[yo h];done)
  | (rename_i x y;rw[yo (x:=x) (fun n hn=>h n (.inl hn)),yo (x:=y) (fun n hn=>h n (.inr hn))];done)
theorem zdE {ρ ρ':Env} {o:AOp} (h:∀ n∈o.looks,ρ n=ρ' n):oev ρ o=oev ρ' o:=by
 cases o<;>simp only[AOp.looks,List.mem_append] at h<;>simp only[oev]
 case blsm a b z qs=>rw[zc8 h]
 all_goals (rw[yo h])
theorem zcB {ρ ρ':Env} {b:Nat} {o:AOp} (h:∀ n∈o.looks,ρ n=ρ' n):yJ ρ b o=yJ ρ' b o:=by
 cases o<;>simp only[AOp.looks,List.mem_append] at h<;>simp only[yJ]
 all_goals (rw[yo h])
theorem ziX {P:Program} {KP:AV→zb→Prop} {ρ ρ':Env} {H:zb} {K:AV→zb→Prop} {o:AOp} (h:∀ n∈o.looks,ρ n=ρ' n):eff P KP ρ H K o=eff P KP ρ' H K o:=by
 cases o<;>simp only[AOp.looks,List.mem_append] at h<;>simp only[eff]
 case mup kt a b c=>rw[yo (x:=a) (fun n hn=>h n (.inl (.inl hn))),yo (x:=b) (fun n hn=>h n (.inl (.inr hn))),yo (x:=c) (fun n hn=>h n (.inr hn))]
 case call f args=>rw[zce h]
 case callv g args=>rw[yo (x:=g) (fun n hn=>h n (.inl hn)),zce (fun n hn=>h n (.inr hn))]
 all_goals first
  | (rw[yo h];done)
  | (rename_i x y;rw[yo (x:=x) (fun n hn=>h n (.inl hn)),yo (x:=y) (fun n hn=>h n (.inr hn))];done)
theorem zo3 {P:Program} {KP:AV→zb→Prop} {ρ ρ':Env} {H:zb} {K:AV→zb→Prop} {o:AOp} (h:∀ n∈o.looks,ρ n=ρ' n):aop P KP o ρ H K=aop P KP o ρ' H K:=by
 unfold aop
 rw[ziy h,zcd h,zdE h,ziX h]
 simp only[zcB h]
theorem zi.monoEnd {P:Program} {f:FuncId} {args:List AV} {H:zb} {K K' KP:AV→zb→Prop} (hk:∀ v H',K v H'→K' v H') (h:zi P f args H (ZU K KP)):zi P f args H (ZU K' KP) :=
 h.mono fun r H' hr=>by cases r<;>first|exact hk _ _ hr|exact hr
theorem zo2 {sz bytes:Nat} {x y:AV} {H:zb} {K K':AV→zb→Prop} (hk:∀ v H',K v H'→K' v H') (h:zl1 sz bytes x y H K):zl1 sz bytes x y H K':=by
 cases x<;>try (exact False.elim h)
 cases y<;>try (exact False.elim h)
 rename_i o s1 xs o2 s2 ys
 obtain⟨h1,h2,h3,h4,h5⟩:=h
 refine⟨h1,h2,h3,h4,?_⟩
 cases o with
 | no=>exact h5
 | nil=>exact⟨fun e=>hk _ _ (h5.1 e),fun e b hb=>hk _ _ (h5.2 e b hb)⟩
 | full=>exact⟨fun e=>hk _ _ (h5.1 e),fun e b hb=>hk _ _ (h5.2 e b hb)⟩
 | tip b d=>exact⟨h5.1,fun b' d' hb=>hk _ _ (h5.2 b' d' hb)⟩
theorem zmm {S:AV→AV} {sz bytes:Nat} {zero:List AV} {x y:AV} {H:zb} {K K':AV→zb→Prop} (hk:∀ v H',K v H'→K' v H') (h:zhK S sz bytes zero x y H K):zhK S sz bytes zero x y H K':=by
 cases y<;>try (exact False.elim h)
 obtain⟨h1,h2,h3⟩:=h
 refine⟨h1,h2,?_⟩
 cases x<;>try (exact False.elim h3)
 ·rename_i o s1 xs
  cases o<;>try (exact False.elim h3)
  obtain⟨h4,h5,h6,h7,h8,h9⟩:=h3
  exact⟨h4,h5,h6,h7,fun e=>hk _ _ (h8 e),fun e b cap hb hc hm=>hk _ _ (h9 e b cap hb hc hm)⟩
 ·rename_i b off len cap
  obtain⟨h4,h5,h6⟩:=h3
  refine⟨h4,h5,?_⟩
  cases hb:H b with
  | none=>simp[hb] at h6
  | some ob =>
   cases ob<;>simp only[hb] at h6 ⊢<;>try (exact False.elim h6)
   exact⟨fun e=>⟨(h6.1 e).1,hk _ _ (h6.1 e).2⟩,fun e=>⟨(h6.2 e).1,fun b' cap' hb' hc hm=>hk _ _ ((h6.2 e).2 b' cap' hb' hc hm)⟩⟩
theorem zke {P:Program} {KP:AV→zb→Prop} {ρ:Env} {H:zb} {K K':AV→zb→Prop} {o:AOp} (hk:∀ v H',K v H'→K' v H') (h:eff P KP ρ H K o):eff P KP ρ H K' o:=by
 cases o<;>simp only[eff] at h ⊢<;>try (exact False.elim h)
 case st n x y =>
  cases hx:x.ev ρ<;>simp only[hx] at h ⊢<;>try (exact False.elim h)
  rename_i b off
  cases hb:H b with
  | none=>simp[hb] at h
  | some ob =>
   cases ob<;>simp only[hb] at h ⊢<;>try (exact False.elim h)
   exact⟨h.1,h.2.1,h.2.2.1,hk _ _ h.2.2.2⟩
 case mup kt m k v =>
  cases hx:m.ev ρ<;>simp only[hx] at h ⊢<;>try (exact False.elim h)
  rename_i b
  cases hb:H b with
  | none=>simp[hb] at h
  | some ob =>
   cases ob<;>simp only[hb] at h ⊢<;>try (exact False.elim h)
   exact⟨h.1,h.2.1,hk _ _ h.2.2⟩
 case app sz by' x y=>exact zo2 hk h
 case appm sz by' z x y=>exact zmm hk h
 case call f args=>exact zi.monoEnd hk h
 case callv g args =>
  cases hg:g.ev ρ<;>simp only[hg] at h ⊢<;>try (exact False.elim h)
  exact⟨h.1,zi.monoEnd hk h.2⟩
 case pan x =>
  cases hx:x.ev ρ<;>simp only[hx] at h ⊢<;>try (exact False.elim h)
  exact h
theorem zg0 {P:Program} {KP:AV→zb→Prop} {o:AOp} {ρ:Env} {H:zb} {K K':AV→zb→Prop} (hk:∀ v H',K v H'→K' v H') (h:aop P KP o ρ H K):aop P KP o ρ H K':=by
 unfold aop at *
 cases hc:o.cls<;>simp only[hc] at h ⊢
 ·cases hv:pev ρ o<;>simp only[hv] at h ⊢;· exact hk _ _ h
 ·cases hv:rev ρ H o<;>simp only[hv] at h ⊢;· exact hk _ _ h
 ·cases hv:oev ρ o<;>simp only[hv] at h ⊢
  ·exact h
  ·exact fun b hb=>hk _ _ (h b hb)
 ·exact zke hk h
theorem zdc {P:Program} {KP:AV→zb→Prop} {it:AItem} {R R':List Chk} {ρ:Env} {H:zb} {K K':Env→zb→Prop} (hr:∀ ρ' H',Zi ρ' H' R→Zi ρ' H' R') (hk:∀ ρ' H',K ρ' H'→K' ρ' H') (h:ZP P KP it R ρ H K):ZP P KP it R' ρ H K':=by
 unfold ZP at *
 split at h
 ·exact zg0 (fun v H' hh=>⟨hr _ _ hh.1,hk _ _ hh.2⟩) h
 ·exact hk _ _ h
 ·exact h
def zd5 (g:Option (Nat×Bool)):List Nat :=
 match g with
 | none=>[]
 | some (s,_)=>[s]
def AItem.looks (it:AItem):List Nat:=zd5 it.guard++it.op.looks
theorem zey {ρ ρ':Env} {g:Option (Nat×Bool)} (h:∀ n∈zd5 g,ρ n=ρ' n):gv g ρ=gv g ρ':=by
 cases g with
 | none=>rfl
 | some p=>simp only[gv,h p.1 (by simp[zd5])]
theorem yK {ρ:Env} {d:Option Nat} {c:AV} {l:List Nat} (h:∀ x,d=some x→x ∉ l):∀ n∈l,(ρ.set d c) n=ρ n:=by
 intro n hn
 cases d with
 | none=>rfl
 | some x =>
  have:n≠x:=fun e=>h x rfl (e▸hn)
  simp[Env.set,this]
theorem zqW (ρ:Env) {d e:Option Nat} (c u:AV) (h:∀ x,d=some x→e≠some x):(ρ.set d c).set e u=(ρ.set e u).set d c:=by
 cases d with
 | none=>rfl
 | some x =>
  cases e with
  | none=>rfl
  | some y =>
   have hne:x≠y:=fun he=>h x rfl (he▸rfl)
   funext n
   simp only[Env.set]
   by_cases h1:n=y
   ·subst h1;simp[Ne.symm hne]
   ·by_cases h2:n=x
    ·subst h2;simp[hne]
    ·simp[h1,h2]
def zaR (c:Chk):List Nat:=c.1::zd5 c.2.1++c.2.2.looks
theorem zbQ {ρ ρ':Env} {H:zb}:∀ {R:List Chk},(∀ c∈R,∀ n∈zaR c,ρ n=ρ' n)→Zi ρ H R→Zi ρ' H R
 | [],_,_=>trivial
 | (d,g,o)::R,h,hr=>by
  have h0:=h (d,g,o) (Zr ..)
  simp only[zaR,List.mem_cons,List.mem_append] at h0
  refine⟨fun hg=>?_,zbQ (fun c hc=>h c (Zm _ hc)) hr.2⟩
  rw[← zey (fun n hn=>h0 n (.inl (.inr hn)))] at hg
  have:=hr.1 hg
  rw[zcd (fun n hn=>h0 n (.inr hn)),h0 d (.inl (.inl rfl))] at this
  exact this
def AItem.apart (x i : AItem) : Bool :=
  (match x.dst with
   | some d => !(i.looks).contains d && i.dst != some d
   | none => true) &&
  (match i.dst with
   | some d => !(x.looks).contains d
   | none => true)
theorem apart_spec {x i:AItem} (h:x.apart i=true):(∀ d,x.dst=some d→d ∉ i.looks)∧(∀ d,x.dst=some d→i.dst≠some d)∧(∀ d,i.dst=some d→d ∉ x.looks):=by
 refine⟨fun d hd=>?_,fun d hd=>?_,fun d hd=>?_⟩<;>simp[AItem.apart,hd] at h
 ·exact h.1.1
 ·exact h.1.2
 ·exact h.2
instance:BEq Cls:=⟨fun a b=>decide (a=b)⟩
def zcl (x i:AItem):Bool :=
 match x.op.cls,i.op.cls with
 | .pure,_=>true
 | .read,.pure|.read,.read|.read,.alloc=>true
 | .read,.eff=>true
 | .alloc,.alloc=>i.guard.isNone
 | .eff,.alloc=>i.guard.isNone&&(match i.op with|.alloc _|.mkm _=>true|_=>false)
 | _,_=>false
theorem ziq {ρ:Env} {H:zb} {b:Nat} {ob:AObj} {o:AOp} {v:AV} (hb:H b=none) (h:rev ρ H o=some v):rev ρ (H.upd b ob) o=some v:=by
 cases o<;>simp only[rev] at h ⊢<;>try (cases h;done)
 case ld n ag x =>
  cases hx:x.ev ρ<;>simp only[hx] at h ⊢<;>try (cases h;done)
  ·rename_i b' off
   have hne:b'≠b:=fun e=>by subst e;simp[hb] at h
   simp only[zb.upd,hne,if_false]
   exact h
  ·exact h
 case lkp kt zero ok m k =>
  split at h
  ·rename_i hf
   simp only[hf,if_true]
   cases hx:m.ev ρ<;>simp only[hx] at h ⊢<;>try (cases h;done)
   ·exact h
   ·rename_i b'
    have hne:b'≠b:=fun e=>by subst e;simp[hb] at h
    simp only[zb.upd,hne,if_false]
    exact h
  ·cases h
def zh9 (KP:AV→zb→Prop):Prop:=∀ v H b o,H b=none→KP v H→KP v (H.upd b o)
theorem YW (H:zb) {b c:Nat} (x y:AObj) (h:b≠c):(H.upd b x).upd c y=(H.upd c y).upd b x:=by
 funext n
 simp only[zb.upd]
 by_cases h1:n=c
 ·subst h1;simp[Ne.symm h]
 ·by_cases h2:n=b
  ·subst h2;simp[h]
  ·simp[h1,h2]
theorem zit (H:zb) (b:Nat) (o:AObj) (h:H b=none):zb.union H (zb.one b o)=H.upd b o:=by
 funext n
 simp only[zb.union,zb.one,zb.upd]
 by_cases h1:n=b
 ·subst h1;simp[h]
 ·simp[h1]
theorem zi.beside {P:Program} {f:FuncId} {args:List AV} {H:zb} {K KP:AV→zb→Prop} {b:Nat} {o:AObj} (hb:H b=none) (hKP:zh9 KP) (h:zi P f args H (ZU K KP)) :
  zi P f args (H.upd b o) (ZU (fun v H'=>∃ H0,H0 b=none∧H'=H0.upd b o∧K v H0) KP):=by
 have hd:zb.Disj H (zb.one b o):=fun c=>by
  by_cases hc:c=b
  ·subst hc;exact .inl hb
  ·exact .inr (by simp[zb.one,hc])
 rw[← zit H b o hb]
 refine(h.frame hd).mono fun r H' ⟨A',hq,hdis,he⟩=>?_
 have hA:A' b=none:=by
  rcases hdis b with h1|h1
  ·exact h1
  ·simp[zb.one] at h1
 rw[zit A' b o hA] at he
 subst he
 cases r with
 | ret v=>exact⟨A',hA,rfl,hq⟩
 | pan v=>exact hKP v A' b o hA hq
theorem zlf {sz bytes:Nat} {x y:AV} {H:zb} {K:AV→zb→Prop} {b:Nat} {o:AObj} (hb:H b=none) (h:zl1 sz bytes x y H K) :
  zl1 sz bytes x y (H.upd b o) (fun v H'=>∃ H0,H0 b=none∧H'=H0.upd b o∧K v H0):=by
 cases x<;>try (exact False.elim h)
 cases y<;>try (exact False.elim h)
 rename_i ow s1 xs o2 s2 ys
 obtain⟨h1,h2,h3,h4,h5⟩:=h
 refine⟨h1,h2,h3,h4,?_⟩
 have fresh:∀ b2,(H.upd b o) b2=none→b2≠b∧H b2=none:=fun b2 h2=>by
  have hne:b2≠b:=fun e=>by subst e;simp[zb.upd] at h2
  exact⟨hne,by simpa[zb.upd,hne] using h2⟩
 cases ow with
 | no=>exact h5
 | nil=>exact⟨fun e=>⟨H,hb,rfl,h5.1 e⟩,fun e b2 hb2=>by
   obtain⟨hne,hn⟩:=fresh b2 hb2
   exact⟨_,by simp[zb.upd,Ne.symm hne,hb],YW H _ _ (Ne.symm hne),h5.2 e b2 hn⟩⟩
 | full=>exact⟨fun e=>⟨H,hb,rfl,h5.1 e⟩,fun e b2 hb2=>by
   obtain⟨hne,hn⟩:=fresh b2 hb2
   exact⟨_,by simp[zb.upd,Ne.symm hne,hb],YW H _ _ (Ne.symm hne),h5.2 e b2 hn⟩⟩
 | tip b1 d =>
  obtain⟨h6,h7⟩:=h5
  have hne:b1≠b:=fun e=>by subst e;simp[hb] at h6
  refine⟨by simp[zb.upd,hne,h6],fun b2 d2 hb2=>?_⟩
  have hne2:b2≠b:=fun e=>by subst e;simp[zb.del,zb.upd,Ne.symm hne] at hb2
  have hn:(H.del b1) b2=none:=by
   unfold zb.del at hb2 ⊢
   split
   ·rfl
   ·rename_i hh;simpa[hh,zb.upd,hne2] using hb2
  refine⟨_,?_,?_,h7 b2 d2 hn⟩
  ·simp[zb.upd,zb.del,Ne.symm hne2,hb]
  ·rw[← YW _ _ _ (Ne.symm hne2)]
   congr 1
   funext n
   simp only[zb.del,zb.upd]
   by_cases e1:n=b1
   ·subst e1;simp[hne]
   ·simp[e1]
theorem zjN {S:AV→AV} {sz bytes:Nat} {zero:List AV} {x y:AV} {H:zb} {K:AV→zb→Prop} {b:Nat} {o:AObj} (hb:H b=none) (h:zhK S sz bytes zero x y H K) :
  zhK S sz bytes zero x y (H.upd b o) (fun v H'=>∃ H0,H0 b=none∧H'=H0.upd b o∧K v H0):=by
 have fresh:∀ b2,(H.upd b o) b2=none→b2≠b∧H b2=none:=fun b2 h2=>by
  have hne:b2≠b:=fun e=>by subst e;simp[zb.upd] at h2
  exact⟨hne,by simpa[zb.upd,hne] using h2⟩
 cases y<;>try (exact False.elim h)
 obtain⟨h1,h2,h3⟩:=h
 refine⟨h1,h2,?_⟩
 cases x<;>try (exact False.elim h3)
 ·rename_i o s1 xs
  cases o<;>try (exact False.elim h3)
  obtain⟨h4,h5,h6,h7,h8,h9⟩:=h3
  exact⟨h4,h5,h6,h7,fun e=>⟨H,hb,rfl,h8 e⟩,fun e b2 cap hb2 hc hm=>by
   obtain⟨hne,hn⟩:=fresh b2 hb2
   exact⟨_,by simp[zb.upd,Ne.symm hne,hb],YW H _ _ (Ne.symm hne),h9 e b2 cap hn hc hm⟩⟩
 ·rename_i b1 off len cap
  obtain⟨h4,h5,h6⟩:=h3
  refine⟨h4,h5,?_⟩
  have hne1:b1≠b:=fun e=>by subst e;simp[hb] at h6
  have e1:(H.upd b o) b1=H b1:=by simp[zb.upd,hne1]
  rw[e1]
  cases hb1:H b1 with
  | none=>simp[hb1] at h6
  | some ob =>
   cases ob<;>simp only[hb1] at h6 ⊢<;>try (exact False.elim h6)
   refine⟨fun e=>⟨(h6.1 e).1,_,?_,YW H _ _ (Ne.symm hne1),(h6.1 e).2⟩,fun e=>⟨(h6.2 e).1,fun b' cap' hb' hc hm=>?_⟩⟩
   ·simp[zb.upd,Ne.symm hne1,hb]
   ·obtain⟨hne,hn⟩:=fresh b' hb'
    exact⟨_,by simp[zb.upd,Ne.symm hne,hb],YW H _ _ (Ne.symm hne),(h6.2 e).2 b' cap' hn hc hm⟩
theorem zlW {P:Program} {KP:AV→zb→Prop} {ρ:Env} {H:zb} {K:AV→zb→Prop} {x:AOp} {b:Nat} {o:AObj} (hb:H b=none) (hKP:zh9 KP) (h:eff P KP ρ H K x) :
  eff P KP ρ (H.upd b o) (fun v H'=>∃ H0,H0 b=none∧H'=H0.upd b o∧K v H0) x:=by
 cases x<;>simp only[eff] at h ⊢<;>try (exact False.elim h)
 case st n x y =>
  cases hx:x.ev ρ<;>simp only[hx] at h ⊢<;>try (exact False.elim h)
  rename_i b1 off
  have hne:b1≠b:=fun e=>by subst e;simp[hb] at h
  have e1:(H.upd b o) b1=H b1:=by simp[zb.upd,hne]
  rw[e1]
  cases hb1:H b1 with
  | none=>simp[hb1] at h
  | some ob =>
   cases ob<;>simp only[hb1] at h ⊢<;>try (exact False.elim h)
   exact⟨h.1,h.2.1,h.2.2.1,_,by simp[zb.upd,Ne.symm hne,hb],YW H _ _ (Ne.symm hne),h.2.2.2⟩
 case mup kt m k v =>
  cases hx:m.ev ρ<;>simp only[hx] at h ⊢<;>try (exact False.elim h)
  rename_i b1
  have hne:b1≠b:=fun e=>by subst e;simp[hb] at h
  have e1:(H.upd b o) b1=H b1:=by simp[zb.upd,hne]
  rw[e1]
  cases hb1:H b1 with
  | none=>simp[hb1] at h
  | some ob =>
   cases ob<;>simp only[hb1] at h ⊢<;>try (exact False.elim h)
   exact⟨h.1,h.2.1,_,by simp[zb.upd,Ne.symm hne,hb],YW H _ _ (Ne.symm hne),h.2.2⟩
 case app sz by' x y=>exact zlf hb h
 case appm sz by' z x y=>exact zjN hb h
 case call f args=>exact zi.beside hb hKP h
 case callv g args =>
  cases hg:g.ev ρ<;>simp only[hg] at h ⊢<;>try (exact False.elim h)
  exact⟨h.1,zi.beside hb hKP h.2⟩
 case pan x =>
  cases hx:x.ev ρ<;>simp only[hx] at h ⊢<;>try (exact False.elim h)
  exact hKP _ _ _ _ hb h
theorem zkW {P:Program} {KP:AV→zb→Prop} {o:AOp} {ρ:Env} {H:zb} {K K':AV→zb→Prop} (hne:o.cls≠.eff)
  (hk:∀ v H',(H'=H∨∃ b ob,H b=none∧H'=H.upd b ob)→K v H'→K' v H') (h:aop P KP o ρ H K):aop P KP o ρ H K':=by
 unfold aop at *
 cases hc:o.cls<;>simp only[hc] at h ⊢
 ·cases hv:pev ρ o<;>simp only[hv] at h ⊢;· exact hk _ _ (.inl rfl) h
 ·cases hv:rev ρ H o<;>simp only[hv] at h ⊢;· exact hk _ _ (.inl rfl) h
 ·cases hv:oev ρ o<;>simp only[hv] at h ⊢
  ·exact h
  ·exact fun b hb=>hk _ _ (.inr ⟨b,_,hb,rfl⟩) (h b hb)
 ·exact absurd hc hne
theorem zdS {ρ:Env} {H:zb} {b:Nat} {ob:AObj} (hb:H b=none):∀ {R:List Chk},Zi ρ H R→Zi ρ (H.upd b ob) R
 | [],_=>trivial
 | (_,_,_)::_,hr=>⟨fun hg=>ziq hb (hr.1 hg),zdS hb hr.2⟩
def val (ρ:Env) (H:zb) (o:AOp):Option AV :=
 match o.cls with
 | .pure=>pev ρ o
 | .read=>rev ρ H o
 | _=>none
theorem znT {P:Program} {KP:AV→zb→Prop} {o:AOp} {ρ:Env} {H:zb} {K:AV→zb→Prop} (hc:o.cls=.pure∨o.cls=.read):aop P KP o ρ H K↔∃ v,val ρ H o=some v∧K v H:=by
 unfold aop val
 rcases hc with hc|hc<;>simp only[hc]
 ·cases pev ρ o<;>simp
 ·cases rev ρ H o<;>simp
def entry (x:AItem):List Chk :=
 match x.dst with
 | some d=>[(d,x.guard,x.op)]
 | none=>[]
def zat (x i:AItem):List Chk:=if x.op.cls=.read∧i.op.cls=.eff then entry x else []
theorem zc5 {ρ:Env} {H:zb}:∀ {A B:List Chk},Zi ρ H (A++B)→Zi ρ H B
 | [],_,h=>h
 | (_,_,_)::_,_,h=>zc5 h.2
theorem zcz.upd {H:zb} (h:zcz H) (b:Nat) (o:AObj):zcz (H.upd b o):=by
 obtain⟨n,h⟩:=h
 refine⟨n,fun c hc=>?_⟩
 unfold zb.upd
 split
 ·simp
 ·exact h c hc
theorem zcz.of_upd {H:zb} {b:Nat} {o:AObj} (h:zcz (H.upd b o)):zcz H:=by
 obtain⟨n,h⟩:=h
 refine⟨max n (b+1),fun c hc=>?_⟩
 have:=h c (by omega)
 have hne:c≠b:=by omega
 simpa[zb.upd,hne] using this
theorem swap {P:Program} {KP:AV→zb→Prop} (hKP:zh9 KP) {x i:AItem} {cx:List Chk} (hap:x.apart i=true) (hsw:zcl x i=true) (hself:x.op.cls=.read→∃ d,x.dst=some d∧d ∉ x.looks) (hchk:x.op.cls≠.eff→cx=[])
  (hchk2:∀ c∈cx,∀ d,i.dst=some d→d ∉ zaR c) {R:List Chk} (hR:∀ c∈R,∀ d,x.dst=some d→d ∉ zaR c) (hRe:i.op.cls≠.eff→R=[]) {ρ:Env} {H:zb} {K:Env→zb→Prop}
  (h:ZP P KP x cx ρ H (fun ρ1 H1=>ZP P KP i (zat x i++R) ρ1 H1 K)):ZP P KP i R ρ H (fun ρ2 H2=>ZP P KP x cx ρ2 H2 K):=by
 obtain⟨a1,a2,a3⟩:=apart_spec hap
 have a1g:∀ d,x.dst=some d→d ∉ zd5 i.guard:=fun d hd hm=>a1 d hd (ZZ _ hm)
 have a1o:∀ d,x.dst=some d→d ∉ i.op.looks:=fun d hd hm=>a1 d hd (List.mem_append_right _ hm)
 have a3g:∀ d,i.dst=some d→d ∉ zd5 x.guard:=fun d hd hm=>a3 d hd (ZZ _ hm)
 have a3o:∀ d,i.dst=some d→d ∉ x.op.looks:=fun d hd hm=>a3 d hd (List.mem_append_right _ hm)
 have gi:∀ c,gv i.guard (ρ.set x.dst c)=gv i.guard ρ:=fun c=>zey (yK a1g)
 have gx:∀ c,gv x.guard (ρ.set i.dst c)=gv x.guard ρ:=fun c=>zey (yK a3g)
 have comm:∀ c u,(ρ.set x.dst c).set i.dst u=(ρ.set i.dst u).set x.dst c:=fun c u=>zqW ρ c u a2
 have oi:∀ c H' (K':AV→zb→Prop),aop P KP i.op (ρ.set x.dst c) H' K'=aop P KP i.op ρ H' K':=fun c H' K'=>zo3 (yK a1o)
 have Rback:∀ c u H',Zi ((ρ.set x.dst c).set i.dst u) H' R→Zi (ρ.set i.dst u) H' R:=fun c u H' hr=>by
  rw[comm] at hr
  exact zbQ (fun e he n hn=>yK (fun d hd=>hR e he d hd) n hn) hr
 unfold ZP at h
 cases hg:gv x.guard ρ with
 | none=>simp[hg] at h
 | some b =>
  cases b with
  | false =>
   simp only[hg] at h
   unfold ZP
   rw[gi] at h
   cases hgi:gv i.guard ρ with
   | none=>simp[hgi] at h
   | some b =>
    cases b with
    | false =>
     simp only[hgi] at h ⊢
     rw[gx,hg]
     rw[comm] at h
     exact h
    | true =>
     simp only[hgi] at h ⊢
     rw[oi] at h
     refine zg0 (fun v H' hh=>⟨?_,?_⟩) h
     ·exact Rback (.tup []) v H' (zc5 hh.1)
     ·rw[gx,hg]
      rw[comm] at hh
      exact hh.2
  | true =>
   simp only[hg] at h
   by_cases hcls:x.op.cls=.pure∨x.op.cls=.read
   ·have hne:x.op.cls≠.eff:=by rcases hcls with e|e<;>rw[e]<;>simp
    have hnil:=hchk hne
    rw[hnil] at h
    rw[znT hcls] at h
    obtain⟨v,hv,_,h⟩:=h
    unfold ZP
    rw[gi] at h
    have hx:∀ u H',(x.op.cls=.read→rev ρ H' x.op=some v)→K ((ρ.set i.dst u).set x.dst v) H'→ZP P KP x cx (ρ.set i.dst u) H' K:=by
     intro u H' hr hk
     unfold ZP
     rw[gx,hg,hnil]
     simp only
     rw[znT hcls]
     refine⟨v,?_,trivial,hk⟩
     unfold val at hv ⊢
     rcases hcls with e|e<;>simp only[e] at hv ⊢
     ·rw[ziy (yK a3o)];exact hv
     ·rw[zcd (yK a3o)];exact hr e
    have hvr:x.op.cls=.read→rev ρ H x.op=some v:=fun e=>by simpa[val,e] using hv
    cases hgi:gv i.guard ρ with
    | none=>simp[hgi] at h
    | some b =>
     cases b with
     | false =>
      simp only[hgi] at h ⊢
      rw[comm] at h
      exact hx _ _ hvr h
     | true =>
      simp only[hgi] at h ⊢
      rw[oi] at h
      by_cases hie:i.op.cls=.eff
      ·refine zg0 (fun u H' hh=>?_) h
       rcases hcls with e|e
       ·have hn:zat x i=[]:=by simp[zat,e]
        rw[hn] at hh
        refine⟨Rback v u H' hh.1,hx u H' (fun e'=>by rw[e] at e';cases e') (by rw[← comm];exact hh.2)⟩
       ·obtain⟨d,hd,hds⟩:=hself e
        have hn:zat x i=[(d,x.guard,x.op)]:=by simp[zat,e,hie,entry,hd]
        rw[hn] at hh
        obtain⟨⟨h1,h2⟩,h3⟩:=hh
        refine⟨Rback v u H' h2,hx u H' (fun _=>?_) (by rw[← comm];exact h3)⟩
        have hgg:gv x.guard ((ρ.set x.dst v).set i.dst u)=some true:=by
         rw[← hg]
         rw[comm]
         rw[zey (yK (l:=zd5 x.guard) fun d' hd' hm=>by rw[hd] at hd';cases hd';exact hds (ZZ _ hm))]
         exact gx u
        have h4:=h1 hgg
        have e1:((ρ.set x.dst v).set i.dst u) d=v:=by
         rw[comm,hd];simp[Env.set]
        rw[e1] at h4
        rw[comm] at h4
        rw[zcd (yK (l:=x.op.looks) fun d' hd' hm=>by rw[hd] at hd';cases hd';exact hds (List.mem_append_right _ hm))] at h4
        rw[zcd (yK a3o)] at h4
        exact h4
      ·have hn:zat x i=[]:=by simp[zat,hie]
       rw[hn] at h
       refine zkW hie (fun u H' hH' hh=>⟨Rback v u H' hh.1,hx u H' (fun e=>?_) (by rw[← comm];exact hh.2)⟩) h
       rcases hH' with rfl|⟨b,ob,hb,rfl⟩
       ·exact hvr e
       ·exact ziq hb (hvr e)
   ·by_cases hal:x.op.cls=.alloc
    ·-- two new objects
     have hia:i.op.cls=.alloc:=by
      unfold zcl at hsw
      cases hc2:i.op.cls<;>simp_all
     have hgn:i.guard=none:=by
      unfold zcl at hsw
      simp only[hal,hia] at hsw
      simpa using hsw
     have hxe:x.op.cls≠.eff:=by rw[hal];simp
     have hie:i.op.cls≠.eff:=by rw[hia];simp
     have hnil:=hchk hxe
     subst hnil
     have hRn:=hRe hie
     subst hRn
     have hn:zat x i=[]:=by simp[zat,hie]
     have gvn:∀ ρ',gv i.guard ρ'=some true:=fun ρ'=>by rw[hgn];rfl
     unfold ZP
     simp only[gvn]
     simp only[hn,List.append_nil,ZP,gvn] at h
     unfold aop at h
     simp only[hal,hia] at h
     have hxo:∀ u,oev (ρ.set i.dst u) x.op=oev ρ x.op:=fun u=>zdE (yK a3o)
     have hio:∀ u,oev (ρ.set x.dst u) i.op=oev ρ i.op:=fun u=>zdE (yK a1o)
     have hxp:∀ u b,yJ (ρ.set i.dst u) b x.op=yJ ρ b x.op:=fun u b=>zcB (yK a3o)
     have hip:∀ u b,yJ (ρ.set x.dst u) b i.op=yJ ρ b i.op:=fun u b=>zcB (yK a1o)
     simp only[hio,hip] at h
     unfold aop
     simp only[hal,hia,gx,hg,hxo,hxp]
     cases hox:oev ρ x.op with
     | none =>
      simp only[hox] at h ⊢
      cases hoi:oev ρ i.op with
      | none=>exact h
      | some oi'=>exact fun b hb=>⟨trivial,h.upd _ _⟩
     | some ox =>
      simp only[hox] at h ⊢
      cases hoi:oev ρ i.op with
      | none =>
       simp only[hoi] at h ⊢
       by_cases hf:∃ b,H b=none
       ·obtain⟨b,hb⟩:=hf
        exact(h b hb).2.of_upd
       ·exact⟨0,fun b _ hb=>hf ⟨b,hb⟩⟩
      | some oi' =>
       simp only[hoi] at h ⊢
       intro bi hbi
       refine⟨trivial,fun bx hbx=>⟨trivial,?_⟩⟩
       have hne:bx≠bi:=fun e=>by subst e;simp[zb.upd] at hbx
       have hbx':H bx=none:=by simpa[zb.upd,hne] using hbx
       have h2:=((h bx hbx').2 bi (by simp[zb.upd,Ne.symm hne,hbi])).2
       rw[comm,YW H _ _ hne] at h2
       exact h2
    have hxe:x.op.cls=.eff∧i.op.cls=.alloc:=by
     unfold zcl at hsw
     cases hc1:x.op.cls<;>cases hc2:i.op.cls<;>simp_all
    obtain⟨hxe,hia⟩:=hxe
    have hn:zat x i=[]:=by simp[zat,hxe]
    have hie:i.op.cls≠.eff:=by rw[hia];simp
    have hRn:=hRe hie
    subst hRn
    have hgn:i.guard=none:=by
     unfold zcl at hsw
     simp only[hxe,hia,Al0] at hsw
     simpa using hsw.1
    have hsome:∃ ob,oev ρ i.op=some ob:=by
     unfold zcl at hsw
     simp only[hxe,hia,Al0] at hsw
     have h2:=hsw.2
     cases hio:i.op<;>simp only[hio] at h2<;>first|(cases h2;done)|exact⟨_,rfl⟩
    obtain⟨ob,hob⟩:=hsome
    have gvn:∀ ρ',gv i.guard ρ'=some true:=fun ρ'=>by rw[hgn];rfl
    unfold ZP
    simp only[gvn,hn,zcU] at h ⊢
    unfold aop at h
    simp only[hxe,hia] at h
    unfold aop
    simp only[hia,hob]
    intro b hb
    refine⟨trivial,?_⟩
    rw[gx,hg]
    simp only[hxe]
    have h1:=zlW (o:=ob) hb hKP h
    rw[ziX (ρ:=ρ.set i.dst (yJ ρ b i.op)) (yK a3o)]
    refine zke (fun v H' hh=>?_) h1
    obtain⟨H0,hH0,rfl,hr,hk⟩:=hh
    have hob':oev (ρ.set x.dst v) i.op=some ob:=by rw[zdE (yK a1o)];exact hob
    simp only[hob'] at hk
    have hk2:=(hk b hH0).2
    rw[zcB (ρ:=ρ.set x.dst v) (ρ':=ρ) (yK a1o)] at hk2
    rw[← comm]
    exact⟨zbQ (fun c hc n hn=>(yK (fun d hd=>hchk2 c hc d hd) n hn).symm) (zdS hH0 hr),hk2⟩
structure Fx where
 N:Nat
 lo:Nat
 T:Array Value
 D:List Deferred
 rf:Bool:=false
 keep:List (Nat×Obj):=[]
 base:Nat:=0
def Fx.plain (N:Nat):Fx:=⟨N,0,#[],[],false,[],0⟩
def Fx.marks (N base:Nat):Fx:=⟨N,0,#[],[],true,[],base⟩
def zwr (b:Nat):Deferred:=⟨.collected b,#[]⟩
structure DfOk (F:Fx) (w:World) (H:zb) (ds:List Deferred):Prop where
 eq:∃ bs:List Nat,ds=bs.map zwr++F.D∧bs.Nodup∧(F.rf=false→bs=[])∧∀ b∈bs,F.base≤b∧H b=none∧w.heap[b]?=some (.deferred (some []))
 keep:∀ x∈F.keep,H x.1=none∧w.heap[x.1]?=some x.2
theorem zi4 {γ γ':Gh} {w w':World} {H H':zb} (hext:Ext (keysOf H) γ w γ' w') (hk:yw H w H') {b:Nat} {o:Obj} (h:H b=none∧w.heap[b]?=some o):H' b=none∧w'.heap[b]?=some o:=by
 have hlt:=(zck.1 h.2).1
 refine⟨?_,(hext.frame b hlt (by simp[keysOf,h.1])).2.trans h.2⟩
 cases hb:H' b with
 | none=>rfl
 | some x =>
  rcases hk b (by simp[hb]) with h1|h1
  ·simp[h.1] at h1
  ·omega
theorem DfOk.step {F:Fx} {γ γ':Gh} {w w':World} {H H':zb} {ds:List Deferred} (h:DfOk F w H ds) (hext:Ext (keysOf H) γ w γ' w') (hk:yw H w H'):DfOk F w' H' ds :=
 ⟨let ⟨bs,h1,h2,h3,h4⟩:=h.eq;⟨bs,h1,h2,h3,fun b hb=>⟨(h4 b hb).1,zi4 hext hk (h4 b hb).2⟩⟩,fun x hx=>zi4 hext hk (h.keep x hx)⟩
theorem DfOk.plain {F:Fx} {w:World} {H:zb} {ds:List Deferred} (h:DfOk F w H ds) (hf:F.rf=false):ds=F.D:=by
 obtain⟨bs,h1,_,h3,_⟩:=h.eq
 rw[h1,h3 hf];rfl
theorem DfOk.init {F:Fx} {w:World} {H:zb} (hk:F.keep=[]):DfOk F w H F.D :=
 ⟨⟨[],rfl,List.nodup_nil,fun _=>rfl,fun b hb=>by cases hb⟩,fun x hx=>by rw[hk] at hx;cases hx⟩
structure SInv (γ0:Gh) (w0:World) (H0:zb) (F:Fx) (γ:Gh) (w:World) (H:zb) (ρ:Env) (a:Act):Prop where
 ext:Ext (keysOf H0) γ0 w0 γ w
 st:zr γ w H
 keys:yw H0 w0 H
 env:EnvRel γ w ρ a.tmps
 sz:a.tmps.size=F.N
 fx:∀ n,n<F.lo→a.tmps.getD n undef=F.T.getD n undef
 df:DfOk F w H a.defers
def zbJ (N lo : Nat) (ops : Array Oper) (P : Program) (o : Oper) (it : AItem) : Bool :=
  decide (o.dst = it.dst) && (match it.dst with | some d => decide (lo ≤ d) && decide (d < N) | none => true) &&
  (match o.guard, it.guard with
   | none, none => true
   | some (j, want), some (s, want') => decide (want = want') && decide ((ops[j]?).bind (·.dst) = some s)
   | _, _ => false) && yV P o it.op
theorem zoD {γ:Gh} {w:World} {ρ:Env} {a:Act} {ops:Array Oper} {o:Oper} {it:AItem} (he:EnvRel γ w ρ a.tmps)
  (hg:(match o.guard,it.guard with
   | none,none=>true
   | some (j,want),some (s,want')=>decide (want=want')&&decide ((ops[j]?).bind (·.dst)=some s)
   | _,_=>false)=true) {b:Bool} (h:gv it.guard ρ=some b):Region.wanted o (yielded ops a.tmps)=b:=by
 cases hog:o.guard with
 | none =>
  cases hig:it.guard with
  | some p=>simp[hog,hig] at hg
  | none=>rw[hig] at h;simp only[gv,Al1] at h;subst h;simp[Region.wanted,hog]
 | some jw =>
  obtain⟨j,want⟩:=jw
  cases hig:it.guard with
  | none=>simp[hog,hig] at hg
  | some p =>
   obtain⟨s,want'⟩:=p
   simp only[hog,hig,Al0,yH] at hg
   obtain⟨rfl,hd⟩:=hg
   rw[hig] at h
   simp only[gv] at h
   have hr:=he.rep s
   have hy:∀ v,a.tmps.getD s undef=v→v≠undef→a.tmps[s]?=some v:=by
    intro v hv hne
    cases hs:a.tmps[s]? with
    | none=>simp[zjs,hs] at hv;exact absurd hv.symm hne
    | some u=>simp[zjs,hs] at hv;rw[hv]
   cases hρ:ρ s<;>simp only[hρ] at h hr<;>try (cases h;done)
   ·rename_i b'
    simp only[Al1] at h
    subst h
    generalize hv:a.tmps.getD s undef=v at hr
    cases hr
    have:=hy _ hv (by simp[undef])
    simp[Region.wanted,hog,yielded,hd,this]
   ·rename_i vs
    cases vs with
    | cons c r=>simp at h
    | nil =>
     simp only[Al1] at h
     subst h
     generalize hv:a.tmps.getD s undef=v at hr
     cases hr with
     | tup _ us hl _ =>
      cases us with
      | cons u r=>simp at hl
      | nil =>
       have:yielded ops a.tmps j=none:=by
        unfold yielded
        rw[hd]
        simp only[Option.bind_some]
        cases hs:a.tmps[s]? with
        | none=>rfl
        | some u=>simp[zjs,hs] at hv;rw[hv]
       simp[Region.wanted,hog,this]
theorem zs6 {γ:Gh} {w:World} {ρ:Env} {tmps:Array Value} {N:Nat} (he:EnvRel γ w ρ tmps) (hs:tmps.size=N) {d:Option Nat} (hd:∀ x,d=some x→x<N) {c:AV} {v:Value} (hr:Rep γ w c v) (a:Act) (ha:a.tmps=tmps) :
  EnvRel γ w (ρ.set d c) (a.put d v).tmps:=by
 cases d with
 | none=>subst ha;exact he
 | some x =>
  subst ha
  refine⟨he.tab,fun n=>?_⟩
  simp only[Env.set,Act.put]
  have hx:=hd x rfl
  by_cases hn:n=x
  ·subst hn
   simp only[if_true]
   have:(a.tmps.setIfInBounds n v).getD n undef=v:=by
    simp[zjs,hs,hx]
   rw[this];exact hr
  ·simp only[hn,if_false]
   have:(a.tmps.setIfInBounds x v).getD n undef=a.tmps.getD n undef:=by
    simp only[zjs,Array.getElem?_setIfInBounds_ne (Ne.symm hn)]
   rw[this];exact he.rep n
theorem zp5 (a:Act) (d:Option Nat) (v:Value):(a.put d v).tmps.size=a.tmps.size:=by cases d<;>simp[Act.put]
theorem zu8 {F:Fx} {a:Act} (h:∀ n,n<F.lo→a.tmps.getD n undef=F.T.getD n undef) {d:Option Nat} (hd:∀ x,d=some x→F.lo≤x∧x<F.N) (v:Value):∀ n,n<F.lo→(a.put d v).tmps.getD n undef=F.T.getD n undef:=by
 intro n hn
 cases d with
 | none=>exact h n hn
 | some x =>
  have hx:=(hd x rfl).1
  have:(a.tmps.setIfInBounds x v).getD n undef=a.tmps.getD n undef:=by
   simp only[zjs,Array.getElem?_setIfInBounds_ne (show x≠n by omega)]
  simp only[Act.put]
  rw[this];exact h n hn
theorem put_defers (a:Act) (d:Option Nat) (v:Value):(a.put d v).defers=a.defers:=by cases d<;>rfl
theorem zdY {H0 H H':zb} {w0 w:World} (h:yw H0 w0 H) (hs:w0.heap.size≤w.heap.size) (h':yw H w H'):yw H0 w0 H':=fun b hb=>by
 rcases h' b hb with h1|h1
 ·exact h b h1
 ·exact .inr (by omega)
theorem SInv.step {γ0:Gh} {w0:World} {H0:zb} {F:Fx} {γ γ':Gh} {w w':World} {H H':zb} {ρ:Env} {a:Act} (h:SInv γ0 w0 H0 F γ w H ρ a) (hext:Ext (keysOf H) γ w γ' w') (hst:zr γ' w' H') (hk:yw H w H')
  {d:Option Nat} (hd:∀ x,d=some x→F.lo≤x∧x<F.N) {c:AV} {v:Value} (hr:Rep γ' w' c v):SInv γ0 w0 H0 F γ' w' H' (ρ.set d c) (a.put d v) :=
 ⟨h.ext.trans hext (fun b hb hb'=>by
   rcases h.keys b hb' with h1|h1
   ·exact h1
   ·omega),hst,zdY h.keys h.ext.mono.size hk,zs6 (h.env.mono hext.mono) h.sz (fun x hx=>(hd x hx).2) hr a rfl,by rw[zp5];exact h.sz,zu8 h.fx hd v,by rw[put_defers];exact h.df.step hext hk⟩
def zdX (γ0:Gh) (w0:World) (H0:zb) (F:Fx) (KP:AV→zb→Prop) (ch:List PanicEntry) (a:Act) (w:World):Prop :=
 ∃ γ H c v,ch=[{ v,recovered:=false }]∧Ext (keysOf H0) γ0 w0 γ w∧zr γ w H∧yw H0 w0 H∧Rep γ w c v∧KP c H∧za9 γ w∧a.tmps.size=F.N∧(∀ n,n<F.lo→a.tmps.getD n undef=F.T.getD n undef)∧DfOk F w H a.defers
theorem zhQ {P:Program} {γ0:Gh} {w0:World} {H0:zb} {F:Fx} {KP:AV→zb→Prop} {ops:Array Oper} {i:Nat} {o:Oper} {it:AItem} {R:List Chk} {K:Env→zb→Prop} {next:Act→World→Prop} {Q:Exit→Act→World→Prop}
  (hQ:∀ ch a w,zdX γ0 w0 H0 F KP ch a w→Q (.panic ch) a w) (hi:ops[i]?=some o) (hc:zbJ F.N F.lo ops P o it=true) {γ:Gh} {w:World} {H:zb} {ρ:Env} {a:Act} (h:SInv γ0 w0 H0 F γ w H ρ a) (hs:ZP P KP it R ρ H K)
  (hn:∀ γ' w' H' ρ' a',SInv γ0 w0 H0 F γ' w' H' ρ' a'→K ρ' H'→next a' w'):wpOp P ops Q i next a w:=by
 simp only[zbJ,Al0,yH] at hc
 obtain⟨⟨⟨hd,hb⟩,hg⟩,hop⟩:=hc
 have hdN:∀ x,it.dst=some x→F.lo≤x∧x<F.N:=fun x hx=>by rw[hx] at hb;simpa using hb
 unfold wpOp
 simp only[hi]
 unfold ZP at hs
 cases hgv:gv it.guard ρ with
 | none=>simp[hgv] at hs
 | some b =>
  have hw:=zoD (ops:=ops) (o:=o) h.env hg hgv
  rw[hw]
  cases b with
  | false =>
   simp only[hgv] at hs
   simp only[Al7,if_false]
   rw[hd]
   exact hn _ _ _ _ _ (h.step (.refl _ _ _) h.st (yw.refl _ _) hdN (.tup [] [] rfl (by simp))) hs
  | true =>
   simp only[hgv] at hs
   simp only[if_true]
   refine .inl (zlh hop γ w H ρ a _ KP next Q h.env h.st hs (fun γ' w' H' c v hext hst hk hr hK=>?_) (fun γ' w' H' c v hext hst hk hr hK=>hQ _ _ _ ⟨γ',H',c,v,rfl,?_,hst,zdY h.keys h.ext.mono.size hk,hr,hK,h.env.tab.mono hext.mono,h.sz,h.fx,h.df.step hext hk⟩))
   ·rw[hd]
    exact hn _ _ _ _ _ (h.step hext hst hk hdN hr) hK.2
   ·exact h.ext.trans hext (fun b hb hb'=>by
     rcases h.keys b hb' with h1|h1
     ·exact h1
     ·omega)
theorem zf8 {P:Program} {γ0:Gh} {w0:World} {H0:zb} {F:Fx} {KP:AV→zb→Prop} {ops:Array Oper} {Q:Exit→Act→World→Prop} {K:Env→zb→Prop}
  (hQ:∀ ch a w,zdX γ0 w0 H0 F KP ch a w→Q (.panic ch) a w) (hK:∀ γ w H ρ a,SInv γ0 w0 H0 F γ w H ρ a→K ρ H→Q .normal a w) :
  ∀(l:List Nat) (its:List (AItem×List Chk)),l.length=its.length→(∀(k i:Nat) (it:AItem×List Chk),l[k]?=some i→its[k]?=some it→∃ o,ops[i]?=some o∧zbJ F.N F.lo ops P o it.1=true) →
  ∀(γ:Gh) (w:World) (H:zb) (ρ:Env) (a:Act),SInv γ0 w0 H0 F γ w H ρ a→y0 P KP its ρ H K→wpOps P ops Q l a w
 | [],[],_,_,γ,w,H,ρ,a,h,hs=>hK γ w H ρ a h hs
 | [],_::_,hl,_,_,_,_,_,_,_,_=>by simp at hl
 | _::_,[],hl,_,_,_,_,_,_,_,_=>by simp at hl
 | i::l,it::its,hl,hc,γ,w,H,ρ,a,h,hs=>by
  rw[wpOps_cons]
  obtain⟨o,ho,hco⟩:=hc 0 i it rfl rfl
  unfold y0 at hs
  exact zhQ hQ ho hco h hs fun γ' w' H' ρ' a' h' hs'=>zf8 hQ hK l its (by simpa using hl) (fun k i it hk hit=>hc (k+1) i it (by simpa using hk) (by simpa using hit)) γ' w' H' ρ' a' h' hs'
def zaN (x i:AItem×List Chk):Bool :=
 x.1.apart i.1&&zcl x.1 i.1&&(x.1.op.cls != .read||(match x.1.dst with|some d=>!x.1.looks.contains d|none=>false))&&(x.1.op.cls==.eff||x.2.isEmpty) &&
 (match i.1.dst with|some d=>x.2.all fun c=>!(zaR c).contains d|none=>true)&&(i.1.op.cls==.eff||i.2.isEmpty)
def zmc (x i:AItem×List Chk):Prop:=∀ c∈zat x.1 i.1,c∈i.2
theorem zkt {ρ:Env} {H:zb} {A:List Chk} (h:Zi ρ H A):∀ {B:List Chk},(∀ c∈B,c∈A)→Zi ρ H B:=by
 have mem:∀ {A:List Chk},Zi ρ H A→∀ c∈A,(gv c.2.1 ρ=some true→rev ρ H c.2.2=some (ρ c.1)):=by
  intro A
  induction A with
  | nil=>intro _ c hc;cases hc
  | cons x A ih =>
   obtain⟨d,g,o⟩:=x
   intro h c hc
   rcases List.mem_cons.1 hc with e|e
   ·subst e;exact h.1
   ·exact ih h.2 c e
 intro B
 induction B with
 | nil=>intro _;trivial
 | cons x B ih =>
  obtain⟨d,g,o⟩:=x
  intro hB
  exact⟨mem h (d,g,o) (hB _ (Zr ..)),ih fun c hc=>hB c (Zm _ hc)⟩
theorem zly {x y:AItem} (h:x.apart y=true∨True):∀ c∈entry x,∀ n∈zaR c,x.dst=some n∨n∈x.looks:=by
 intro c hc n hn
 unfold entry at hc
 split at hc
 ·rename_i d hd
  simp only[List.mem_singleton] at hc
  subst hc
  simp only[zaR,List.mem_cons,List.mem_append] at hn
  rcases hn with (rfl|hn)|hn
  ·exact .inl hd
  ·exact .inr (ZZ _ hn)
  ·exact .inr (List.mem_append_right _ hn)
 ·cases hc
theorem front {P:Program} {KP:AV→zb→Prop} (hKP:zh9 KP) (i:AItem×List Chk) {K:Env→zb→Prop} {q:List (AItem×List Chk)}:∀(p:List (AItem×List Chk)),
  (∀ x∈p,zaN x i=true∧zmc x i)→(∀(k l:Nat) (x y:AItem×List Chk),k<l→p[k]?=some x→p[l]?=some y→zat x.1 i.1≠[]→∀ d,y.1.dst=some d→x.1.dst≠some d∧d ∉ x.1.looks) →
  ∀(R:List Chk),(∀ c∈R,c∈i.2)→(∀ c∈R,∀ x∈p,∀ d,x.1.dst=some d→d ∉ zaR c)→∀(ρ:Env) (H:zb),
  y0 P KP (p++i::q) ρ H K→ZP P KP i.1 R ρ H (fun ρ' H'=>y0 P KP (p++q) ρ' H' K)
 | [],_,_,R,hRi,_,ρ,H,h=>by
  simp only[zcU] at h ⊢
  unfold y0 at h
  exact zdc (fun _ _ hr=>zkt hr hRi) (fun _ _ h=>h) h
 | x::p,hp,hw,R,hRi,hRp,ρ,H,h=>by
  obtain⟨hx,hnx⟩:=hp x (Zr ..)
  simp only[zaN,Al0,zc6] at hx
  obtain⟨⟨⟨⟨⟨hap,hsw⟩,hself⟩,hchk⟩,hchk2⟩,hie⟩:=hx
  simp only[Al6] at h ⊢
  unfold y0 at h
  have ih:=fun(ρ:Env) (H:zb) (h':y0 P KP (p++i::q) ρ H K)=>front (P:=P) hKP i (K:=K) (q:=q) p (fun y hy=>hp y (Zm _ hy)) (fun k l y z hkl hk hl=>hw (k+1) (l+1) y z (by omega) (by simpa using hk) (by simpa using hl)) (zat x.1 i.1++R)
   (fun c hc=>by
    rcases List.mem_append.1 hc with h1|h1
    ·exact hnx c h1
    ·exact hRi c h1)
   (fun c hc y hy d hd=>by
    rcases List.mem_append.1 hc with h1|h1
    ·have hcls:zat x.1 i.1≠[]:=List.ne_nil_of_mem h1
     have h2:c∈entry x.1:=by
      unfold zat at h1
      split at h1
      ·exact h1
      ·cases h1
     obtain⟨l,hl⟩:=List.mem_iff_getElem?.1 hy
     obtain⟨n1,n2⟩:=hw 0 (l+1) x y (by omega) rfl (by simpa using hl) hcls d hd
     intro hn
     rcases zly (y:=x.1) (.inr trivial) c h2 d hn with h3|h3
     ·exact n1 h3
     ·exact n2 h3
    ·exact hRp c h1 y (Zm _ hy) d hd) ρ H h'
  have h1:=zdc (P:=P) (KP:=KP) (fun _ _ hr=>hr) (fun ρ' H' h'=>ih ρ' H' h') h
  have h2:=swap hKP (x:=x.1) (i:=i.1) (cx:=x.2) hap hsw (fun e=>by
    rcases hself with h|h
    ·rw[e] at h;simp[bne,BEq.beq] at h
    ·split at h
     ·rename_i d hd;exact⟨d,hd,by simpa using h⟩
     ·cases h)
   (fun e=>by
    rcases hchk with h|h
    ·exact absurd (of_decide_eq_true h) e
    ·simpa using h)
   (fun c hc d hd=>by rw[hd] at hchk2;have:=YV.1 hchk2 c hc;simpa using this)
   (R:=R) (fun c hc d hd=>hRp c hc x (Zr ..) d hd)
   (fun e=>by
    rcases hie with h|h
    ·exact absurd (of_decide_eq_true h) e
    ·have:i.2=[]:=by simpa using h
     cases R with
     | nil=>rfl
     | cons c r=>have:=hRi c (Zr ..);simp_all) h1
  exact zdc (fun _ _ hr=>hr) (fun ρ' H' h'=>by unfold y0;exact h') h2
abbrev Yo:=Nat×AItem×List Chk
def zpk (ops:Array Oper) (pre:Nat→List Nat) (r:List Yo) (x:Yo):Prop :=
 (∀ i∈r,x.1∈pre i.1∨(zaN x.2 i.2=true∧zmc x.2 i.2∧(zat x.2.1 i.2.1≠[]→∀ y∈r,∀ d,y.2.1.dst=some d→x.2.1.dst≠some d∧d ∉ x.2.1.looks))) ∧
 (∀ o,ops[x.1]?=some o→∀ e∈o.after,Region.binds .any e=true→e.on<ops.size∧e.on≠x.1∧∀ y∈r,y.1≠e.on)∧(∀ y∈r,y.1≠x.1)
def POK (ops:Array Oper) (pre:Nat→List Nat):List Yo→Prop
 | []=>True
 | x::r=>zpk ops pre r x∧POK ops pre r
theorem POK.drop {ops:Array Oper} {pre:Nat→List Nat} {i:Yo} {q:List Yo}:∀ {p:List Yo},POK ops pre (p++i::q)→POK ops pre (p++q)
 | [],h=>h.2
 | x::p,h=>by
  obtain⟨⟨h1,h2,h3⟩,h4⟩:=h
  have sub:∀ y∈p++q,y∈p++i::q:=fun y hy=>by
   rcases List.mem_append.1 hy with h|h
   ·exact ZZ _ h
   ·exact List.mem_append_right _ (Zm _ h)
  refine⟨⟨fun j hj=>?_,fun o ho e he hbe=>?_,fun y hy=>h3 y (sub y hy)⟩,POK.drop h4⟩
  ·rcases h1 j (sub j hj) with h|⟨ha,hb,hc⟩
   ·exact .inl h
   ·exact .inr ⟨ha,hb,fun hn y hy=>hc hn y (sub y hy)⟩
  ·obtain⟨ha,hne,hb⟩:=h2 o ho e he hbe
   exact⟨ha,hne,fun y hy=>hb y (sub y hy)⟩
theorem POK.before {ops:Array Oper} {pre:Nat→List Nat} {i:Yo} {q:List Yo}:∀ {p:List Yo},POK ops pre (p++i::q)→(∀ x∈p,x.1 ∉ pre i.1) →
  (∀ x∈p.map (·.2),zaN x i.2=true∧zmc x i.2) ∧
  (∀(k l:Nat) (x y:AItem×List Chk),k<l→(p.map (·.2))[k]?=some x→(p.map (·.2))[l]?=some y→zat x.1 i.2.1≠[]→∀ d,y.1.dst=some d→x.1.dst≠some d∧d ∉ x.1.looks)
 | [],_,_=>⟨by simp,by simp⟩
 | x::p,h,hn=>by
  obtain⟨⟨h1,_,_⟩,h4⟩:=h
  obtain⟨ih1,ih2⟩:=POK.before h4 (fun y hy=>hn y (Zm _ hy))
  have hx:=(h1 i (by simp)).resolve_left (hn x (Zr ..))
  refine⟨fun y hy=>?_,fun k l y z hkl hk hl hne d hd=>?_⟩
  ·simp only[List.map_cons,List.mem_cons] at hy
   rcases hy with rfl|hy
   ·exact⟨hx.1,hx.2.1⟩
   ·exact ih1 y hy
  ·cases l with
   | zero=>omega
   | succ l =>
    simp only[List.map_cons,List.getElem?_cons_succ] at hl
    cases k with
    | zero =>
     simp only[List.map_cons,List.getElem?_cons_zero,Al1] at hk
     subst hk
     rw[YH] at hl
     cases hz:p[l]? with
     | none=>simp[hz] at hl
     | some z' =>
      simp only[hz,zak,Al1] at hl
      subst hl
      exact hx.2.2 hne z' (ZZ _ (List.mem_of_getElem? hz)) d hd
    | succ k =>
     simp only[List.map_cons,List.getElem?_cons_succ] at hk
     exact ih2 k l y z (by omega) hk hl hne d hd
theorem POK.fresh {ops:Array Oper} {pre:Nat→List Nat} {i:Yo} {q:List Yo}:∀ {p:List Yo},POK ops pre (p++i::q)→∀ y∈p++q,y.1≠i.1
 | [],h,y,hy=>h.1.2.2 y hy
 | x::p,h,y,hy=>by
  simp only[Al6,List.mem_cons] at hy
  rcases hy with rfl|hy
  ·exact fun e=>h.1.2.2 i (by simp) e.symm
  ·exact POK.fresh h.2 y hy
theorem zph {P:Program} {γ0:Gh} {w0:World} {H0:zb} {F:Fx} {KP:AV→zb→Prop} (hKP:zh9 KP) {ops:Array Oper} {pre:Nat→List Nat} {Q:Exit→Act→World→Prop} {K:Env→zb→Prop}
  (hQ:∀ ch a w,zdX γ0 w0 H0 F KP ch a w→Q (.panic ch) a w) (hK:∀ γ w H ρ a,SInv γ0 w0 H0 F γ w H ρ a→K ρ H→Q .normal a w)
  (hpre:∀(i:Nat) (o:Oper),ops[i]?=some o→∀ k∈pre i,∃ e∈o.after,Region.binds .any e=true∧(e.on=k∨k∈pre e.on)) :
  ∀(fuel:Nat) (r:List Yo) (listed:Array Bool) (γ:Gh) (w:World) (H:zb) (ρ:Env) (a:Act),listed.size=ops.size→r.length≤fuel→POK ops pre r→(∀ x∈r,∃ o,ops[x.1]?=some o∧zbJ F.N F.lo ops P o x.2.1=true) →
   (∀ i,i<ops.size→(listed.getD i true=false↔∃ x∈r,x.1=i))→(∀ j,listed.getD j false=true→∀ k∈pre j,listed.getD k false=true) →
   SInv γ0 w0 H0 F γ w H ρ a→y0 P KP (r.map (·.2)) ρ H K→wpAny P .any ops Q fuel listed a w:=by
 have firstReady:∀(x:Yo) (r:List Yo) (listed:Array Bool),listed.size=ops.size→POK ops pre (x::r)→(∃ o,ops[x.1]?=some o∧zbJ F.N F.lo ops P o x.2.1=true) →
   (∀ i,i<ops.size→(listed.getD i true=false↔∃ y∈x::r,y.1=i))→x.1∈Region.ready .any ops listed:=by
  intro x r listed hsz hpok ⟨o,ho,_⟩ hl
  rw[mem_ready]
  have hx:x.1<ops.size:=(zck.1 ho).1
  refine⟨(hl x.1 hx).2 ⟨x,Zr ..,rfl⟩,o,ho,fun e he hbe=>?_⟩
  obtain⟨h1,hne,h2⟩:=hpok.1.2.1 o ho e he hbe
  have h3:¬ (listed.getD e.on true=false):=by
   rw[hl e.on h1]
   rintro⟨y,hy,hye⟩
   rcases List.mem_cons.1 hy with rfl|hy
   ·exact hne hye.symm
   ·exact h2 y hy hye
  have h4:e.on<listed.size:=by omega
  simp only[zjs,Array.getElem?_eq_getElem h4,Option.getD_some] at h3 ⊢
  cases hh:listed[e.on]<;>simp_all
 have clash:∀(listed:Array Bool) (j:Nat),listed.getD j true=false→listed.getD j false=true→False:=by
  intro listed j h1 h2
  simp only[zjs] at h1 h2
  cases hj:listed[j]?<;>simp_all
 intro fuel
 induction fuel with
 | zero =>
  intro r listed γ w H ρ a hsz hlen hpok hc hl hdc hinv hs
  have hr:r=[]:=List.eq_nil_of_length_eq_zero (by omega)
  subst hr
  refine⟨?_,hK γ w H ρ a hinv hs⟩
  cases hrd:Region.ready .any ops listed with
  | nil=>rfl
  | cons j js =>
   have hj:j∈Region.ready .any ops listed:=by rw[hrd];exact Zr ..
   obtain⟨h1,o,ho,_⟩:=mem_ready.1 hj
   obtain⟨x,hx,_⟩:=(hl j (zck.1 ho).1).1 h1
   cases hx
 | succ fuel ih =>
  intro r listed γ w H ρ a hsz hlen hpok hc hl hdc hinv hs
  refine⟨fun hrd=>?_,fun i hi=>?_⟩
  ·cases r with
   | nil=>exact hK γ w H ρ a hinv hs
   | cons x r =>
    have:=firstReady x r listed hsz hpok (hc x (Zr ..)) hl
    rw[hrd] at this
    cases this
  ·obtain⟨h1,o,ho,hall⟩:=mem_ready.1 hi
   have hilt:=(zck.1 ho).1
   obtain⟨x,hx,rfl⟩:=(hl i hilt).1 h1
   obtain⟨p,q,rfl⟩:=List.append_of_mem hx
   have hpre':∀ k∈pre x.1,listed.getD k false=true:=fun k hk=>by
    obtain⟨e,he,hb,h2⟩:=hpre x.1 o ho k hk
    have h3:=hall e he hb
    rcases h2 with rfl|h2
    ·exact h3
    ·exact hdc e.on h3 k h2
   have hnp:∀ y∈p,y.1 ∉ pre x.1:=fun y hy hk=>by
    obtain⟨oy,hoy,_⟩:=hc y (ZZ _ hy)
    exact clash listed y.1 ((hl y.1 (zck.1 hoy).1).2 ⟨y,ZZ _ hy,rfl⟩) (hpre' y.1 hk)
   obtain⟨hb1,hb2⟩:=hpok.before hnp
   obtain⟨o',ho',hco⟩:=hc x hx
   rw[ho] at ho'
   cases ho'
   rw[List.map_append,List.map_cons] at hs
   have hfront:=front hKP x.2 (p.map (·.2)) hb1 hb2 [] (by simp) (by simp) ρ H hs
   refine zhQ hQ ho hco hinv hfront fun γ' w' H' ρ' a' hinv' hs'=>?_
   refine ih (p++q) _ γ' w' H' ρ' a' (by simpa using hsz) (by simp at hlen ⊢;omega) hpok.drop (fun y hy=>hc y ?_) (fun j hj=>?_) (fun j hj k hk=>?_) hinv' (by rw[List.map_append];exact hs')
   ·rcases List.mem_append.1 hy with h|h
    ·exact ZZ _ h
    ·exact List.mem_append_right _ (Zm _ h)
   ·by_cases hji:x.1=j
    ·subst hji
     constructor
     ·intro h2
      have h3:x.1<listed.size:=by omega
      simp[h3] at h2
     ·rintro⟨y,hy,hye⟩
      exact absurd hye (hpok.fresh y hy)
    ·rw[getD_set_ne true hji,hl j hj]
     constructor
     ·rintro⟨y,hy,rfl⟩
      refine⟨y,?_,rfl⟩
      rcases List.mem_append.1 hy with h|h
      ·exact ZZ _ h
      ·rcases List.mem_cons.1 h with rfl|h
       ·exact absurd rfl hji
       ·exact List.mem_append_right _ h
     ·rintro⟨y,hy,rfl⟩
      refine⟨y,?_,rfl⟩
      rcases List.mem_append.1 hy with h|h
      ·exact ZZ _ h
      ·exact List.mem_append_right _ (Zm _ h)
   ·by_cases hji:x.1=j
    ·subst hji
     exact getD_set_true (hpre' k hk)
    ·rw[getD_set_ne false hji] at hj
     exact getD_set_true (hdc j hj k hk)
end Go.Ab
