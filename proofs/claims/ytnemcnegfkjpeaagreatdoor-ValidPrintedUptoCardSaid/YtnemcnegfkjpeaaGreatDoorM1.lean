import Derived.Calls
import Derived.Orders
import Derived.WalkKit
import GoSem.PinnedTables
import Derived.Deep.AppendSrc
set_option maxRecDepth 100000
set_option linter.all false
def Al0:=@Bool.and_eq_true
def Al1:=@Option.some.injEq
def Al2:=@List.length_cons
def Al3:=@List.length_nil
def Al4:=@Nat.le_refl
def Al5:=@List.length_append
def Al6:=@List.cons_append
def Al7:=@Bool.false_eq_true
def Al8:=@Prod.mk.injEq
def Al9:=@List.getElem?_eq_getElem
def ZS:=@Option.map_some
def Z6:=@List.nil_append
def zrj:=@Except.ok.injEq
def zak:=@Bool.and_assoc
def ZP:=@List.append_assoc
def z6:=@decide_eq_true_eq
def zaB:=@List.getElem?_eq_some_iff
def zdF:=@Array.getElem?_eq_some_iff
def zcN:=@List.length_eq_zero_iff
def Yg:=@List.getElem?_map
def zdi:=@List.all_eq_true
def zbA:=@Option.map_eq_some_iff
def zeA:=@List.getElem?_append_left
def zhT:=@List.getElem?_append_right
def zyK:=@List.drop_append_of_le_length
def zbR:=@List.mem_cons_of_mem
def zjB:=@Option.isSome_iff_exists
def zaW:=@List.mem_cons_self
def zcp:=@Bool.or_eq_true
def zbc:=@List.length_drop
def zfF:=@List.take_succ_cons
def zfa:=@List.mem_append_left
def zns:=@List.getElem?_take
def zl6:=@Array.getD_eq_getD_getElem?
namespace Go.Ab
inductive Own where
 | no|nil|full
 | tip (b d:Nat)
 deriving DecidableEq
inductive AV where
 | any
 | bool (b:Bool)
 | ubool (p:Prop)
 | int (k:IntKind) (n:Int)
 | str (s:List UInt8)
 | agg (cs:List AV)
 | tup (vs:List AV)
 | sl (o:Own) (sz:Nat) (xs:List (List AV))
 | slx (sz:Nat) (xs ys:List (List AV))
 | nilp
 | ptr (b off:Nat)
 | view (cs:List AV)
 | ms (b off len cap:Nat)
 | nilm
 | mp (b:Nat)
 | clo (f:FuncId) (first caps:List AV)
 | oth (v:Value)
 | ifc (t:TypeId) (x:AV)
inductive BK where
 | imm|own
 | buf (e:Nat)
abbrev Gh:=Nat->BK
def za3(γ:Gh)(b o:Nat):Prop :=
 match γ b with
 | .imm=>True
 | .own=>False
 | .buf e=>o<e
def zd6(w:World)(o:Own)(a:Addr)(n cap sz:Nat):Prop :=
 match o with
 | .no=>True
 | .nil=>False
 | .full=>n=cap
 | .tip b d=>cap=0∨(a=⟨b,d*sz,none⟩/\∃arr E,w.heap[b]?=some (.cells arr E (0,0))/\arr.size=(d+cap)*sz)
def CellIs(γ:Gh)(w:World)(b o:Nat)(v:Value):Prop :=w.cell? ⟨b,o,none⟩=some v/\za3 γ b o/\v.oneCell'=true
inductive Rep (γ:Gh) (w:World):AV->Value->Prop
 | any (v):Rep γ w .any v
 | bool (b):Rep γ w (.bool b) (.bool b)
 | ubool (p:Prop) (b:Bool) (h:b=true->p):Rep γ w (.ubool p) (.bool b)
 | int (k n):Rep γ w (.int k n) (.int k n)
 | str (s:List UInt8):Rep γ w (.str s) (.string ⟨s.toArray⟩)
 | agg (cs:List AV) (vs:List Value) (hl:cs.length=vs.length) (h1:∀(i:Nat) (v:Value),vs[i]?=some v->v.oneCell'=true)
  (h:∀(i:Nat) (c:AV) (v:Value),cs[i]?=some c->vs[i]?=some v->Rep γ w c v):Rep γ w (.agg cs) (.agg vs.toArray)
 | tup (cs:List AV) (vs:List Value) (hl:cs.length=vs.length) (h:∀(i:Nat) (c:AV) (v:Value),cs[i]?=some c->vs[i]?=some v->Rep γ w c v):Rep γ w (.tup cs) (.tuple vs.toArray)
 | slnil (o:Own) (sz:Nat) (ho:∀b d,o≠.tip b d):Rep γ w (.sl o sz []) (.slice none 0 0)
 | sl0 (o:Own) (sz:Nat) (a:Addr) (ho:o=.no∨o=.full):Rep γ w (.sl o sz []) (.slice (some a) 0 0)
 | sl (o:Own) (sz:Nat) (xs:List (List AV)) (b off cap:Nat) (cv:Nat->Nat->Value) (hc:xs.length<=cap) (hm:cap<=maxLen)
  (hu:∀x∈xs,x.length=sz)
  (hcell:∀(i:Nat) (x:List AV),xs[i]?=some x->∀j,j<sz->CellIs γ w b (off+(i*sz+j)) (cv i j))
  (hr:∀(i:Nat) (x:List AV),xs[i]?=some x->∀(j:Nat) (c:AV),x[j]?=some c->Rep γ w c (cv i j))
  (ho:zd6 w o ⟨b,off,none⟩ xs.length cap sz):Rep γ w (.sl o sz xs) (.slice (some ⟨b,off,none⟩) xs.length cap)
 | slx (sz:Nat) (xs ys:List (List AV)) (ad:Option Addr) (cap:Nat) (h:Rep γ w (.sl .no sz (xs++ys)) (.slice ad (xs.length+ys.length) cap)):Rep γ w (.slx sz xs ys) (.slice ad xs.length cap)
 | nilp:Rep γ w .nilp (.pointer none)
 | ptr (b off:Nat) (hlt:b<w.heap.size):Rep γ w (.ptr b off) (.pointer (some ⟨b,off,none⟩))
 | view (cs:List AV) (b off:Nat) (cv:Nat->Value) (hcell:∀j,j<cs.length->CellIs γ w b (off+j) (cv j))
  (hr:∀(j:Nat) (c:AV),cs[j]?=some c->Rep γ w c (cv j)):Rep γ w (.view cs) (.pointer (some ⟨b,off,none⟩))
 | ms (b off len cap:Nat) (hlt:b<w.heap.size) (hc:len<=cap) (hm:cap<=maxLen):Rep γ w (.ms b off len cap) (.slice (some ⟨b,off,none⟩) len cap)
 | nilm:Rep γ w .nilm (.map none)
 | mp (b:Nat) (hlt:b<w.heap.size):Rep γ w (.mp b) (.map (some b))
 | clo (f:FuncId) (first caps:List AV) (vs us:List Value) (hl:first.length=vs.length) (hl':caps.length=us.length)
  (h:∀(i:Nat) (c:AV) (v:Value),first[i]?=some c->vs[i]?=some v->Rep γ w c v) (h':∀(i:Nat) (c:AV) (v:Value),caps[i]?=some c->us[i]?=some v->Rep γ w c v) :
  Rep γ w (.clo f first caps) (.func (.func f) vs.toArray us.toArray)
 | oth (v):Rep γ w (.oth v) v
 | ifc (t:TypeId) (x:AV) (v:Value) (h:Rep γ w x v):Rep γ w (.ifc t x) (.iface t v)
structure Mono (γ:Gh) (w:World) (γ':Gh) (w':World):Prop where
 size:w.heap.size<=w'.heap.size
 cell:∀b o v,w.cell? ⟨b,o,none⟩=some v->za3 γ b o->za3 γ' b o/\w'.cell? ⟨b,o,none⟩=some v
 shape:∀(b:Nat) (arr:Array Value) (E:TypeId) (fr:Nat×Nat),w.heap[b]?=some (.cells arr E fr)->∃arr':Array Value,w'.heap[b]?=some (.cells arr' E fr)/\arr'.size=arr.size
def Mono.refl(γ:Gh)(w:World):Mono γ w γ w:=⟨Al4 _,λ_ _ _ h p=>⟨p,h⟩,λ_ arr _ _ h=>⟨arr,h,rfl⟩⟩
def Mono.trans{γ γ' I:Gh}{w w' A:World}(h:Mono γ w γ' w')(h':Mono γ' w' I A):Mono γ w I A :=⟨Nat.le_trans h.size h'.size,λb o v U W=>let ⟨p,c⟩:=h.cell b o v U W;h'.cell b o v c p,λb arr E fr J=>let ⟨a1,h1,s1⟩:=h.shape b arr E fr J;let ⟨a2,h2,s2⟩:=h'.shape b a1 E fr h1;⟨a2,h2,s2.trans s1⟩⟩
def CellIs.mono{γ γ':Gh}{w w':World}(m:Mono γ w γ' w'){b o:Nat}{v:Value}(h:CellIs γ w b o v):CellIs γ' w' b o v :=
 let ⟨p,c⟩:=m.cell b o v h.1 h.2.1
 ⟨c,p,h.2.2⟩
def zd6.mono{γ γ':Gh}{w w':World}(m:Mono γ w γ' w'){o:Own}{a:Addr}{n cap sz:Nat}(h:zd6 w o a n cap sz):zd6 w' o a n cap sz:=by
 cases o with
 | no=>trivial
 | nil=>exact h
 | full=>exact h
 | tip b d =>
  rcases h with h|⟨I,arr,E,J,W⟩
  ·exact .inl h
  obtain⟨A,U,X⟩:=m.shape b arr E _ J;exact .inr ⟨I,A,E,U,X.trans W⟩
def Rep.mono{γ γ':Gh}{w w':World}(m:Mono γ w γ' w'){c:AV}{v:Value}(h:Rep γ w c v):Rep γ' w' c v:=by
 induction h with
 | any v=>exact .any v
 | bool b=>exact .bool b
 | ubool p b h=>exact .ubool p b h
 | int k n=>exact .int k n
 | str s=>exact .str s
 | agg cs vs J ac h A=>exact .agg cs vs J ac A
 | tup cs vs J h A=>exact .tup cs vs J A
 | slnil o sz ho=>exact .slnil o sz ho
 | sl0 o sz a ho=>exact .sl0 o sz a ho
 | sl o sz xs b I cap cv W Z ae X hr ho A =>exact .sl o sz xs b I cap cv W Z ae (λi x af j Y=>(X i x af j Y).mono m) A (ho.mono m)
 | slx sz xs ai aa cap h A=>exact .slx sz xs ai aa cap A
 | nilp=>exact .nilp
 | ptr b I U=>exact .ptr b I (Nat.lt_of_lt_of_le U m.size)
 | view cs b I cv X hr A=>exact .view cs b I cv (λj Y=>(X j Y).mono m) A
 | ms b I len cap U W Z=>exact .ms b I len cap (Nat.lt_of_lt_of_le U m.size) W Z
 | nilm=>exact .nilm
 | mp b U=>exact .mp b (Nat.lt_of_lt_of_le U m.size)
 | clo f first ab vs ah J ad h h' A ag=>exact .clo f first ab vs ah J ad A ag
 | oth v=>exact .oth v
 | ifc t x v h A=>exact .ifc t x v A
def AV.cells:AV->List AV
 | .agg cs=>cs
 | x=>[x]
def AV.one:AV->Bool
 | .agg _|.tup _|.any=>false
 | .oth v=>v.oneCell'
 | _=>true
def Rep.oneCell{γ:Gh}{w:World}{c:AV}{v:Value}(h:Rep γ w c v)(A:c.one=true):v.oneCell'=true:=by cases h<;>first|rfl|(simp[AV.one]at A;done)|(simpa[AV.one]using A)
def AV.boxable:AV->Bool
 | .agg _=>true
 | c=>c.one
def Rep.cells{γ:Gh}{w:World}{c:AV}{v:Value}(h:Rep γ w c v)(J:c.boxable=true):
  c.cells.length=v.cells.toList.length/\(∀(i:Nat) (u:Value),v.cells.toList[i]?=some u->u.oneCell'=true) /\
  ∀(i:Nat) (d:AV) (u:Value),c.cells[i]?=some d->v.cells.toList[i]?=some u->Rep γ w d u:=by
 cases c with
 | agg cs =>
  cases h with
  | agg _ vs X I hr=>exact⟨by simpa[AV.cells,Value.cells]using X,by simpa[Value.cells]using I,by simpa[AV.cells,Value.cells]using hr⟩
 | any=>simp[AV.boxable,AV.one]at J
 | tup vs=>simp[AV.boxable,AV.one]at J
 | _ =>
  have I:=h.oneCell (by simpa[AV.boxable]using J);have W:v.cells=#[v]:=by cases v<;>first|rfl|(simp[Value.oneCell']at I;done)
  rw[W];refine⟨rfl,λi u A=>?_,λi d u U A=>?_⟩
  ·cases i with
   | zero=>simp at A;subst A;exact I
   | succ i=>simp at A
  ·cases i with
   | zero=>simp[AV.cells]at U A;subst U;subst A;exact h
   | succ i=>simp at A
def AV.strip1:AV->AV
 | .sl _ sz xs=>.sl .no sz xs
 | .slx sz xs _=>.sl .no sz xs
 | x=>x
def AV.strip2:AV->AV
 | .sl (.tip _ _) sz xs=>.sl .no sz xs
 | .slx sz xs _=>.sl .no sz xs
 | x=>x
def AV.strip:AV->AV
 | .agg cs=>.agg (cs.map AV.strip1)
 | .tup vs=>.tup (vs.map λ|.agg cs=>.agg (cs.map AV.strip1)|x=>x.strip1)
 | x=>x.strip1
def Rep.front{γ:Gh}{w:World}{sz:Nat}{xs U:List (List AV)}{W:Option Addr}{n cap:Nat}(h:Rep γ w (.sl .no sz U) (.slice W n cap))(A:∃I,U=xs++I):Rep γ w (.sl .no sz xs) (.slice W xs.length cap):=by
 obtain⟨I,rfl⟩:=A;generalize J:xs++I=U at h;cases h with
 | slnil _ _ ho =>obtain⟨rfl,_⟩:=List.append_eq_nil_iff.1 J;exact .slnil _ _ ho
 | sl0 _ _ a ho =>obtain⟨rfl,_⟩:=List.append_eq_nil_iff.1 J;exact .sl0 _ _ a ho
 | sl _ _ _ b ac cap cv Y aa ab Z hr ho =>
  subst J;have X:∀(i:Nat) x,xs[i]?=some x->(xs++I)[i]?=some x:=λi x A=>by rw[zeA (zaB.1 A).1];exact A
  simp only[Al5]at Y;exact .sl .no sz xs b ac cap cv (by omega) aa (λx A=>ab x (zfa _ A)) (λi x A=>Z i x (X i x A)) (λi x A=>hr i x (X i x A)) trivial
def Rep.strip1{γ:Gh}{w:World}{c:AV}{v:Value}(h:Rep γ w c v):Rep γ w c.strip1 v:=by
 cases h with
 | slnil o sz ho=>exact .slnil .no sz (by simp)
 | sl0 o sz a ho=>exact .sl0 .no sz a (.inl rfl)
 | sl o sz xs b A cap cv U X ab W hr ho=>exact .sl .no sz xs b A cap cv U X ab W hr trivial
 | slx sz xs ad ae cap h=>exact h.front ⟨ad,rfl⟩
 | any v=>exact .any v
 | bool b=>exact .bool b
 | ubool p b h=>exact .ubool p b h
 | int k n=>exact .int k n
 | str s=>exact .str s
 | agg cs vs I Z h=>exact .agg cs vs I Z h
 | tup cs vs I h=>exact .tup cs vs I h
 | nilp=>exact .nilp
 | ptr b A J=>exact .ptr b A J
 | view cs b A cv W hr=>exact .view cs b A cv W hr
 | ms b A len cap J U X=>exact .ms b A len cap J U X
 | nilm=>exact .nilm
 | mp b J=>exact .mp b J
 | clo f first Y vs ac I aa h h'=>exact .clo f first Y vs ac I aa h h'
 | oth v=>exact .oth v
 | ifc t x v h=>exact .ifc t x v h
def Rep.strip2{γ:Gh}{w:World}{c:AV}{v:Value}(h:Rep γ w c v):Rep γ w c.strip2 v:=by
 cases c with
 | sl o sz xs =>
  cases o with
  | tip b d=>exact h.strip1
  | no=>exact h
  | nil=>exact h
  | full=>exact h
 | slx sz xs A=>exact h.strip1
 | _=>exact h
def Rep.stripAgg{γ:Gh}{w:World}{cs:List AV}{v:Value}(h:Rep γ w (.agg cs) v):Rep γ w (.agg (cs.map AV.strip1)) v:=by
 cases h with
 | agg _ vs U J h =>
  refine .agg _ vs (by simpa using U) J λi c v A W=>?_;rw[Yg]at A;cases I:cs[i]? with
  | none=>simp[I]at A
  | some x=>simp only[I,ZS,Al1]at A;subst A;exact(h i x v I W).strip1
def Rep.strip{γ:Gh}{w:World}{c:AV}{v:Value}(h:Rep γ w c v):Rep γ w c.strip v:=by
 cases c with
 | agg cs=>exact h.stripAgg
 | tup cs =>
  cases h with
  | tup _ vs J h =>
   refine .tup _ vs (by simpa using J) λi c v A U=>?_;rw[Yg]at A;cases I:cs[i]? with
   | none=>simp[I]at A
   | some x =>
    simp only[I,ZS,Al1]at A;subst A;have hr:=h i x v I U;cases x with
    | agg cs=>exact hr.stripAgg
    | _=>exact hr.strip1
 | _=>exact h.strip1
def AV.keq1:AV->AV->Bool
 | .bool a,.bool b=>a==b
 | .int _ a,.int _ b=>a==b
 | .str a,.str b=>a==b
 | _,_=>false
def zcS:List AV->List AV->Bool
 | [],[]=>true
 | a::r,b::s=>a.keq1 b&&zcS r s
 | _,_=>false
def AV.keq:AV->AV->Bool
 | .agg a,.agg b=>zcS a b
 | a,b=>a.keq1 b
inductive K1 where
 | b|s
 | i (k:IntKind)
 deriving DecidableEq
inductive KT where
 | one (k:K1)
 | agg (ks:List K1)
 deriving DecidableEq
def K1.fits:K1->AV->Bool
 | .b,.bool _=>true
 | .s,.str _=>true
 | .i k,.int k' _=>decide (k=k')
 | _,_=>false
def zX:List K1->List AV->Bool
 | [],[]=>true
 | k::ks,c::cs=>k.fits c&&zX ks cs
 | _,_=>false
def KT.fits:KT->AV->Bool
 | .one k,c=>k.fits c
 | .agg ks,.agg cs=>zX ks cs
 | _,_=>false
inductive AObj where
 | cells (cs:List AV)
 | tip (n sz:Nat)
 | map (kt:KT) (es:List (AV×AV))
abbrev zb:=Nat->Option AObj
def zb.emp:zb:=λ_=>none
def zb.upd(H:zb)(b:Nat)(o:AObj):zb:=λc=>if c=b then some o else H c
def zb.del(H:zb)(b:Nat):zb:=λc=>if c=b then none else H c
def zb.one(b:Nat)(o:AObj):zb:=λc=>if c=b then some o else none
def zb.union(A B:zb):zb:=λc=>(A c).or (B c)
def zb.Disj(A B:zb):Prop:=∀c,A c=none∨B c=none
def AV.conc1:AV->Option Value
 | .bool b=>some (.bool b)
 | .int k n=>some (.int k n)
 | .str s=>some (.string ⟨s.toArray⟩)
 | _=>none
def zby:List AV->Option (List Value)
 | []=>some []
 | c::r=>match c.conc1,zby r with
  | some v,some vs=>some (v::vs)
  | _,_=>none
def AV.conc:AV->Option Value
 | .agg cs=>(zby cs).map λvs=>.agg vs.toArray
 | c=>c.conc1
structure EntryRel (γ:Gh) (w:World) (x:AV×AV) (e:MapEntry):Prop where
 key:x.1.conc=some e.key
 val:Rep γ w x.2 e.val
inductive ObjRel (γ:Gh) (w:World) (b:Nat):AObj->Prop
 | cells (cs:List AV) (vs:List Value) (E:TypeId) (hk:γ b=.own) (hb:w.heap[b]?=some (.cells vs.toArray E (0,0))) (hl:cs.length=vs.length)
  (h1:∀(i:Nat) (v:Value),vs[i]?=some v->v.oneCell'=true)
  (hr:∀(i:Nat) (c:AV) (v:Value),cs[i]?=some c->vs[i]?=some v->Rep γ w c v):ObjRel γ w b (.cells cs)
 | tip (n sz:Nat) (arr:Array Value) (E:TypeId) (hk:γ b=.buf (n*sz)) (hb:w.heap[b]?=some (.cells arr E (0,0))) (hl:n*sz<=arr.size):ObjRel γ w b (.tip n sz)
 | map (kt:KT) (es:List (AV×AV)) (cs:List MapEntry) (clock:Nat) (hf:∀x∈es,kt.fits x.1=true) (hk:γ b=.own) (hb:w.heap[b]?=some (.map cs.toArray clock)) (hl:es.length=cs.length)
  (hr:∀(i:Nat) (x:AV×AV) (e:MapEntry),es[i]?=some x->cs[i]?=some e->EntryRel γ w x e):ObjRel γ w b (.map kt es)
def zq(γ:Gh)(w:World)(H:zb):Prop:=∀b o,H b=some o->ObjRel γ w b o
def ObjRel.lt{γ:Gh}{w:World}{b:Nat}{o:AObj}(h:ObjRel γ w b o):b<w.heap.size:=by
 cases h with
 | cells cs vs E I A J W hr=>exact(zdF.1 A).1
 | tip n sz arr E I A J=>exact(zdF.1 A).1
 | map Y U cs clock X I A J hr=>exact(zdF.1 A).1
structure Ext (F:Nat->Prop) (γ:Gh) (w:World) (γ':Gh) (w':World):Prop where
 mono:Mono γ w γ' w'
 os:w'.os=w.os
 output:w'.output=w.output
 frozen:∀a,a.block<w.heap.size->w'.frozen? a=w.frozen? a
 frame:∀b,b<w.heap.size->¬ F b->γ' b=γ b/\w'.heap[b]?=w.heap[b]?
def Ext.refl(F:Nat->Prop)(γ:Gh)(w:World):Ext F γ w γ w:=⟨.refl γ w,rfl,rfl,λ_ _=>rfl,λ_ _ _=>⟨rfl,rfl⟩⟩
def Ext.trans{F I:Nat->Prop}{γ γ' X:Gh}{w w' W:World}(h:Ext F γ w γ' w')(h':Ext I γ' w' X W)(Y:∀b,b<w.heap.size->I b->F b):Ext F γ w X W :=⟨h.mono.trans h'.mono,h'.os.trans h.os,h'.output.trans h.output,λa J=>(h'.frozen a (Nat.lt_of_lt_of_le J h.mono.size)).trans (h.frozen a J),λb A U=>let ⟨g1,e1⟩:=h.frame b A U;let ⟨g2,e2⟩:=h'.frame b (Nat.lt_of_lt_of_le A h.mono.size) (λf=>U (Y b A f));⟨g2.trans g1,e2.trans e1⟩⟩
def Ext.weaken{F A:Nat->Prop}{γ γ':Gh}{w w':World}(h:Ext F γ w γ' w')(I:∀b,F b->A b):Ext A γ w γ' w' :=⟨h.mono,h.os,h.output,h.frozen,λb J U=>h.frame b J (λf=>U (I b f))⟩
def EntryRel.mono{γ γ':Gh}{w w':World}(m:Mono γ w γ' w'){x:AV×AV}{e:MapEntry}(h:EntryRel γ w x e):EntryRel γ' w' x e:=⟨h.key,h.val.mono m⟩
def ObjRel.kept{γ γ':Gh}{w w':World}{b:Nat}{o:AObj}(m:Mono γ w γ' w')(h:ObjRel γ w b o)(W:γ' b=γ b)(U:w'.heap[b]?=w.heap[b]?):ObjRel γ' w' b o:=by
 cases h with
 | cells cs vs E I A J Y hr=>exact .cells cs vs E (W.trans I) (U.trans A) J Y λi c v Z ac=>(hr i c v Z ac).mono m
 | tip n sz arr E I A J=>exact .tip n sz arr E (W.trans I) (U.trans A) J
 | map ae X cs clock ab I A J hr=>exact .map ae X cs clock ab (W.trans I) (U.trans A) J λi x e ad aa=>(hr i x e ad aa).mono m
def zq.kept{F:Nat->Prop}{γ γ':Gh}{w w':World}{H:zb}(e:Ext F γ w γ' w')(h:zq γ w H)(I:∀b o,H b=some o->¬ F b):zq γ' w' H :=λb o A=>let ho:=h b o A;let ⟨g,k⟩:=e.frame b ho.lt (I b o A);ho.kept e.mono g k
inductive AEnd where
 | ret (v:AV)
 | pan (v:AV)
def zfv(γ:Gh)(w:World):Ending->AEnd->Prop
 | .returned v,.ret c=>Rep γ w c v
 | .panicked ch,.pan c=>∃v,ch=[{ v,recovered:=false }]/\Rep γ w c v
 | _,_=>False
def zR(γ:Gh)(w:World)(cs:List AV)(vs:List Value):Prop :=cs.length=vs.length/\∀(i:Nat) (c:AV) (v:Value),cs[i]?=some c->vs[i]?=some v->Rep γ w c v
def zR.mono{γ γ':Gh}{w w':World}(m:Mono γ w γ' w'){cs:List AV}{vs:List Value}(h:zR γ w cs vs):zR γ' w' cs vs :=⟨h.1,λi c v A I=>(h.2 i c v A I).mono m⟩
def zR.nil{γ:Gh}{w:World}:zR γ w [] []:=⟨rfl,λi c v h=>by simp at h⟩
def zR.cons{γ:Gh}{w:World}{c:AV}{v:Value}{cs:List AV}{vs:List Value}(h:Rep γ w c v)(J:zR γ w cs vs):zR γ w (c::cs) (v::vs) :=
 ⟨by simp[J.1],λi d u A I=>by
  cases i with
  | zero=>simp only[List.getElem?_cons_zero,Al1]at A I;subst A;subst I;exact h
  | succ i=>simp only[List.getElem?_cons_succ]at A I;exact J.2 i d u A I⟩
def zR.append{γ:Gh}{w:World}{cs ds:List AV}{vs us:List Value}(h:zR γ w cs vs)(h':zR γ w ds us):zR γ w (cs++ds) (vs++us) :=
 ⟨by simp[h.1,h'.1],λi d u A I=>by
  rcases Nat.lt_or_ge i cs.length with hi|hi
  ·rw[zeA hi]at A;rw[zeA (by rw[<-h.1];exact hi)]at I;exact h.2 i d u A I
  ·rw[zhT hi]at A;rw[zhT (by rw[<-h.1];exact hi),<-h.1]at I;exact h'.2 _ d u A I⟩
def ztW:List (Nat×List (Value->Prop)):=[(0,Go.Pinned.utf8FirstZ.map λ(n:Nat) (v:Value)=>v=.int .u8 n),
 (1,([128,191,160,191,128,159,144,191,128,143,0,0,0,0,0,0,0,0,0,0,0,0,0,0,0,0,0,0,0,0,0,0]:List Nat).map λ(n:Nat) (v:Value)=>v=.int .u8 n),
 (2,[λv=>∃m,v=.int .i64 m]),
 (3,[λv=>∃te pe,v=.iface te pe]),
 (4,[λv=>∃te pe,v=.iface te pe]),
 (5,([1,10,100,1000,10000,100000,1000000,10000000,100000000,1000000000,10000000000,100000000000,1000000000000,10000000000000,100000000000000,1000000000000000,10000000000000000,100000000000000000,1000000000000000000,10000000000000000000]:List Nat).map λ(n:Nat) (v:Value)=>v=.int .u64 n),
 (6,([0,1,28,2,29,14,24,3,30,22,20,15,25,17,4,8,31,27,13,23,21,19,16,7,26,12,18,6,11,5,10,9]:List Nat).map λ(n:Nat) (v:Value)=>v=.int .u8 n),
 (7,([0,1,56,2,57,49,28,3,61,58,42,50,38,29,17,4,62,47,59,36,45,43,51,22,53,39,33,30,24,18,12,5,63,55,48,27,60,41,37,16,46,35,44,21,52,32,23,11,54,26,40,15,34,20,31,10,25,14,19,9,13,8,7,6]:List Nat).map λ(n:Nat) (v:Value)=>v=.int .u8 n)]
def zan(γ:Gh)(w:World):Prop:=∀x∈ztW,(∃(arr:Array Value) (E:TypeId) (fr:Nat×Nat),w.heap[x.1]?=some (.cells arr E fr)/\arr.size=x.2.length) /\ ∀(j:Nat) (p:Value->Prop),x.2[j]?=some p->∃v,CellIs γ w x.1 j v/\p v
def zan.mono{γ γ':Gh}{w w':World}(m:Mono γ w γ' w')(h:zan γ w):zan γ' w':=λx A =>⟨let ⟨arr,E,fr,h1,h2⟩:=(h x A).1;let ⟨arr',h3,h4⟩:=m.shape _ arr E fr h1;⟨arr',E,fr,h3,h4.trans h2⟩,λj p I=>let ⟨v,h1,h2⟩:=(h x A).2 j p I;⟨v,h1.mono m,h2⟩⟩
def zd(P:Program)(f:FuncId)(args:List AV)(H:zb)(Q:AEnd->zb->Prop):Prop :=∀(γ:Gh) (w:World) (vs:List Value),zan γ w->zq γ w H->zR γ w args vs -> Calls P f vs.toArray w λe w'=>∃γ' H' r,Ext (λb=>(H b).isSome=true) γ w γ' w'/\zq γ' w' H' /\ (∀b,(H' b).isSome=true->(H b).isSome=true∨w.heap.size<=b)/\zfv γ' w' e r/\Q r H'
def zd.mono{P:Program}{f:FuncId}{args:List AV}{H:zb}{Q A:AEnd->zb->Prop}(h:zd P f args H Q)(hq:∀r H',Q r H'->A r H'):zd P f args H A :=λγ w vs J I U=>(h γ w vs J I U).mono λ_ _ ⟨γ',H',r,a,b,c,d,e⟩=>⟨γ',H',r,a,b,c,d,hq _ _ e⟩
def zb.union_some{A B:zb}{b:Nat}{o:AObj}(h:zb.union A B b=some o):A b=some o∨(A b=none/\B b=some o):=by
 unfold zb.union at h;cases I:A b with
 | none=>right;simpa[I]using h
 | some x=>left;simpa[I]using h
def zq.sub{γ:Gh}{w:World}{H H':zb}(h:zq γ w H)(I:∀b o,H' b=some o->H b=some o):zq γ w H' :=λb o A=>h b o (I b o A)
def zd.frame{P:Program}{f:FuncId}{args:List AV}{U B:zb}{Q:AEnd->zb->Prop}(Z:zb.Disj U B)(h:zd P f args U Q):
  zd P f args (zb.union U B) λr H'=>∃J,Q r J/\zb.Disj J B/\H'=zb.union J B:=by
 intro γ w vs al ad am;have ae:zq γ w U:=ad.sub λb o A=>by simp[zb.union,A]
 have aa:zq γ w B:=ad.sub λb o A=>by
  rcases Z b with h|h
  ·simp[zb.union,h,A]
  ·rw[h]at A;cases A
 refine(h γ w vs al ae am).mono λe w' ⟨γ',J,r,ab,ak,ac,ai,hq⟩=>?_;have ah:zb.Disj J B:=λc=>by
  cases ag:J c with
  | none=>exact .inl rfl
  | some x =>
   right;rcases ac c (by simp[ag])with I|I
   ·rcases Z c with Y|Y
    ·simp[Y]at I
    ·exact Y
   ·cases A:B c with
    | none=>rfl
    | some y=>have:=(aa c y A).lt;omega
 have af:zq γ' w' B:=aa.kept ab λb o A aj=>by
  rcases Z b with I|I
  ·simp[I]at aj
  ·rw[I]at A;cases A
 refine⟨γ',zb.union J B,r,ab.weaken λb A=>?_,λb o A=>?_,λb A=>?_,ai,J,hq,ah,rfl⟩
 ·cases W:U b with
  | none=>simp[W]at A
  | some x=>simp[zb.union,W]
 ·rcases zb.union_some A with I|⟨_,I⟩
  ·exact ak b o I
  ·exact af b o I
 ·cases W:J b with
  | some x =>
   rcases ac b (by simp[W])with I|I
   ·left;cases X:U b with
    | none=>simp[X]at I
    | some y=>simp[zb.union,X]
   ·exact .inr I
  | none =>
   simp only[zb.union,W,Option.none_or]at A;left;cases X:U b with
   | some y=>simp[zb.union,X]
   | none=>simp[zb.union,X,A]
inductive Opd where
 | t (n:Nat)
 | k (c:AV)
abbrev Env:=Nat->AV
def Env.set(ρ:Env)(d:Option Nat)(c:AV):Env :=
 match d with
 | some d=>λn=>if n=d then c else ρ n
 | none=>ρ
def Opd.ev(ρ:Env):Opd->AV
 | .t n=>ρ n
 | .k c=>c
def Own.cut:Own->Nat->Own
 | .tip b d,l=>.tip b (d+l)
 | o,_=>o
inductive AOp where
 | mv (x:Opd)
 | pick (c a b:Opd)
 | nilchk (x:Opd)
 | bi (op:BinOp) (k:IntKind) (x y:Opd)
 | shf (op:BinOp) (x y:Opd)
 | bs (op:BinOp) (x y:Opd)
 | bb (neg:Bool) (x y:Opd)
 | eqa (neg:Bool) (ks:List K1) (x y:Opd)
 | not (x:Opd)
 | cvi (k:IntKind) (x:Opd)
 | cvb2s (x:Opd)
 | bld (zero:List AV) (parts:List (Nat×Nat×Opd))
 | bls (sz len:Nat) (zero:List AV) (parts:List (Nat×Opd))
 | mkfn (f:FuncId) (first caps:List Opd)
 | ext (x:Opd) (i:Nat)
 | mki (t:TypeId) (x:Opd)
 | fa (off:Nat) (x:Opd)
 | fld (off n:Nat) (ag:Bool) (x:Opd)
 | ia (sz:Nat) (x i:Opd)
 | ixs (x i:Opd)
 | sls (x:Opd) (lo hi:Option Opd)
 | sll (sz:Nat) (x:Opd) (lo hi mx:Option Opd)
 | len (x:Opd)
 | lens (x:Opd)
 | mm (mx:Bool) (x:Opd) (ys:List Opd)
 | boxv (x:Opd)
 | ifnil (neg:Bool) (x:Opd)
 | tas (t:TypeId) (zero:AV) (x:Opd)
 | ld (n:Nat) (ag:Bool) (x:Opd)
 | lkp (kt:KT) (zero:AV) (ok:Bool) (m k:Opd)
 | alloc (zero:List AV)
 | box (x:Opd)
 | mkm (kt:KT)
 | st (n:Nat) (x y:Opd)
 | mup (kt:KT) (m k v:Opd)
 | app (sz bytes:Nat) (x y:Opd)
 | apps (x y:Opd)
 | blsm (sz len:Nat) (zero:List AV) (parts:List (Nat×Opd))
 | call (f:FuncId) (args:List Opd)
 | callv (g:Opd) (args:List Opd)
 | pan (x:Opd)
def mk(ag:Bool)(cs:List AV):AV:=if ag then .agg cs else cs.headD .any
def zfD(op:BinOp)(k:IntKind)(a b:Int):Option AV :=
 match op with
 | .add=>some (.int k (k.wrap (a+b)))
 | .sub=>some (.int k (k.wrap (a-b)))
 | .mul=>some (.int k (k.wrap (a*b)))
 | .quo=>if b=0 then none else some (.int k (k.wrap (a.tdiv b)))
 | .rem=>if b=0 then none else some (.int k (a.tmod b))
 | .and=>some (.int k (k.wrap (BitVec.ofInt k.bits a &&& BitVec.ofInt k.bits b).toNat))
 | .or=>some (.int k (k.wrap (BitVec.ofInt k.bits a ||| BitVec.ofInt k.bits b).toNat))
 | .xor=>some (.int k (k.wrap (BitVec.ofInt k.bits a ^^^ BitVec.ofInt k.bits b).toNat))
 | .andNot=>some (.int k (k.wrap (BitVec.ofInt k.bits a &&& ~~~ BitVec.ofInt k.bits b).toNat))
 | .eql=>some (.bool (a==b))
 | .neq=>some (.bool (a != b))
 | .lss=>some (.bool (decide (a<b)))
 | .leq=>some (.bool (decide (a<=b)))
 | .gtr=>some (.bool (decide (b<a)))
 | .geq=>some (.bool (decide (b<=a)))
 | .shl|.shr=>none
def ztu(op:BinOp)(k:IntKind)(a b:Int):Option AV :=
 match op with
 | .shl=>if b<0 then none else some (.int k (k.wrap (a*2 ^ (min b.toNat k.bits))))
 | .shr=>if b<0 then none else some (.int k (a.fdiv (2 ^ (min b.toNat k.bits))))
 | _=>none
def zuD(op:BinOp)(a b:List UInt8):Option AV :=
 match op with
 | .add=>if a.length+b.length<=9223372036854775807 then some (.str (a++b))else none
 | .eql=>some (.bool (a==b))
 | .neq=>some (.bool !(a==b))
 | .lss=>some (.bool (Op.bytesLess a b))
 | .leq=>some (.bool (Op.bytesLess a b||a==b))
 | .gtr=>some (.bool !(Op.bytesLess a b||a==b))
 | .geq=>some (.bool !(Op.bytesLess a b))
 | _=>none
def ziQ:List (List AV)->Option (List UInt8)
 | []=>some []
 | [.int .u8 n]::r=>if 0<=n/\n<256 then (ziQ r).map (UInt8.ofNat n.toNat::·)else none
 | _=>none
def splice(cs:List AV)(off:Nat)(v:List AV):List AV:=cs.take off++v++cs.drop (off+v.length)
def zdB(ρ:Env):List AV->List (Nat×Nat×Opd)->Option (List AV)
 | cs,[]=>some cs
 | cs,(off,n,x)::r=>if (x.ev ρ).cells.length=n/\off+n<=cs.length/\(x.ev ρ).boxable=true then zdB ρ (splice cs off (x.ev ρ).cells) r else none
def zb8(S:AV->AV)(ρ:Env)(sz:Nat):List (List AV)->List (Nat×Opd)->Option (List (List AV))
 | xs,[]=>some xs
 | xs,(i,x)::r=>if (x.ev ρ).cells.length=sz/\i<xs.length/\(x.ev ρ).boxable=true then zb8 S ρ sz (xs.set i ((x.ev ρ).cells.map S)) r else none
def bound(dflt:Nat)(ρ:Env):Option Opd->Option Int
 | none=>some dflt
 | some x=>match x.ev ρ with
  | .int _ n=>some n
  | _=>none
def mm2(mx:Bool)(a b:Int):Int:=if mx then (if b > a then b else a)else (if b<a then b else a)
def zdx(mx:Bool)(k:IntKind)(ρ:Env):Int->List Opd->Option Int
 | a,[]=>some a
 | a,y::r=>match y.ev ρ with
  | .int k' b=>if k=k' then zdx mx k ρ (mm2 mx a b) r else none
  | _=>none
def zpk(sz b off len cap:Nat):Option Int->Option Int->Option AV
 | some l,some h=>if 0<=l/\l<=h/\h<=len then some (.ms b (if cap=l.toNat then off else off+l.toNat*sz) (h.toNat-l.toNat) (cap-l.toNat))else none
 | _,_=>none
def pev(ρ:Env):AOp->Option AV
 | .mv x=>some (x.ev ρ)
 | .pick c a b=>match c.ev ρ with
  | .bool t=>some (if t then a.ev ρ else b.ev ρ)
  | _=>none
 | .nilchk x=>match x.ev ρ with
  | .ptr b o=>some (.ptr b o)
  | .view cs=>some (.view cs)
  | .clo f a b=>some (.clo f a b)
  | _=>none
 | .bi op k x y=>match x.ev ρ,y.ev ρ with
  | .int k1 a,.int k2 b=>if k1=k/\k2=k then zfD op k a b else none
  | _,_=>none
 | .shf op x y=>match x.ev ρ,y.ev ρ with
  | .int k a,.int _ b=>ztu op k a b
  | _,_=>none
 | .bs op x y=>match x.ev ρ,y.ev ρ with
  | .str a,.str b=>zuD op a b
  | _,_=>none
 | .bb neg x y=>match x.ev ρ,y.ev ρ with
  | .bool a,.bool b=>some (.bool (if neg then !(a==b)else a==b))
  | _,_=>none
 | .eqa neg ks x y=>match x.ev ρ,y.ev ρ with
  | .agg as,.agg bs=>if zX ks as=true/\zX ks bs=true then some (.bool (if neg then !(zcS as bs)else zcS as bs))else none
  | _,_=>none
 | .not x=>match x.ev ρ with
  | .bool t=>some (.bool !t)
  | _=>none
 | .cvi k x=>match x.ev ρ with
  | .int _ n=>some (.int k (k.wrap n))
  | _=>none
 | .cvb2s x=>match x.ev ρ with
  | .sl _ 1 xs=>(ziQ xs).map .str
  | _=>none
 | .bld zero parts=>(zdB ρ zero parts).map .agg
 | .bls sz n zero parts=>if zero.length=sz then (zb8 AV.strip1 ρ sz (List.replicate n zero) parts).map (.sl .full sz)else none
 | .mkfn f first caps=>some (.clo f (first.map (Opd.ev ρ)) (caps.map (Opd.ev ρ)))
 | .ext x i=>match x.ev ρ with
  | .tup vs=>vs[i]?
  | _=>none
 | .mki t x=>some (.ifc t (x.ev ρ))
 | .fa off x=>match x.ev ρ with
  | .ptr b o=>some (.ptr b (o+off))
  | .view cs=>some (.view (cs.drop off))
  | _=>none
 | .fld off n ag x=>match x.ev ρ with
  | .agg cs=>if off+n<=cs.length then some (mk ag ((cs.drop off).take n))else none
  | _=>none
 | .ia sz x i=>match x.ev ρ,i.ev ρ with
  | .sl _ sz' xs,.int _ n=>if sz'=sz/\0<=n/\n<xs.length then some (.view (xs.getD n.toNat []))else none
  | .ms b off len _,.int _ n=>if 0<=n/\n<len then some (.ptr b (off+n.toNat*sz))else none
  | _,_=>none
 | .ixs x i=>match x.ev ρ,i.ev ρ with
  | .str s,.int _ n=>if 0<=n/\n<s.length then some (.int .u8 (s.getD n.toNat 0).toNat)else none
  | _,_=>none
 | .sls x lo hi=>match x.ev ρ with
  | .str s=>match bound 0 ρ lo,bound s.length ρ hi with
   | some l,some h=>if 0<=l/\l<=h/\h<=s.length then some (.str ((s.take h.toNat).drop l.toNat))else none
   | _,_=>none
  | _=>none
 | .sll sz x lo hi mx=>match x.ev ρ with
  | .sl o sz' xs=>match bound 0 ρ lo,bound xs.length ρ hi,mx with
   | some l,some h,none=>if sz'=sz/\0<=l/\l<=h/\h<=xs.length then some (.sl (if hi.isNone then o.cut l.toNat else .no) sz ((xs.take h.toNat).drop l.toNat))else none
   | some l,some h,some m=>match m.ev ρ with
    | .int _ m=>if sz'=sz/\0<=l/\l<=h/\h<=m/\m<=xs.length then some (.sl (if m=h then .full else .no) sz ((xs.take h.toNat).drop l.toNat))else none
    | _=>none
   | _,_,_=>none
  | .ms b off len cap=>match mx with
   | none=>zpk sz b off len cap (bound 0 ρ lo) (bound len ρ hi)
   | some _=>none
  | _=>none
 | .lens x=>match x.ev ρ with
  | .str s=>some (.int .i64 s.length)
  | _=>none
 | .len x=>match x.ev ρ with
  | .sl _ _ xs=>some (.int .i64 xs.length)
  | .slx _ xs _=>some (.int .i64 xs.length)
  | .ms _ _ n _=>some (.int .i64 n)
  | _=>none
 | .mm mx x ys=>match x.ev ρ with
  | .int k a=>(zdx mx k ρ a ys).map (.int k)
  | _=>none
 | .ifnil neg x=>match x.ev ρ with
  | .oth .nilIface=>some (.bool !neg)
  | .ifc _ _=>some (.bool neg)
  | _=>none
 | .tas t zero x=>match x.ev ρ with
  | .oth .nilIface=>some (.tup [zero,.bool false])
  | .ifc t' c=>some (if t'=t then .tup [c,.bool true]else .tup [zero,.bool false])
  | _=>none
 | .boxv x=>if (x.ev ρ).boxable=true then some (.view (x.ev ρ).cells)else none
 | _=>none
def zaZ(es:List (AV×AV))(k:AV):Option AV :=
 match es with
 | []=>none
 | (a,v)::r=>if k.keq a then some v else zaZ r k
def zbW(es:List (AV×AV))(k v:AV):List (AV×AV) :=
 match es with
 | []=>[(k,v)]
 | (a,u)::r=>if k.keq a then (k,v)::r else (a,u)::zbW r k v
def YV(zero:AV)(ok:Bool)(r:Option AV):AV:=if ok then .tup [r.getD zero,.bool r.isSome]else r.getD zero
def rev(ρ:Env)(H:zb):AOp->Option AV
 | .ld n ag x=>match x.ev ρ with
  | .view cs=>if n<=cs.length then some (mk ag (cs.take n))else none
  | .ptr b off=>match H b with
   | some (.cells cs)=>if off+n<=cs.length then some (mk ag ((cs.drop off).take n))else none
   | _=>none
  | _=>none
 | .lkp kt zero ok m k=>if kt.fits (k.ev ρ)then match m.ev ρ with
  | .nilm=>some (YV zero ok none)
  | .mp b=>match H b with
   | some (.map kt' es)=>if kt'=kt then some (YV zero ok (zaZ es (k.ev ρ)))else none
   | _=>none
  | _=>none
  else none
 | _=>none
inductive Cls where
 | pure|read|alloc|eff
 deriving DecidableEq
def AOp.cls:AOp->Cls
 | .ld ..|.lkp ..=>.read
 | .alloc ..|.box ..|.mkm ..|.blsm ..=>.alloc
 | .st ..|.mup ..|.app ..|.apps ..|.call ..|.callv ..|.pan ..=>.eff
 | _=>.pure
def oev(ρ:Env):AOp->Option AObj
 | .alloc zero=>some (.cells zero)
 | .box x=>if (x.ev ρ).boxable=true then some (.cells (x.ev ρ).cells)else none
 | .mkm kt=>some (.map kt [])
 | .blsm sz n zero parts=>if zero.length=sz then (zb8 AV.strip1 ρ sz (List.replicate n zero) parts).map λys=>.cells ys.flatten else none
 | _=>none
def zdI(ρ:Env)(b:Nat):AOp->AV
 | .mkm _=>.mp b
 | .blsm _ n _ _=>.ms b 0 n n
 | _=>.ptr b 0
def ZT(K KP:AV->zb->Prop):AEnd->zb->Prop
 | .ret v,H=>K v H
 | .pan v,H=>KP v H
def Program.callable (P:Program) (f:FuncId):Bool :=
 match P.funcs[f]? with
 | some fn => fn.body.isSome && fn.name != "runtime.NumGoroutine"
 | none=>false
def zmH(sz bytes:Nat)(x y:AV)(H:zb)(K:AV->zb->Prop):Prop :=
 match x,y with
 | .sl o s1 xs,.sl _ s2 ys =>
  s1=sz/\s2=sz/\(xs.length+ys.length)*bytes<=140737488355328/\xs.length+ys.length<=maxLen /\
  match o with
  | .no=>False
  | .nil|.full=>(ys=[]->K (.sl o sz xs) H) /\ (ys≠[]->∀b,H b=none->K (.sl (.tip b 0) sz (xs++ys.map (·.map AV.strip1))) (H.upd b (.tip (xs.length+ys.length) sz)))
  | .tip b d=>H b=some (.tip (d+xs.length) sz) /\ ∀b' d',(H.del b) b'=none->K (.sl (.tip b' d') sz (xs++ys.map (·.map AV.strip1))) ((H.del b).upd b' (.tip (d'+(xs.length+ys.length)) sz))
 | _,_=>False
def bytesOf(s:List UInt8):List (List AV):=s.map λc=>[.int .u8 c.toNat]
def eff(P:Program)(KP:AV->zb->Prop)(ρ:Env)(H:zb)(K:AV->zb->Prop):AOp->Prop
 | .st n x y=>match x.ev ρ with
  | .ptr b off=>match H b with
   | some (.cells cs)=>(y.ev ρ).cells.length=n/\off+n<=cs.length/\(y.ev ρ).boxable=true/\K (.tup []) (H.upd b (.cells (splice cs off (y.ev ρ).cells)))
   | _=>False
  | _=>False
 | .mup kt m k v=>match m.ev ρ with
  | .mp b=>match H b with
   | some (.map kt' es)=>kt'=kt/\kt.fits (k.ev ρ)=true/\K (.tup []) (H.upd b (.map kt (zbW es (k.ev ρ) (v.ev ρ))))
   | _=>False
  | _=>False
 | .app sz bytes x y=>zmH sz bytes (x.ev ρ) (y.ev ρ) H K
 | .apps x y=>match y.ev ρ with
  | .str s=>zmH 1 1 (x.ev ρ) (.sl .no 1 (bytesOf s)) H K
  | _=>False
 | .call f args=>zd P f (args.map (Opd.ev ρ)) H (ZT K KP)
 | .callv g args=>match g.ev ρ with
  | .clo f first caps=>Program.callable P f=true/\zd P f (first++args.map (Opd.ev ρ)++caps) H (ZT K KP)
  | _=>False
 | .pan x=>match x.ev ρ with
  | .ifc t y=>KP (.ifc t y) H
  | _=>False
 | _=>False
def zds(H:zb):Prop:=∃n,∀b,n<=b->H b≠none
def aop(P:Program)(KP:AV->zb->Prop)(o:AOp)(ρ:Env)(H:zb)(K:AV->zb->Prop):Prop :=
 match o.cls with
 | .pure=>match pev ρ o with
  | some v=>K v H
  | none=>False
 | .read=>match rev ρ H o with
  | some v=>K v H
  | none=>False
 | .alloc=>match oev ρ o with
  | some x=>∀b,H b=none->K (zdI ρ b o) (H.upd b x)
  | none=>zds H
 | .eff=>eff P KP ρ H K o
structure EnvRel (γ:Gh) (w:World) (ρ:Env) (tmps:Array Value):Prop where
 tab:zan γ w
 rep:∀n,Rep γ w (ρ n) (tmps.getD n undef)
def EnvRel.mono{γ γ':Gh}{w w':World}(m:Mono γ w γ' w'){ρ:Env}{tmps:Array Value}(h:EnvRel γ w ρ tmps):EnvRel γ' w' ρ tmps:=⟨h.tab.mono m,λn=>(h.rep n).mono m⟩
def zkm:Value->AV->Bool
 | .bool b,.bool b'=>b==b'
 | .int k n,.int k' n'=>decide (k=k')&&decide (n=n')
 | .string s,.str l=>s.data.toList==l
 | .slice none 0 0,.sl .nil _ []=>true
 | .pointer none,.nilp=>true
 | .map none,.nilm=>true
 | .nilFunc,.oth .nilFunc=>true
 | .nilIface,.oth .nilIface=>true
 | _,_=>false
def zbL:List Value->List AV->Bool
 | [],[]=>true
 | v::vs,c::cs=>zkm v c&&zbL vs cs
 | _,_=>false
def zoG:Value->AV->Bool
 | .agg vs,.agg cs=>zbL vs.toList cs
 | v,c=>zkm v c
def zN:Operand->Opd->Bool
 | .tmp t,.t n=>t==n
 | .const v,.k c=>zoG v c
 | .func f,.k (.clo f' [] [])=>f==f'
 | _,_=>false
def zqH{v:Value}{c:AV}(h:zkm v c=true):v.oneCell'=true:=by unfold zkm at h;split at h<;>first|rfl|cases h
def zj0{v:Value}{c:AV}(h:zkm v c=true)(γ:Gh)(w:World):Rep γ w c v:=by
 unfold zkm at h;split at h
 ·simp at h;subst h;exact .bool _
 ·simp at h;obtain⟨rfl,rfl⟩:=h;exact .int _ _
 ·rename_i s l;simp at h;subst h;exact .str s.data.toList
 ·exact .slnil .nil _ (by simp)
 ·exact .nilp
 ·exact .nilm
 ·exact .oth _
 ·exact .oth _
 ·cases h
def zcz:∀ {vs:List Value} {cs:List AV},zbL vs cs=true->∀(γ:Gh) (w:World),
  cs.length=vs.length/\(∀(i:Nat) (v:Value),vs[i]?=some v->v.oneCell'=true)/\∀(i:Nat) (c:AV) (v:Value),cs[i]?=some c->vs[i]?=some v->Rep γ w c v
 | [],[],_,γ,w=>by simp
 | [],_::_,h,_,_=>by simp[zbL]at h
 | _::_,[],h,_,_=>by simp[zbL]at h
 | v::vs,c::cs,h,γ,w=>by
  simp only[zbL,Al0]at h;obtain⟨J,U,W⟩:=zcz h.2 γ w;refine⟨by simp[J],λi u A=>?_,λi d u I A=>?_⟩
  ·cases i with
   | zero=>simp at A;subst A;exact zqH h.1
   | succ i=>simp at A;exact U i u A
  ·cases i with
   | zero=>simp at I A;subst I;subst A;exact zj0 h.1 γ w
   | succ i=>simp at I A;exact W i d u I A
def zjq{v:Value}{c:AV}(h:zoG v c=true)(γ:Gh)(w:World):Rep γ w c v:=by
 unfold zoG at h;split at h
 ·rename_i vs cs;obtain⟨A,I,J⟩:=zcz h γ w;exact .agg cs vs.toList A I J
 ·exact zj0 h γ w
def zr{x:Operand}{y:Opd}(h:zN x y=true){γ:Gh}{w:World}{ρ:Env}{a:Act}(A:EnvRel γ w ρ a.tmps):Rep γ w (y.ev ρ) (a.eval x):=by
 unfold zN at h;split at h
 ·simp at h;subst h;exact A.rep _
 ·exact zjq h γ w
 ·simp at h;subst h;exact .clo _ [] [] [] [] rfl rfl (by simp) (by simp)
 ·cases h
def zai:List Operand->List Opd->Bool
 | [],[]=>true
 | x::xs,y::ys=>zN x y&&zai xs ys
 | _,_=>false
def zcJ:∀ {xs:List Operand} {A:List Opd},zai xs A=true->∀ {γ:Gh} {w:World} {ρ:Env} {a:Act},EnvRel γ w ρ a.tmps ->
  zR γ w (A.map (Opd.ev ρ)) (xs.map a.eval)
 | [],[],_,_,_,_,_,_=>zR.nil
 | [],_::_,h,_,_,_,_,_=>by simp[zai]at h
 | _::_,[],h,_,_,_,_,_=>by simp[zai]at h
 | x::xs,y::A,h,_,_,_,_,he=>by simp only[zai,Al0]at h;exact zR.cons (zr h.1 he) (zcJ h.2 he)
def yV(P:Program)(o:Oper)(ao:AOp):Prop :=∀(γ:Gh) (w:World) (ρ:Env) (a:Act) (c:AV),EnvRel γ w ρ a.tmps->pev ρ ao=some c -> ∃v γ' w',(execOp a.eval o).run P w=.ok (.value v) w'/\Ext (λ_=>False) γ w γ' w'/\Rep γ' w' c v
def zH{P:Program}{o:Oper}{a:Act}{γ:Gh}{w:World}{c:AV}{v:Value}(h:(execOp a.eval o).run P w=.ok (.value v) w)(hr:Rep γ w c v):
  ∃v γ' w',(execOp a.eval o).run P w=.ok (.value v) w'/\Ext (λ_=>False) γ w γ' w'/\Rep γ' w' c v :=
 ⟨v,γ,w,h,.refl _ _ _,hr⟩
def zxb{P:Program}{o:Oper}{x:Operand}{y:Opd}(ho:o.op=.move x∨o.op=.assign x)(h:zN x y=true):yV P o (.mv y):=by intro γ w ρ a c I A;simp only[pev,Al1]at A;subst A;exact zH (by rcases ho with ho|ho<;>simp[execOp,ho]) (zr h I)
def zv2{P:Program}{o:Oper}{x y z:Operand}{x' W X:Opd}(ho:o.op=.pick x y z)(h:zN x x'=true)(Y:zN y W=true)(Z:zN z X=true):yV P o (.pick x' W X):=by
 intro γ w ρ a c I A;have J:=zr h I;have ab:=zr Y I;have ac:=zr Z I;simp only[pev]at A;cases aa:x'.ev ρ<;>simp only[aa]at A J<;>try (cases A;done)
 rename_i t;simp only[Al1]at A;subst A;generalize U:a.eval x=v at J;cases J;cases t
 ·exact zH (v:=a.eval z) (by simp[execOp,ho,U,asBool]) (by simpa using ac)
 ·exact zH (v:=a.eval y) (by simp[execOp,ho,U,asBool]) (by simpa using ab)
def zrb{P:Program}{o:Oper}{x:Operand}{x':Opd}(ho:o.op=.nilCheck x)(h:zN x x'=true):yV P o (.nilchk x'):=by
 intro γ w ρ a c J A;have I:=zr h J;simp only[pev]at A;cases W:x'.ev ρ<;>simp only[W]at A I<;>try (cases A;done)
 all_goals simp only[Al1]at A;subst A;generalize U:a.eval x=v at I;have X:=I;cases I;exact zH (by simp[execOp,ho,U]) X
def zld{P:Program}{w:World}(op:BinOp)(k:IntKind)(a b:Int){c:AV}(h:zfD op k a b=some c)(I:op≠.shl)(J:op≠.shr)(t:TypeId)(γ:Gh):
  ∃v,(binOp op t (.int k a) (.int k b)).run P w=.ok v w/\Rep γ w c v:=by
 cases op
 case shl=>exact absurd rfl I
 case shr=>exact absurd rfl J
 case quo =>
  simp only[zfD]at h;split at h
  ·cases h
  ·rename_i A;simp only[Al1]at h;subst h;exact⟨.int k _,by simp[binOp,Op.intDiv,A];done,.int _ _⟩
 case rem =>
  simp only[zfD]at h;split at h
  ·cases h
  ·rename_i A;simp only[Al1]at h;subst h;exact⟨.int k _,by simp[binOp,Op.intDiv,A];done,.int _ _⟩
 case add=>simp only[zfD,Al1]at h;subst h;exact⟨.int k _,by simp[binOp,Op.intArith];done,.int _ _⟩
 case sub=>simp only[zfD,Al1]at h;subst h;exact⟨.int k _,by simp[binOp,Op.intArith];done,.int _ _⟩
 case mul=>simp only[zfD,Al1]at h;subst h;exact⟨.int k _,by simp[binOp,Op.intArith];done,.int _ _⟩
 case and=>simp only[zfD,Al1]at h;subst h;exact⟨.int k _,by simp[binOp,Op.intBits];done,.int _ _⟩
 case or=>simp only[zfD,Al1]at h;subst h;exact⟨.int k _,by simp[binOp,Op.intBits];done,.int _ _⟩
 case xor=>simp only[zfD,Al1]at h;subst h;exact⟨.int k _,by simp[binOp,Op.intBits];done,.int _ _⟩
 case andNot=>simp only[zfD,Al1]at h;subst h;exact⟨.int k _,by simp[binOp,Op.intBits];done,.int _ _⟩
 all_goals (simp only[zfD,Al1]at h;subst h;exact⟨.bool _,by simp[binOp,Op.intCmp];done,.bool _⟩)
def zaD{P:Program}{w:World}(op:BinOp)(t:TypeId)(x y:Operand)(u v:Value)(h:∀cs,u≠.agg cs)(h':u≠.nilIface):(eqGuard op t x y u v).run P w=.ok () w:=by unfold eqGuard;split<;>first|rfl|(cases u<;>first|rfl|(simp at h';done)|(exact absurd rfl (h _))|(simp;done))
def zAV{P:Program}{o:Oper}{op:BinOp}{t u:TypeId}{k:IntKind}{x y:Operand}{x' U:Opd}(ho:o.op=.binOp op t x y u)(h:zN x x'=true)(X:zN y U=true)(Y:op≠.shl)(Z:op≠.shr):yV P o (.bi op k x' U):=by
 intro γ w ρ a c W A;have I:=zr h W;have J:=zr X W;simp only[pev]at A;cases ae:x'.ev ρ<;>simp only[ae]at A I<;>try (cases A;done)
 cases af:U.ev ρ<;>simp only[af]at A J<;>try (cases A;done)
 rename_i ag ai ah aj;split at A
 ·rename_i aa;obtain⟨rfl,rfl⟩:=aa;generalize ad:a.eval x=v at I;generalize ac:a.eval y=ak at J;cases I;cases J;obtain⟨v,hr,ab⟩:=zld (P:=P) (w:=w) op _ _ _ A Y Z t γ;refine zH ?_ ab;simp only[execOp,ho,ad,ac,Sem.run_bind,zaD op t x y (.int _ _) _ (by simp) (by simp),Result.andThen_ok,hr,Sem.run_pure]
 ·cases A
def zxT{P:Program}{o:Oper}{op:BinOp}{t u:TypeId}{x y:Operand}{x' U:Opd}(ho:o.op=.binOp op t x y u)(h:zN x x'=true)(X:zN y U=true):yV P o (.shf op x' U):=by
 intro γ w ρ a c W A;have I:=zr h W;have J:=zr X W;simp only[pev]at A;cases ab:x'.ev ρ<;>simp only[ab]at A I<;>try (cases A;done)
 cases ac:U.ev ρ<;>simp only[ac]at A J<;>try (cases A;done)
 generalize aa:a.eval x=v at I;generalize Z:a.eval y=ad at J;cases I;cases J;cases op<;>simp only[ztu]at A<;>try (cases A;done)
 all_goals
  split at A
  ·cases A
  ·rename_i Y;simp only[Al1]at A;subst A;refine zH ?_ (.int _ _);simp only[execOp,ho,aa,Z,Sem.run_bind,zaD _ t x y (.int _ _) _ (by simp) (by simp),Result.andThen_ok,binOp,Op.shift,Y,if_false,Sem.run_pure]
def zeU(s:List UInt8):(ByteArray.mk s.toArray).toList=s:=by rw[ByteArray.toList_eq]
def ze1(s:List UInt8):(ByteArray.mk s.toArray).size=s.length:=by show s.toArray.size=s.length;simp
def zrN(a b:List UInt8):(ByteArray.mk a.toArray)++(ByteArray.mk b.toArray)=ByteArray.mk (a++b).toArray:=by apply ByteArray.ext;simp
def zAF{P:Program}{o:Oper}{op:BinOp}{t u:TypeId}{x y:Operand}{x' X:Opd}(ho:o.op=.binOp op t x y u)(h:zN x x'=true)(Z:zN y X=true):yV P o (.bs op x' X):=by
 intro γ w ρ a c Y A;have U:=zr h Y;have W:=zr Z Y;simp only[pev]at A;cases af:x'.ev ρ<;>simp only[af]at A U<;>try (cases A;done)
 cases ag:X.ev ρ<;>simp only[ag]at A W<;>try (cases A;done)
 rename_i I J;generalize ae:a.eval x=v at U;generalize ad:a.eval y=ai at W;cases U;cases W;have key:∃v,(Op.stringOp op ⟨I.toArray⟩ ⟨J.toArray⟩).run P w=.ok v w/\Rep γ w c v:=by
  unfold zuD at A;unfold Op.stringOp;rw[zeU,zeU,ze1,ze1,zrN];cases op<;>simp only[]at A ⊢<;>try (cases A;done)
  case add =>
   split at A
   ·rename_i ah;simp only[Al1]at A;subst A;refine⟨.string ⟨(I++J).toArray⟩,?_,.str _⟩;have ab:¬ (((I.length+J.length:Nat):Int) > IntKind.i64.max):=by simp only[IntKind.max,IntKind.signed,IntKind.bits,if_true];omega
    rw[if_neg ab];rfl
   ·cases A
  all_goals (simp only[Al1]at A;subst A;exact⟨.bool _,rfl,.bool _⟩)
 obtain⟨v,hr,ac⟩:=key;refine zH ?_ ac;have aa:binOp op t (.string ⟨I.toArray⟩) (.string ⟨J.toArray⟩)=Op.stringOp op ⟨I.toArray⟩ ⟨J.toArray⟩:=by cases op<;>rfl
 simp only[execOp,ho,ae,ad,Sem.run_bind,zaD op t x y (.string _) _ (by simp) (by simp),Result.andThen_ok,aa,hr,Sem.run_pure]
def zzO{P:Program}{o:Oper}{op:BinOp}{neg:Bool}{t u:TypeId}{x y:Operand}{x' Y:Opd}(ho:o.op=.binOp op t x y u)(h:zN x x'=true)(aa:zN y Y=true)(Z:op=if neg then .neq else .eql)(ab:P.underlying t=some .bool):yV P o (.bb neg x' Y):=by
 intro γ w ρ a c U A;have W:=zr h U;have X:=zr aa U;simp only[pev]at A;cases ae:x'.ev ρ<;>simp only[ae]at A W<;>try (cases A;done)
 cases af:Y.ev ρ<;>simp only[af]at A X<;>try (cases A;done)
 rename_i I J;generalize ad:a.eval x=v at W;generalize ac:a.eval y=ag at X;cases W;cases X;simp only[Al1]at A;subst A;have U:(Op.equal t (.bool I) (.bool J)).run P w=.ok (I==J) w:=by unfold Op.equal Op.maxDepth;rw[Op.equalIn];simp[run_underlying ab]
 refine zH (v:=.bool (if neg=true then !(I==J)else I==J)) ?_ (.bool _);cases neg<;>simp only[Al7,if_false,if_true]at Z ⊢<;>subst Z <;> simp only[execOp,ho,ad,ac,Sem.run_bind,zaD _ t x y (.bool _) _ (by simp) (by simp),Result.andThen_ok,binOp,U,Sem.run_pure]
def zyi{P:Program}{o:Oper}{t:TypeId}{x:Operand}{x':Opd}(ho:o.op=.unOp .not t x)(h:zN x x'=true):yV P o (.not x'):=by
 intro γ w ρ a c J A;have I:=zr h J;simp only[pev]at A;cases W:x'.ev ρ<;>simp only[W]at A I<;>try (cases A;done)
 simp only[Al1]at A;subst A;generalize U:a.eval x=v at I;cases I;exact zH (v:=.bool _) (by simp[execOp,ho,U,Op.unary];done) (.bool _)
def zyZ{P:Program}{o:Oper}{s d:TypeId}{k:IntKind}{x:Operand}{x':Opd}{ds:TypeDesc}(ho:o.op=.convert s d x)(h:zN x x'=true)(W:P.underlying s=some ds)(J:P.underlying d=some (.int k)):
  yV P o (.cvi k x'):=by
 intro γ w ρ a c U A;have I:=zr h U;simp only[pev]at A;cases Y:x'.ev ρ<;>simp only[Y]at A I<;>try (cases A;done)
 simp only[Al1]at A;subst A;generalize X:a.eval x=v at I;cases I;refine zH (v:=.int k _) ?_ (.int _ _);simp[execOp,ho,X,convert,run_underlying W,run_underlying J,Conv.intToInt]
def zvI{P:Program}{o:Oper}{f:FuncId}{first caps:Array Operand}{I A:List Opd}(ho:o.op=.makeFunc (.func f) first caps)(h:zai first.toList I=true)(h':zai caps.toList A=true):
  yV P o (.mkfn f I A):=by
 intro γ w ρ a c U J;have W:=zcJ h U;have X:=zcJ h' U;simp only[pev,Al1]at J;subst J;refine zH (v:=.func (.func f) (first.toList.map a.eval).toArray (caps.toList.map a.eval).toArray) ?_ (.clo f _ _ _ _ W.1 X.1 W.2 X.2);have e:∀l:Array Operand,l.map a.eval=(l.toList.map a.eval).toArray:=λl=>by apply Array.ext';simp
 simp only[execOp,ho,Instr.makeFunc,Sem.run_bind,Sem.run_pure,Result.andThen_ok,e]
def zyN{P:Program}{o:Oper}{i:Nat}{x:Operand}{x':Opd}(ho:o.op=.extract x i)(h:zN x x'=true):yV P o (.ext x' i):=by
 intro γ w ρ a c U A;have I:=zr h U;simp only[pev]at A;cases Y:x'.ev ρ<;>simp only[Y]at A I<;>try (cases A;done)
 generalize X:a.eval x=v at I;cases I with
 | tup cs vs W hr =>
  have J:i<vs.length:=by rw[<-W];exact(zaB.1 A).1
  refine zH (v:=vs[i]) ?_ (hr i c _ A (Al9 J));simp[execOp,ho,X,Instr.extract,J]
def zaX:Option TypeDesc->Bool
 | some (.interface _)|none=>false
 | _=>true
def zxS{P:Program}{o:Oper}{t:TypeId}{x:Operand}{x':Opd}(ho:o.op=.makeInterface t x)(h:zN x x'=true)(U:zaX (P.underlying t)=true):yV P o (.mki t x'):=by
 intro γ w ρ a c J A;have W:=zr h J;simp only[pev,Al1]at A;subst A;refine zH (v:=.iface t (a.eval x)) ?_ (.ifc t _ _ W);cases I:P.underlying t with
 | none=>simp[I,zaX]at U
 | some d=>cases d<;>simp_all [execOp,Instr.makeInterface,run_underlying I,zaX]
def addr_add(b o n:Nat):(⟨b,o,none⟩:Addr).add n=⟨b,o+n,none⟩:=by unfold Addr.add;split<;>simp_all
def isIface:Option TypeDesc->Bool
 | some (.interface _)=>true
 | _=>false
def ztL{P:Program}{o:Oper}{op:BinOp}{neg:Bool}{t u:TypeId}{x y:Operand}{x':Opd}(ho:o.op=.binOp op t x y u)(J:op=if neg then .neq else .eql)(h:zN x x'=true)(U:y=.const .nilIface)(W:isIface (P.underlying t)=true):yV P o (.ifnil neg x'):=by
 intro γ w ρ a c Z A;have I:=zr h Z;simp only[pev]at A;obtain⟨ms,Y⟩:∃ms,P.underlying t=some (.interface ms):=by
  unfold isIface at W;split at W
  ·rename_i ms aa;exact⟨ms,aa⟩
  ·cases W
 subst U;have U:a.eval (.const .nilIface)=.nilIface:=rfl;cases ab:x'.ev ρ<;>simp only[ab]at A I<;>try (cases A;done)
 ·rename_i ad;cases ad<;>simp only[]at A<;>try (cases A;done)
  simp only[Al1]at A;subst A;generalize X:a.eval x=v at I;cases I;refine zH (v:=.bool !neg) ?_ (.bool _);have e:(Op.equalIn 10000 t .nilIface .nilIface).run P w=.ok true w:=by rw[Op.equalIn];simp[run_underlying Y]
  cases neg<;>simp only[Al7,if_false,if_true]at J<;>subst J <;> simp[execOp,ho,X,U,eqGuard,binOp,Op.equal,Op.maxDepth,Sem.run_bind,e,Sem.run_pure,Result.andThen]
 ·rename_i ac af;simp only[Al1]at A;subst A;generalize X:a.eval x=v at I;cases I;rename_i ae ag;refine zH (v:=.bool neg) ?_ (.bool _);have e:(Op.equalIn 10000 t (.iface ac ae) .nilIface).run P w=.ok false w:=by
   rw[Op.equalIn];simp[run_underlying Y]
  cases neg<;>simp only[Al7,if_false,if_true]at J<;>subst J <;> simp[execOp,ho,X,U,eqGuard,binOp,Op.equal,Op.maxDepth,Sem.run_bind,e,Sem.run_pure,Result.andThen]
def zyt{P:Program}{o:Oper}{ak t:TypeId}{zero:AV}{x:Operand}{x':Opd}{ab:TypeInfo}{z:Value}(ho:o.op=.typeAssert x ak t true)(h:zN x x'=true)(Y:zaX (P.underlying t)=true)(hi:P.info? t=some ab)(ag:ab.zero=some z)(ah:zoG z zero=true):yV P o (.tas t zero x'):=by
 intro γ w ρ a c ad A;have J:=zr h ad;simp only[pev]at A;obtain⟨d,I⟩:∃d,P.underlying t=some d:=by
  cases I:P.underlying t with
  | none=>simp[I,zaX]at Y
  | some d=>exact⟨d,rfl⟩
 have X:∀ms,d≠.interface ms:=λms e=>by subst e;simp[I,zaX]at Y
 have Z:=zjq ah γ w;have aa:(zeroValue t).run P w=.ok z w:=by simp[zeroValue,typeInfo,hi,ag]
 cases af:x'.ev ρ<;>simp only[af]at A J<;>try (cases A;done)
 ·rename_i aj;cases aj<;>simp only[]at A<;>try (cases A;done)
  simp only[Al1]at A;subst A;generalize W:a.eval x=v at J;cases J;refine zH (v:=.tuple #[z,.bool false]) ?_ (.tup _ [z,.bool false] rfl (zR.cons Z (zR.cons (.bool _) zR.nil)).2);cases d<;>first|exact absurd rfl (X _)|simp[execOp,ho,W,Instr.typeAssert,run_underlying I,Sem.run_bind,aa,Result.andThen]
 ·rename_i ai al;simp only[Al1]at A;subst A;generalize W:a.eval x=v at J;cases J;rename_i ac ae;by_cases U:ai=t
  ·simp only[U,if_true];refine zH (v:=.tuple #[ac,.bool true]) ?_ (.tup _ [ac,.bool true] rfl (zR.cons ae (zR.cons (.bool _) zR.nil)).2);cases d<;>first|exact absurd rfl (X _)|simp[execOp,ho,W,Instr.typeAssert,run_underlying I,Sem.run_bind,U,Result.andThen]
  ·simp only[U,if_false];refine zH (v:=.tuple #[z,.bool false]) ?_ (.tup _ [z,.bool false] rfl (zR.cons Z (zR.cons (.bool _) zR.nil)).2);cases d<;>first|exact absurd rfl (X _)|simp[execOp,ho,W,Instr.typeAssert,run_underlying I,Sem.run_bind,U,aa,Result.andThen]
def zzA{P:Program}{o:Oper}{s:TypeId}{x:Operand}{x':Opd}{i J:Nat}{Z:Array Field}{f:Field}{Y:TypeInfo}(ho:o.op=.fieldAddr s x i)(h:zN x x'=true)(ah:P.underlying s=some (.struct Z))(ae:Z[i]?=some f)(ag:f.offset=J)(hi:P.info? f.type=some Y)(ab:Y.size≠0):yV P o (.fa J x'):=by
 intro γ w ρ a c ad I;have W:=zr h ad;simp only[pev]at I;have aa:∀b A,a.eval x=.pointer (some ⟨b,A,none⟩)->(execOp a.eval o).run P w=.ok (.value (.pointer (some ⟨b,A+J,none⟩))) w:=by intro b A U;simp[execOp,ho,U,Instr.fieldAt,run_underlying ah,ae,Instr.sureAddr,fieldPlace,sizeOf,typeInfo,hi,ab,ag,addr_add]
 cases ai:x'.ev ρ<;>simp only[ai]at I W<;>try (cases I;done)
 ·rename_i b A;simp only[Al1]at I;subst I;generalize U:a.eval x=v at W;cases W with
  | ptr _ _ af=>exact zH (aa b A U) (.ptr b _ af)
 ·rename_i cs;simp only[Al1]at I;subst I;generalize U:a.eval x=v at W;cases W with
  | view cs b A cv ac hr =>
   refine zH (aa b A U) (.view _ b (A+J) (λj=>cv (J+j)) (λj X=>?_) (λj c X=>?_))
   ·have:=ac (J+j) (by simp at X;omega)
    rwa [<-Nat.add_assoc]at this
   ·rw[List.getElem?_drop]at X;exact hr (J+j) c X
def zk5(cs:List Value)(A n:Nat)(h:A+n<=cs.length):(cs.toArray.extract A (A+n))=((cs.drop A).take n).toArray:=by apply Array.ext';simp[List.extract_eq_take_drop]
def zjw{γ:Gh}{w:World}{cs:List AV}{vs:List Value}(U:cs.length=vs.length)(hr:∀(i:Nat) (c:AV) (v:Value),cs[i]?=some c->vs[i]?=some v->Rep γ w c v)(J n:Nat):
  ((cs.drop J).take n).length=((vs.drop J).take n).length /\
  ∀(i:Nat) (c:AV) (v:Value),((cs.drop J).take n)[i]?=some c->((vs.drop J).take n)[i]?=some v->Rep γ w c v:=by
 refine⟨by simp[U],λi c v A I=>?_⟩;rw[zns]at A I;split at A
 ·rename_i hi;rw[if_pos hi]at I;rw[List.getElem?_drop]at A I;exact hr _ c v A I
 ·cases A
def zev:Option TypeDesc->Bool
 | some (.struct _)|some (.array _ _)=>true
 | _=>false
def zeV{P:Program}{w:World}{t:TypeId}{d:TypeDesc}(h:P.underlying t=some d):(isAgg t).run P w=.ok (zev (P.underlying t)) w:=by unfold isAgg;rw[Sem.run_bind,run_underlying h w,h];cases d<;>rfl
def ztJ{γ:Gh}{w:World}{cs:List AV}{vs:List Value}(X:cs.length=vs.length)(J:∀(i:Nat) (v:Value),vs[i]?=some v->v.oneCell'=true)(hr:∀(i:Nat) (c:AV) (v:Value),cs[i]?=some c->vs[i]?=some v->Rep γ w c v)(I n:Nat):
  Rep γ w (.agg ((cs.drop I).take n)) (.agg ((vs.drop I).take n).toArray):=by
 obtain⟨U,W⟩:=zjw X hr I n;refine .agg _ _ U (λi v A=>?_) W;rw[zns]at A;split at A
 ·rw[List.getElem?_drop]at A;exact J _ v A
 ·cases A
def zx1{P:Program}{o:Oper}{t:TypeId}{x:Operand}{x':Opd}{i A n:Nat}{J:Bool}{Y:Array Field}{f:Field}{X:TypeInfo}{d:TypeDesc}(ho:o.op=.field t x i)(h:zN x x'=true)(af:P.underlying t=some (.struct Y))(ab:Y[i]?=some f)(ae:f.offset=A)(hi:P.info? f.type=some X)(al:X.size=n)(aa:P.underlying f.type=some d)(Z:zev (P.underlying f.type)=J)(U:J=true∨n=1):yV P o (.fld A n J x'):=by
 intro γ w ρ a c aj I;have W:=zr h aj;simp only[pev]at I;cases ao:x'.ev ρ<;>simp only[ao]at I W<;>try (cases I;done)
 split at I
 ·rename_i cs ap;simp only[Al1]at I;subst I;generalize ag:a.eval x=v at W;cases W with
  | agg _ vs ak an hr =>
   cases J with
   | true =>refine zH (v:=.agg ((vs.drop A).take n).toArray) ?_ (by simpa[mk]using ztJ ak an hr A n);have hex:=zk5 vs A n (by omega);simp only[execOp,ho,ag,Instr.field,Sem.run_bind,run_underlying af,Result.andThen_ok,ab,asAgg,Sem.run_pure,part,zeV aa,Z,if_true,sizeOf,typeInfo,run_program,hi,ae,al,hex]
   | false =>
    have am:n=1:=by rcases U with U|U<;>simp_all
    subst am;have ac:A<vs.length:=by omega
    have ad:A<cs.length:=by omega
    have ah:mk false ((cs.drop A).take 1)=cs[A]:=by show (List.take 1 (List.drop A cs)).headD .any=_;rw[List.drop_eq_getElem_cons ad];rfl
    rw[ah];refine zH (v:=vs[A]) ?_ (hr A _ _ (Al9 ad) (Al9 ac));have ai:vs.toArray[A]?=some vs[A]:=by simp[ac]
    simp only[execOp,ho,ag,Instr.field,Sem.run_bind,run_underlying af,Result.andThen_ok,ab,asAgg,Sem.run_pure,part,zeV aa,Z,Al7,if_false,ae,ai]
 ·cases I
def zAu{P:Program}{o:Oper}{t e:TypeId}{x y:Operand}{x' ac:Opd}{sz:Nat}{ad:TypeInfo}(ho:o.op=.indexAddr t x y)(h:zN x x'=true)(aj:zN y ac=true)(aq:P.underlying t=some (.slice e))(hi:P.info? e=some ad)(hsz:ad.size=sz):yV P o (.ia sz x' ac):=by
 intro γ w ρ a c ae A;have Y:=zr h ae;have Z:=zr aj ae;simp only[pev]at A;have ah:∀b I len cap k (n:Int),a.eval x=.slice (some ⟨b,I,none⟩) len cap->a.eval y=.int k n->0<=n->n<len->(execOp a.eval o).run P w=.ok (.value (.pointer (some ⟨b,I+n.toNat*sz,none⟩))) w:=by intro b I len cap k n X W U J;have an:0<=n/\n<(len:Int):=⟨U,J⟩;simp[execOp,ho,X,W,Instr.indexAt,asIntOf,run_underlying aq,an,sizeOf,typeInfo,hi,hsz,addr_add]
 cases au:x'.ev ρ<;>simp only[au]at A Y<;>try (cases A;done)
 all_goals (cases av:ac.ev ρ<;>simp only[av]at A Z<;>try (cases A;done))
 ·rename_i own ai xs k n;split at A
  ·rename_i aa;obtain⟨rfl,U,J⟩:=aa;simp only[Al1]at A;subst A;generalize X:a.eval x=v at Y;generalize W:a.eval y=aw at Z;cases Z;cases Y with
   | slnil _ _ _=>simp at J;omega
   | sl0 _ _ _ _=>simp at J;omega
   | sl _ _ _ b I cap cv al ap ar am hr ax =>
    have ag:n.toNat<xs.length:=by omega
    have ab:xs[n.toNat]?=some xs[n.toNat]:=Al9 ag;have ao:xs.getD n.toNat []=xs[n.toNat]:=by simp[List.getD,ab]
    rw[ao];have hlen:(xs[n.toNat]).length=ai:=ar _ (List.getElem_mem ag);refine zH (ah b I _ cap k n X W U J) (.view _ b (I+n.toNat*ai) (cv n.toNat) (λj af=>?_) (λj c af=>hr _ _ ab j c af));have:=am n.toNat _ ab j (by omega)
    rwa [<-Nat.add_assoc]at this
  ·cases A
 ·rename_i b I len cap k n;split at A
  ·rename_i aa;obtain⟨U,J⟩:=aa;simp only[Al1]at A;subst A;generalize X:a.eval x=v at Y;generalize W:a.eval y=aw at Z;cases Z;cases Y with
   | ms _ _ _ _ ak al ap=>exact zH (ah b I len cap k n X W U J) (.ptr b _ ak)
  ·cases A
def zyw{P:Program}{o:Oper}{t:TypeId}{x y:Operand}{x' U:Opd}(ho:o.op=.index t x y)(h:zN x x'=true)(Z:zN y U=true)(ad:P.underlying t=some .string):yV P o (.ixs x' U):=by
 intro γ w ρ a c W A;have I:=zr h W;have J:=zr Z W;simp only[pev]at A;cases ag:x'.ev ρ<;>simp only[ag]at A I<;>try (cases A;done)
 cases ah:U.ev ρ<;>simp only[ah]at A J<;>try (cases A;done)
 rename_i s k n;split at A
 ·rename_i ac;obtain⟨Y,ai⟩:=ac;simp only[Al1]at A;subst A;generalize af:a.eval x=v at I;generalize ae:a.eval y=aj at J;cases I;cases J;have X:n.toNat<s.length:=by omega
  have aa:(ByteArray.mk s.toArray)[n.toNat]?=some s[n.toNat]:=by rw[getElem?_pos _ _ (by rw[ze1];exact X)];rfl
  have ab:s.getD n.toNat 0=s[n.toNat]:=by simp[List.getD,X]
  rw[ab];refine zH (v:=.int .u8 _) ?_ (.int _ _);simp[execOp,ho,af,ae,Instr.index,asIntOf,run_underlying ad,Y,aa]
 ·cases A
def zme(s:List UInt8)(l h:Nat)(A:h<=s.length):(ByteArray.mk s.toArray).extract l h=ByteArray.mk ((s.take h).drop l).toArray:=by apply ByteArray.ext;apply Array.ext';simp[ByteArray.data_extract,List.extract_eq_take_drop,List.drop_take]
def zcB{P:Program}{w:World}{γ:Gh}{ρ:Env}{a:Act}{x:Operand}{y:Opd}{d:Nat}{n:Int}(hr:Rep γ w (y.ev ρ) (a.eval x))(h:bound d ρ (some y)=some n):
  ∃k,a.eval x=.int k n:=by
 unfold bound at h;simp only at h;cases A:y.ev ρ<;>simp only[A]at h hr<;>try (cases h;done)
 simp only[Al1]at h;subst h;generalize I:a.eval x=v at hr;cases hr;exact⟨_,rfl⟩
def zbK:Option Operand->Option Opd->Bool
 | none,none=>true
 | some x,some y=>zN x y
 | _,_=>false
def Yi{P:Program}{w:World}(k:IntKind)(n:Int)(y:Nat)(code:BoundsCode)(A:0<=n)(I:n<=y):(Instr.sliceBound (.int k n) y code).run P w=.ok n.toNat w:=by have J:0<=n/\n<=(y:Int):=⟨A,I⟩;simp[Instr.sliceBound,asIntOf,J]
def zd9{P:Program}{w:World}{γ:Gh}{ρ:Env}{a:Act}(isSlice:Bool)(len cap:Nat){lo hi:Option Operand}{U J:Option Opd}(Z:zbK lo U=true)(X:zbK hi J=true)(ad:EnvRel γ w ρ a.tmps){l h:Int}(ag:bound 0 ρ U=some l)(ae:bound len ρ J=some h)(aj:0<=l)(ak:l<=h)(al:h<=len)(am:len<=cap):
  (Instr.sliceBounds isSlice len cap (lo.map a.eval) (hi.map a.eval) none).run P w=.ok (l.toNat,h.toNat,cap) w:=by
 have ah:∀(v:Value),hi.map a.eval=some v->∃k,v=.int k h:=by
  intro v A;cases hi with
  | none=>cases A
  | some x =>
   cases J with
   | none=>cases X
   | some y =>simp only[ZS,Al1]at A;obtain⟨k,Y⟩:=zcB (P:=P) (zr X ad) ae;exact⟨k,A▸Y⟩
 have ab:∀(v:Value),lo.map a.eval=some v->∃k,v=.int k l:=by
  intro v A;cases lo with
  | none=>cases A
  | some x =>
   cases U with
   | none=>cases Z
   | some y =>simp only[ZS,Al1]at A;obtain⟨k,Y⟩:=zcB (P:=P) (zr Z ad) ag;exact⟨k,A▸Y⟩
 have ai:hi.map a.eval=none->h=len:=by
  intro A;cases hi with
  | some x=>cases A
  | none =>
   cases J with
   | some y=>cases X
   | none=>simpa[bound]using ae.symm
 have ac:lo.map a.eval=none->l=0:=by
  intro A;cases lo with
  | some x=>cases A
  | none =>
   cases U with
   | some y=>cases Z
   | none=>simpa[bound]using ag.symm
 have aa:∀k code,(Instr.sliceBound (.int k h) cap code).run P w=.ok h.toNat w:=λk code=>Yi k h cap code (by omega) (by omega);have W:∀k code,(Instr.sliceBound (.int k l) h.toNat code).run P w=.ok l.toNat w:=λk code=>Yi k l _ code aj (by omega);unfold Instr.sliceBounds;cases af:hi.map a.eval with
 | none =>
  have:=ai af;subst this;cases I:lo.map a.eval with
  | none=>have:=ac I;subst this;simp
  | some v=>obtain⟨k,rfl⟩:=ab v I;simp at W;simp[W]
 | some u =>
  obtain⟨an,rfl⟩:=ah u af;cases I:lo.map a.eval with
  | none=>have:=ac I;subst this;simp[aa]
  | some v=>obtain⟨k,rfl⟩:=ab v I;simp[aa,W]
def zxu{P:Program}{o:Oper}{t:TypeId}{x:Operand}{lo hi:Option Operand}{x':Opd}{W U:Option Opd}(ho:o.op=.slice t x lo hi none)(h:zN x x'=true)(ag:zbK lo W=true)(ae:zbK hi U=true)(ah:P.underlying t=some .string):yV P o (.sls x' W U):=by
 intro γ w ρ a c Y A;have X:=zr h Y;simp only[pev]at A;cases ai:x'.ev ρ<;>simp only[ai]at A X<;>try (cases A;done)
 rename_i s;cases I:bound 0 ρ W with
 | none=>simp only[I]at A;cases A
 | some l =>
  cases J:bound s.length ρ U with
  | none=>simp only[I,J]at A;cases A
  | some Z =>
   simp only[I,J]at A;split at A
   ·rename_i af;obtain⟨aa,ab,ac⟩:=af;simp only[Al1]at A;subst A;generalize Z:a.eval x=v at X;cases X;refine zH (v:=.string _) ?_ (.str _);have ad:=zd9 (P:=P) false s.length s.length ag ae Y I J aa ab ac (Al4 _);simp only[execOp,ho,Z,Instr.sliceAt,Sem.run_bind,run_underlying ah,Result.andThen_ok,Instr.slice,Option.map_none,Option.isSome_none,Al7,if_false,Sem.run_pure,ze1,ad];rw[zme _ _ _ (by omega)]
   ·cases A
def zpD{P:Program}{w:World}{o:Oper}{a:Act}{ts:Array TypeId}{x:Operand}(ho:o.op=.call { callee:=.builtin .len,args:=#[x],argTypes:=ts }){v:Value}{n:Int}(A:a.eval x=v)(hr:(Builtin.len_ ts o.type #[v]).run P w=.ok (.int .i64 n) w):(execOp a.eval o).run P w=.ok (.value (.int .i64 n)) w:=by
 simp[execOp,ho,resolve,invoke,builtin,A,hr]
def zvs{P:Program}{o:Oper}{t:TypeId}{ts:Array TypeId}{x:Operand}{x':Opd}(ho:o.op=.call { callee:=.builtin .len,args:=#[x],argTypes:=ts })(W:ts[0]?=some t)(h:zN x x'=true)(U:P.underlying t=some .string):yV P o (.lens x'):=by
 intro γ w ρ a c J A;have I:=zr h J;simp only[pev]at A;cases Y:x'.ev ρ<;>simp only[Y]at A I<;>try (cases A;done)
 simp only[Al1]at A;subst A;generalize X:a.eval x=v at I;cases I;exact zH (zpD ho X (by simp[Builtin.len_,W,run_underlying U,goInt,ze1])) (.int _ _)
def zx9{P:Program}{o:Oper}{t e:TypeId}{ts:Array TypeId}{x:Operand}{x':Opd}(ho:o.op=.call { callee:=.builtin .len,args:=#[x],argTypes:=ts })(W:ts[0]?=some t)(h:zN x x'=true)(U:P.underlying t=some (.slice e)):yV P o (.len x'):=by
 intro γ w ρ a c J A;have I:=zr h J;simp only[pev]at A;cases Y:x'.ev ρ<;>simp only[Y]at A I<;>try (cases A;done)
 all_goals simp only[Al1]at A
 all_goals subst A
 all_goals generalize X:a.eval x=v at I
 all_goals cases I
 all_goals exact zH (zpD ho X (by simp[Builtin.len_,W,run_underlying U,goInt])) (.int _ _)
def Yn(F:Nat->Prop)(γ:Gh)(w:World)(k:BK)(c:Array Value)(t:TypeId):
  Ext F γ w (λb=>if b=w.heap.size then k else γ b) (w.alloc (.cells c t)):=by
 have U:∀b,b<w.heap.size->b≠w.heap.size:=λb h=>Nat.ne_of_lt h;refine⟨⟨by simp,λb o v J W=>?_,λb arr E fr A=>?_⟩,rfl,rfl,λa _=>RowKit.frozen?_alloc_cells w c t a,λb A _=>⟨by simp[U b A],heap_alloc_old w _ A⟩⟩
 ·have I:=World.block_lt_of_cell? w _ J;refine⟨by simpa[za3,U b I]using W,?_⟩;rw[World.cell?_alloc_lt _ _ _ I];exact J
 ·have I:=(zdF.1 A).1;exact⟨arr,by rw[heap_alloc_old w _ I];exact A,rfl⟩
def YA(F:Nat->Prop)(γ:Gh)(w:World):Ext F γ w γ w.drew :=⟨⟨Al4 _,λb o v I J=>⟨J,I⟩,λb arr E fr A=>⟨arr,A,rfl⟩⟩,rfl,rfl,λ_ _=>rfl,λb A _=>⟨rfl,rfl⟩⟩
def zvl{P:Program}{o:Oper}{t:TypeId}{x:Operand}{x':Opd}(ho:o.op=.box t x)(h:zN x x'=true):yV P o (.boxv x'):=by
 intro γ w ρ a c ab A;have ac:=zr h ab;simp only[pev]at A;split at A
 ·rename_i aa;simp only[Al1]at A;subst A;obtain⟨Y,Z,hr⟩:=ac.cells aa;have X:=Yn (λ_=>False) γ w .imm (a.eval x).cells t;refine⟨.pointer (some ⟨w.heap.size,0,none⟩),_,_,?_,X,?_⟩
  ·simp[execOp,ho,Instr.box,newVar,newRow]
  ·refine .view _ w.heap.size 0 (λj=>(a.eval x).cells.toList.getD j undef) (λj J=>?_) (λj d W=>?_)
   ·rw[Y]at J;have I:(a.eval x).cells.toList[j]?=some (a.eval x).cells.toList[j]:=Al9 J;have U:(a.eval x).cells.toList.getD j undef=(a.eval x).cells.toList[j]:=by simp[List.getD,I]
    rw[U];refine⟨?_,by simp[za3],Z j _ I⟩;rw[World.cell?_alloc_new];simp
   ·have J:j<(a.eval x).cells.toList.length:=by rw[<-Y];exact(zaB.1 W).1
    have I:(a.eval x).cells.toList[j]?=some (a.eval x).cells.toList[j]:=Al9 J;have U:(a.eval x).cells.toList.getD j undef=(a.eval x).cells.toList[j]:=by simp[List.getD,I]
    rw[U];exact(hr j d _ W I).mono X.mono
 ·cases A
def zsC{P:Program}{w:World}{γ:Gh}{ρ:Env}{a:Act}{mx:Bool}{k:IntKind}(U:EnvRel γ w ρ a.tmps):∀(I:List Operand) (J:List Opd) (n m:Int),zai I J=true->zdx mx k ρ n J=some m ->
  ((I.map a.eval).foldlM (if mx then Builtin.max2 else Builtin.min2) (.int k n)).run P w=.ok (.int k m) w
 | [],[],n,m,_,hm=>by simp only[zdx,Al1]at hm;subst hm;rfl
 | [],_::_,_,_,h,_=>by simp[zai]at h
 | _::_,[],_,_,h,_=>by simp[zai]at h
 | y::I,y'::J,n,m,h,hm=>by
  simp only[zai,Al0]at h;have r:=zr h.1 U;simp only[zdx]at hm;cases Y:y'.ev ρ<;>simp only[Y]at hm r<;>try (cases hm;done)
  rename_i Z b;split at hm
  ·rename_i W;subst W;generalize X:a.eval y=v at r;cases r;have A:=zsC (P:=P) U I J _ m h.2 hm;simp only[List.map_cons,List.foldlM_cons,X];cases mx
   ·simp only[Al7,if_false]at A ⊢;simp only[Sem.run_bind,Builtin.min2,Sem.run_pure,Result.andThen_ok];simpa[mm2]using A
   ·simp only[if_true]at A ⊢;simp only[Sem.run_bind,Builtin.max2,Sem.run_pure,Result.andThen_ok];simpa[mm2]using A
  ·cases hm
def zBa{P:Program}{o:Oper}{ts:Array TypeId}{mx:Bool}{x:Operand}{I:List Operand}{x':Opd}{J:List Opd}{args:Array Operand}(ho:o.op=.call { callee:=.builtin (if mx then .max else .min),args:=args,argTypes:=ts })(aa:args.toList=x::I)(h:zN x x'=true)(Z:zai I J=true):yV P o (.mm mx x' J):=by
 intro γ w ρ a c Y A;have W:=zr h Y;simp only[pev]at A;cases ac:x'.ev ρ<;>simp only[ac]at A W<;>try (cases A;done)
 rename_i k n;generalize ab:a.eval x=v at W;cases W;cases U:zdx mx k ρ n J with
 | none=>simp[U]at A
 | some m =>
  simp only[U,ZS,Al1]at A;subst A;refine zH (v:=.int k m) ?_ (.int _ _);have hr:=zsC (P:=P) (mx:=mx) Y I J n m Z U;have X:args.toList.map a.eval=.int k n::I.map a.eval:=by rw[aa];simp[ab]
  cases mx
  ·simp only[Al7,if_false]at ho hr;simp[execOp,ho,resolve,invoke,builtin,Builtin.min_,X,hr]
  ·simp only[if_true]at ho hr;simp[execOp,ho,resolve,invoke,builtin,Builtin.max_,X,hr]
def K1.isTy(P:Program)(k:K1)(t:TypeId):Bool :=
 match k,P.underlying t with
 | .b,some .bool=>true
 | .s,some .string=>true
 | .i k,some (.int k')=>decide (k=k')
 | _,_=>false
def zbF (P:Program):List Field->Nat->List K1->Bool
 | [],_,[]=>true
 | f :: fs, off, k :: ks => f.name != "_" && f.offset == off && k.isTy P f.type && zbF P fs (off + 1) ks
 | _,_,_=>false
def ZY{P:Program}{k:K1}{t:TypeId}(h:k.isTy P t=true)(w:World):(isAgg t).run P w=.ok false w:=by
 cases A:P.underlying t with
 | none=>cases k<;>simp[K1.isTy,A]at h
 | some d =>rw[zeV A,A];cases k<;>cases d<;>simp_all [K1.isTy,zev]
def zgt{P:Program}{w:World}{γ:Gh}{k:K1}{t:TypeId}{c d:AV}{u v:Value}(W:k.isTy P t=true)(J:k.fits c=true)(U:k.fits d=true)(X:Rep γ w c u)(rd:Rep γ w d v)(n:Nat):
  (Op.equalIn (n+1) t u v).run P w=.ok (c.keq1 d) w:=by
 cases k with
 | b =>
  have A:P.underlying t=some .bool:=by
   cases I:P.underlying t with
   | none=>simp[K1.isTy,I]at W
   | some x=>cases x<;>simp_all [K1.isTy]
  cases c<;>simp[K1.fits]at J;cases d<;>simp[K1.fits]at U;cases X;cases rd;rw[run_equalIn_bool' w n t _ _ A];rfl
 | s =>
  have A:P.underlying t=some .string:=by
   cases I:P.underlying t with
   | none=>simp[K1.isTy,I]at W
   | some x=>cases x<;>simp_all [K1.isTy]
  cases c<;>simp[K1.fits]at J;cases d<;>simp[K1.fits]at U;cases X;cases rd;rw[run_equalIn_string w n t _ _ A,zeU,zeU];rfl
 | i k =>
  have A:P.underlying t=some (.int k):=by
   cases I:P.underlying t with
   | none=>simp[K1.isTy,I]at W
   | some x=>cases x<;>simp_all [K1.isTy]
  cases c<;>simp[K1.fits]at J;cases d<;>simp[K1.fits]at U;subst J;subst U;cases X;cases rd;rw[run_equalIn_int w n t _ _ _ _ A];rfl
def zda{P:Program}{w:World}{γ:Gh}(n:Nat)(xs U:Array Value):∀(J:List Field) (A:Nat) (I:List K1) (as bs:List AV),zbF P J A I=true->zX I as=true->zX I bs=true ->
  (∀i c,as[i]?=some c->∃v,xs[A+i]?=some v/\Rep γ w c v)->(∀i c,bs[i]?=some c->∃v,U[A+i]?=some v/\Rep γ w c v) ->
  (Op.eqFields (n+1) xs U J).run P w=.ok (zcS as bs) w
 | [],_,[],[],[],_,_,_,_,_=>rfl
 | [],_,[],_::_,_,_,h,_,_,_=>by simp[zX]at h
 | [],_,[],[],_::_,_,_,h,_,_=>by simp[zX]at h
 | [],_,_::_,_,_,h,_,_,_,_=>by simp[zbF]at h
 | _::_,_,[],_,_,h,_,_,_,_=>by simp[zbF]at h
 | _::_,_,_::_,[],_,_,h,_,_,_=>by simp[zX]at h
 | _::_,_,_::_,_::_,[],_,_,h,_,_=>by simp[zX]at h
 | f::J,A,k::I,a::as,b::bs,hf,ha,hb,hx,hy=>by
  simp only[zbF,Al0,bne_iff_ne,ne_eq,beq_iff_eq]at hf;obtain⟨⟨⟨ad,Z⟩,X⟩,ae⟩:=hf;simp only[zX,Al0]at ha hb;obtain⟨u,aa,ai⟩:=hx 0 a rfl;obtain⟨v,ab,aj⟩:=hy 0 b rfl;simp only[Nat.add_zero]at aa ab;have af:=zda n xs U J (A+1) I as bs ae ha.2 hb.2
   (λi c W=>by have:=hx (i+1) c (by simpa using W);rwa [show A+(i+1)=A+1+i by omega]at this)
   (λi c W=>by have:=hy (i+1) c (by simpa using W);rwa [show A+(i+1)=A+1+i by omega]at this)
  have ag:(part f.type xs f.offset).run P w=.ok u w:=by simp[part,ZY X,Z,aa]
  have ah:(part f.type U f.offset).run P w=.ok v w:=by simp[part,ZY X,Z,ab]
  have ac:=zgt X ha.1 hb.1 ai aj n;simp only[Op.eqFields,ad,not_false_eq_true,ne_eq,if_true,Sem.run_bind,ag,ah,ac,Result.andThen_ok];cases Y:a.keq1 b
  ·simp[zcS,Y]
  ·simp[zcS,Y,af]
def zyU{P:Program}{o:Oper}{op:BinOp}{neg:Bool}{t u:TypeId}{x y:Operand}{x' Y:Opd}{J:List K1}{I:Array Field}(ho:o.op=.binOp op t x y u)(h:zN x x'=true)(ad:zN y Y=true)(ab:op=if neg then .neq else .eql)(ac:P.underlying t=some (.struct I))(ai:zbF P I.toList 0 J=true)(al:P.stoodInHeld t=false)(ae:P.eqGuardType P.depth t=false):yV P o (.eqa neg J x' Y):=by
 intro γ w ρ a c Z A;have U:=zr h Z;have W:=zr ad Z;simp only[pev]at A;cases aq:x'.ev ρ<;>simp only[aq]at A U<;>try (cases A;done)
 cases ar:Y.ev ρ<;>simp only[ar]at A W<;>try (cases A;done)
 rename_i as bs;split at A
 ·rename_i af;obtain⟨ag,ah⟩:=af;simp only[Al1]at A;subst A;generalize ap:a.eval x=v at U;generalize ao:a.eval y=aw at W;cases U with
  | agg _ vs aj au hr =>
   cases W with
   | agg _ X ak av am =>
    have aa:P.fieldsOf t=I:=by simp[Program.fieldsOf,ac]
    have an:(Op.equalIn 10000 t (.agg vs.toArray) (.agg X.toArray)).run P w=.ok (zcS as bs) w:=by
     rw[run_equalIn_struct w 9999 t _ _ (by rw[aa];exact ac) al,aa];refine zda (γ:=γ) 9998 _ _ I.toList 0 J as bs ai ag ah (λi c A=>?_) (λi c A=>?_)
     ·have hi:i<vs.length:=by rw[<-aj];exact(zaB.1 A).1
      exact⟨vs[i],by simp[hi],hr i c _ A (Al9 hi)⟩
     ·have hi:i<X.length:=by rw[<-ak];exact(zaB.1 A).1
      exact⟨X[i],by simp[hi],am i c _ A (Al9 hi)⟩
    refine zH (v:=.bool (if neg=true then !zcS as bs else zcS as bs)) ?_ (.bool _);cases neg<;>simp only[Al7,if_false,if_true]at ab ⊢<;>subst ab <;> simp only[execOp,ho,ap,ao,Sem.run_bind,run_eqGuard_agg w _ t x y _ _ ae,Result.andThen_ok,run_eql_struct,run_neq_struct,an,Sem.run_pure]
 ·cases A
def zgw(vs:Array Value):∀(A:Nat) (cs:List Value),A+vs.size<=cs.length ->
  (vs.zipIdx.foldl (λcs (c,j)=>cs.setIfInBounds (A+j) c) cs.toArray)=(cs.take A++vs.toList++cs.drop (A+vs.size)).toArray:=by
 obtain⟨l⟩:=vs;intro A cs h;simp only[List.size_toArray]at h;have key:∀(l:List Value) (k A:Nat) (cs:List Value),A+k+l.length<=cs.length ->
   ((l.zipIdx k).foldl (λ(cs:Array Value) (x:Value×Nat)=>cs.setIfInBounds (A+x.2) x.1) cs.toArray)=(cs.take (A+k)++l++cs.drop (A+k+l.length)).toArray:=by
  intro l;induction l with
  | nil=>intro k A cs h;simp
  | cons x l W =>
   intro k A cs h;simp only[Al2]at h;simp only[List.zipIdx_cons,List.foldl_cons,List.setIfInBounds_toArray];rw[W (k+1) A _ (by simp;omega)]
   congr 1
   have I:(cs.set (A+k) x).take (A+(k+1))=cs.take (A+k)++[x]:=by rw[show A+(k+1)=A+k+1 by omega,List.take_succ_eq_append_getElem (by simp;omega)];rw[List.take_set_of_le (by omega)];simp
   have J:(cs.set (A+k) x).drop (A+(k+1)+l.length)=cs.drop (A+k+(l.length+1)):=by
    rw[List.drop_set_of_lt (by omega)]
    congr 1
    omega
   rw[I,J];simp
 have:=key l 0 A cs (by omega);have U:(l.toArray.zipIdx)=(l.zipIdx 0).toArray:=by simp
 rw[U,List.foldl_toArray']
 ·simpa using this
 ·simp
def zv(γ:Gh)(w:World)(cs:List AV)(vs:List Value):Prop :=cs.length=vs.length/\(∀(i:Nat) (v:Value),vs[i]?=some v->v.oneCell'=true)/\∀(i:Nat) (c:AV) (v:Value),cs[i]?=some c->vs[i]?=some v->Rep γ w c v
def zv.append{γ:Gh}{w:World}{cs ds:List AV}{vs us:List Value}(h:zv γ w cs vs)(h':zv γ w ds us):zv γ w (cs++ds) (vs++us) :=
 ⟨by simp[h.1,h'.1],λi u A=>by
   rcases Nat.lt_or_ge i vs.length with hi|hi
   ·rw[zeA hi]at A;exact h.2.1 i u A
   ·rw[zhT hi]at A;exact h'.2.1 _ u A,
  λi d u I A=>by
   rcases Nat.lt_or_ge i cs.length with hi|hi
   ·rw[zeA hi]at I;rw[zeA (by rw[<-h.1];exact hi)]at A;exact h.2.2 i d u I A
   ·rw[zhT hi]at I;rw[zhT (by rw[<-h.1];exact hi),<-h.1]at A;exact h'.2.2 _ d u I A⟩
def zv.take{γ:Gh}{w:World}{cs:List AV}{vs:List Value}(h:zv γ w cs vs)(n:Nat):zv γ w (cs.take n) (vs.take n) :=
 ⟨by simp[h.1],λi u A=>(by
   rw[zns]at A;split at A
   ·exact h.2.1 i u A
   ·cases A),
  λi d u I A=>by
   rw[zns]at I A;split at I
   ·rename_i hi;rw[if_pos hi]at A;exact h.2.2 i d u I A
   ·cases I⟩
def zv.drop{γ:Gh}{w:World}{cs:List AV}{vs:List Value}(h:zv γ w cs vs)(n:Nat):zv γ w (cs.drop n) (vs.drop n) :=⟨by simp[h.1],λi u A=>by rw[List.getElem?_drop]at A;exact h.2.1 _ u A,λi d u I A=>by rw[List.getElem?_drop]at I A;exact h.2.2 _ d u I A⟩
def zv.splice{γ:Gh}{w:World}{cs ds:List AV}{vs us:List Value}(h:zv γ w cs vs)(h':zv γ w ds us)(A:Nat):
  zv γ w (splice cs A ds) (vs.take A++us++vs.drop (A+us.length)):=by
 unfold Ab.splice;rw[h'.1];exact((h.take A).append h').append (h.drop _)
def zbN(place:Nat->Option (Nat×Nat)):List (Nat×Operand)->List (Nat×Nat×Opd)->Bool
 | [],[]=>true
 | (i,x)::r,(off,n,y)::s=>decide (place i=some (off,n))&&zN x y&&zbN place r s
 | _,_=>false
def zmf{γ:Gh}{w:World}{ρ:Env}{a:Act}(place:Nat->Option (Nat×Nat))(J:EnvRel γ w ρ a.tmps):∀(ps:List (Nat×Operand)) (A:List (Nat×Nat×Opd)) (cs:List AV) (vs:List Value) (ds:List AV),
  zbN place ps A=true->zdB ρ cs A=some ds->zv γ w cs vs ->
  ∃I,Instr.fill place vs.toArray (ps.map λ(i,x)=>(i,a.eval x))=some I.toArray/\zv γ w ds I
 | [],[],cs,vs,ds,_,hd,hr=>by simp only[zdB,Al1]at hd;subst hd;exact⟨vs,rfl,hr⟩
 | [],_::_,_,_,_,h,_,_=>by simp[zbN]at h
 | _::_,[],_,_,_,h,_,_=>by simp[zbN]at h
 | (i,x)::ps,(off,n,y)::A,cs,vs,ds,h,hd,hr=>by
  simp only[zbN,Al0,z6]at h;obtain⟨⟨ab,af⟩,ac⟩:=h;simp only[zdB]at hd;split at hd
  ·rename_i Z;obtain⟨hlen,ag,Y⟩:=Z;obtain⟨U,W,X⟩:=(zr af J).cells Y;have hsz:(a.eval x).cells.size=n:=by rw[<-hlen,U];simp
   obtain⟨I,ae,ad⟩:=zmf place J ps A _ _ ds ac hd (hr.splice ⟨U,W,X⟩ off);refine⟨I,?_,ad⟩;simp only[List.map_cons,Instr.fill,ab];have aa:¬ ((decide ((a.eval x).cells.size≠n)||decide (off+(a.eval x).cells.size > vs.toArray.size))=true):=by simp[hsz,<-hr.1];omega
   rw[if_neg aa,zgw _ off vs (by rw[hsz,<-hr.1];omega)];simpa using ae
  ·cases hd
def yE(sz:Nat):∀(xs:List (List AV)),(∀x∈xs,x.length=sz)->xs.flatten.length=xs.length*sz
 | [],_=>by simp
 | x::xs,h=>by have J:=yE sz xs λy I=>h y (zbR _ I);have A:=h x (zaW ..);simp only[List.flatten_cons,Al5,J,A,Al2,Nat.add_mul];omega
def zek(sz:Nat):∀(xs:List (List AV)) (i j:Nat),(∀x∈xs,x.length=sz)->j<sz->xs.flatten[i*sz+j]?=(xs[i]?).bind (·[j]?)
 | [],i,j,_,_=>by simp
 | x::xs,0,j,h,hj=>by have A:=h x (zaW ..);simp only[Nat.zero_mul,Nat.zero_add,List.flatten_cons,List.getElem?_cons_zero,Option.bind_some];rw[zeA (by omega)]
 | x::xs,i+1,j,h,hj=>by
  have A:=h x (zaW ..);have J:=zek sz xs i j (λy I=>h y (zbR _ I)) hj;simp only[List.flatten_cons,List.getElem?_cons_succ];rw[zhT (by rw[A,Nat.add_mul];omega),A,<-J]
  congr 1
  rw[Nat.add_mul];omega
def Rep.sl_flat{γ:Gh}{w:World}{o:Own}{sz:Nat}{xs:List (List AV)}{us:List Value}{b W cap:Nat}(U:∀x∈xs,x.length=sz)(ab:xs.flatten.length=us.length)(ae:∀(k:Nat) (u:Value),us[k]?=some u->CellIs γ w b (W+k) u)(ad:∀(k:Nat) (c:AV) (u:Value),xs.flatten[k]?=some c->us[k]?=some u->Rep γ w c u)(aa:xs.length<=cap)(ac:cap<=maxLen)(ho:zd6 w o ⟨b,W,none⟩ xs.length cap sz):Rep γ w (.sl o sz xs) (.slice (some ⟨b,W,none⟩) xs.length cap):=by
 have hlen:=yE sz xs U;have X:∀i x,xs[i]?=some x->∀j,j<sz->∃u,us[i*sz+j]?=some u:=by
  intro i x A j I;have hi:i<xs.length:=(zaB.1 A).1;have Z:i*sz+j<us.length:=by rw[<-ab,hlen];have:(i+1)*sz<=xs.length*sz:=Nat.mul_le_mul_right _ hi;rw[Nat.add_mul]at this;omega
  exact⟨us[i*sz+j],Al9 Z⟩
 refine .sl o sz xs b W cap (λi j=>us.getD (i*sz+j) undef) aa ac U (λi x A j I=>?_) (λi x A j c I=>?_) ho
 ·obtain⟨u,J⟩:=X i x A j I;have:=ae _ u J;simpa[List.getD,J]using this
 ·have Y:j<sz:=by
   have:=(zaB.1 I).1;rw[U x (List.mem_of_getElem? A)]at this;exact this
  obtain⟨u,J⟩:=X i x A j Y;have:=ad _ c u (by rw[zek sz xs i j U Y,A];exact I) J;simpa[List.getD,J]using this
def Rep.flat{γ:Gh}{w:World}{o:Own}{sz:Nat}{xs:List (List AV)}{b aa n cap:Nat}(h:Rep γ w (.sl o sz xs) (.slice (some ⟨b,aa,none⟩) n cap)):
  n=xs.length/\(∀x∈xs,x.length=sz)/\xs.length<=cap/\cap<=maxLen/\zd6 w o ⟨b,aa,none⟩ xs.length cap sz /\
  ∃ab:List Value,xs.flatten.length=ab.length/\(∀(k:Nat) (u:Value),ab[k]?=some u->CellIs γ w b (aa+k) u) /\ ∀(k:Nat) (c:AV) (u:Value),xs.flatten[k]?=some c->ab[k]?=some u->Rep γ w c u:=by
 cases h with
 | sl0 _ _ _ ho=>exact⟨rfl,by simp,Al4 _,Nat.zero_le _,by rcases ho with rfl|rfl<;>simp[zd6],[],rfl,by simp,by simp⟩
 | sl _ _ _ _ _ _ cv ad ag Y ae hr ho =>
  have hlen:=yE sz xs Y;refine⟨rfl,Y,ad,ag,ho,(List.range (xs.length*sz)).map (λk=>cv (k / sz) (k % sz)),by simp[hlen],λk u J=>?_,λk c u af J=>?_⟩
  ·simp only[Yg,zbA]at J;obtain⟨Z,X,rfl⟩:=J;obtain⟨U,rfl⟩:k<xs.length*sz/\k=Z:=by
    obtain⟨A,I⟩:=zaB.1 X;simp at A I;exact⟨A,I⟩
   have hsz:0<sz:=by
    rcases Nat.eq_zero_or_pos sz with h|h;· simp[h]at U
    ·exact h
   have W:k / sz<xs.length:=(Nat.div_lt_iff_lt_mul hsz).2 U;have:=ae (k / sz) _ (Al9 W) (k % sz) (Nat.mod_lt _ hsz)
   rwa [Nat.mul_comm,Nat.div_add_mod]at this
  ·simp only[Yg,zbA]at J;obtain⟨Z,X,rfl⟩:=J;obtain⟨U,rfl⟩:k<xs.length*sz/\k=Z:=by
    obtain⟨A,I⟩:=zaB.1 X;simp at A I;exact⟨A,I⟩
   have hsz:0<sz:=by
    rcases Nat.eq_zero_or_pos sz with h|h;· simp[h]at U
    ·exact h
   have W:k / sz<xs.length:=(Nat.div_lt_iff_lt_mul hsz).2 U;have ac:=zek sz xs (k / sz) (k % sz) Y (Nat.mod_lt _ hsz);rw[Nat.mul_comm,Nat.div_add_mod,af,Al9 W]at ac;exact hr (k / sz) _ (Al9 W) (k % sz) c ac.symm
def Yl:List (Nat×Operand)->List (Nat×Opd)->Bool
 | [],[]=>true
 | (i,x)::r,(k,y)::s=>i==k&&zN x y&&Yl r s
 | _,_=>false
def zdS(sz:Nat)(c:List AV)(I:c.length=sz):∀(xs:List (List AV)) (i:Nat),(∀x∈xs,x.length=sz)->i<xs.length->splice xs.flatten (i*sz) c=(xs.set i c).flatten
 | [],_,_,h=>by simp at h
 | x::xs,0,h,_=>by have A:=h x (zaW ..);simp[splice,I,<-A]
 | x::xs,i+1,h,hi=>by
  have A:=h x (zaW ..);have W:=zdS sz c I xs i (λy U=>h y (zbR _ U)) (by simpa using hi);simp only[List.flatten_cons,List.set_cons_succ];rw[<-W];unfold splice;have J:(i+1)*sz=x.length+i*sz:=by rw[Nat.add_mul,A];omega
  rw[J,List.take_length_add_append,show x.length+i*sz+c.length=x.length+(i*sz+c.length) by omega,List.drop_length_add_append];simp
def zfL{γ:Gh}{w:World}{cs:List AV}{vs:List Value}(h:zv γ w cs vs):zv γ w (cs.map AV.strip1) vs :=
 ⟨by simpa using h.1,h.2.1,λi c v A J=>by
  rw[Yg]at A;cases I:cs[i]? with
  | none=>simp[I]at A
  | some x=>simp only[I,ZS,Al1]at A;subst A;exact(h.2.2 i x v I J).strip1⟩
def zhl{S:AV->AV}(X:∀ {γ:Gh} {w:World} {cs:List AV} {vs:List Value},zv γ w cs vs->zv γ w (cs.map S) vs){γ:Gh}{w:World}{ρ:Env}{a:Act}{sz:Nat}(Z:EnvRel γ w ρ a.tmps):∀(ps:List (Nat×Operand)) (J:List (Nat×Opd)) (xs:List (List AV)) (vs:List Value) (A:List (List AV)),
  Yl ps J=true->zb8 S ρ sz xs J=some A->(∀x∈xs,x.length=sz)->zv γ w xs.flatten vs ->
  ∃U:List Value,Instr.fill (λi=>some (i*sz,sz)) vs.toArray (ps.map λ(i,x)=>(i,a.eval x))=some U.toArray/\zv γ w A.flatten U/\(∀y∈A,y.length=sz)/\A.length=xs.length
 | [],[],xs,vs,A,_,hd,hu,hr=>by simp only[zb8,Al1]at hd;subst hd;exact⟨vs,rfl,hr,hu,rfl⟩
 | [],_::_,_,_,_,h,_,_,_=>by simp[Yl]at h
 | _::_,[],_,_,_,h,_,_,_=>by simp[Yl]at h
 | (i,x)::ps,(k,y)::J,xs,vs,A,h,hd,hu,hr=>by
  simp only[Yl,Al0,beq_iff_eq]at h;obtain⟨⟨rfl,am⟩,ai⟩:=h;simp only[zb8]at hd;split at hd
  ·rename_i ad;obtain⟨hlen,aa,ac⟩:=ad;have Y:zv γ w ((y.ev ρ).cells.map S) (a.eval x).cells.toList:=X ((zr am Z).cells ac);have W:((y.ev ρ).cells.map S).length=sz:=by simpa using hlen
   have hsz:(a.eval x).cells.size=sz:=by rw[<-W,Y.1];simp
   have ag:=yE sz xs hu;have af:i*sz+sz<=vs.length:=by rw[<-hr.1,ag,<-Nat.succ_mul];exact Nat.mul_le_mul_right _ aa
   have ab:=hr.splice Y (i*sz);rw[zdS sz _ W xs i hu aa]at ab;obtain⟨U,ak,aj,al,ah⟩:=zhl X Z ps J _ _ A ai hd (λz I=>by
    rcases List.mem_or_eq_of_mem_set I with I|I
    ·exact hu z I
    ·rw[I];exact W) ab
   refine⟨U,?_,aj,al,by rw[ah];simp⟩;simp only[List.map_cons,Instr.fill];have ae:¬ ((decide ((a.eval x).cells.size≠sz)||decide (i*sz+(a.eval x).cells.size > vs.toArray.size))=true):=by simp[hsz];omega
   rw[if_neg ae,zgw _ (i*sz) vs (by rw[hsz];exact af)];simpa using ak
  ·cases hd
def zcg(zero:List AV)(n:Nat):∀(k:Nat),k<(List.replicate n zero).flatten.length->(List.replicate n zero).flatten[k]?=zero[k % zero.length]?:=by
 induction n with
 | zero=>simp
 | succ n I =>
  intro k A;simp only[List.replicate_succ,List.flatten_cons,Al5]at A ⊢;rcases Nat.lt_or_ge k zero.length with h|h
  ·rw[zeA h,Nat.mod_eq_of_lt h]
  ·rw[zhT h,I (k-zero.length) (by omega)]
   congr 1
   rw[Nat.mod_eq_sub_mod h]
def zyP{P:Program}{o:Oper}{t e:TypeId}{n sz:Nat}{parts:Array (Nat×Operand)}{aa:List (Nat×Opd)}{zero:List AV}{W:TypeInfo}{z:Value}(ho:o.op=.buildSlice t n parts)(aw:P.underlying t=some (.slice e))(hi:P.info? e=some W)(al:W.zero=some z)(hsz:W.size=sz)(X:0<sz)(a5:n*sz<=2 ^ 24)(a2:zbL z.cells.toList zero=true)(ar:Yl parts.toList aa=true):yV P o (.bls sz n zero aa):=by
 intro γ w ρ a c ap A;simp only[pev]at A;split at A
 ·rename_i am;cases ab:zb8 AV.strip1 ρ sz (List.replicate n zero) aa with
  | none=>simp[ab]at A
  | some an =>
   simp only[ab,ZS,Al1]at A;subst A;obtain⟨az,a0,a1⟩:=zcz a2 γ w;have ak:∀x∈List.replicate n zero,x.length=sz:=λx ay=>by rw[(List.mem_replicate.1 ay).2];exact am
   have ai:(List.replicate n zero).flatten.length=n*sz:=by rw[yE sz _ ak];simp
   have Z:z.cells.size=sz:=by have:=az;simp at this;omega
   have au:zv γ w (List.replicate n zero).flatten ((List.range (n*sz)).map (λk=>z.cells.toList.getD (k % sz) undef)):=by
    refine⟨by simp[ai],λi v U=>?_,λi c v A U=>?_⟩
    ·simp only[Yg,zbA]at U;obtain⟨k,_,rfl⟩:=U;have J:k % sz<z.cells.toList.length:=by simp[Z];exact Nat.mod_lt _ X
     exact a0 (k % sz) _ (by rw[List.getD,Al9 J];rfl)
    ·simp only[Yg,zbA]at U;obtain⟨k,I,rfl⟩:=U;obtain⟨af,ag⟩:=zaB.1 I;simp at af ag;subst ag;rw[zcg zero n i (by rw[ai];exact af),am]at A;have J:i % sz<z.cells.toList.length:=by simp[Z];exact Nat.mod_lt _ X
     exact a1 (i % sz) c _ A (by rw[List.getD,Al9 J];rfl)
   obtain⟨a3,Y,ad,ax,aq⟩:=zhl zfL ap parts.toList aa _ _ an ar ab ak au;have hlen:an.length=n:=by rw[aq];simp
   have ah:=Yn (λ_=>False) γ w .imm a3.toArray e;have ao:∀f:Nat->Value,((List.range (n*sz)).map f).toArray=(Array.range (n*sz)).map f:=λf=>by apply Array.ext';simp
   refine⟨.slice (some ⟨w.heap.size,0,none⟩) n n,_,_,?_,ah,?_⟩
   ·have av:(Array.range (n*sz)).map (z.cells[· % z.cells.size]!)=((List.range (n*sz)).map (λk=>z.cells.toList.getD (k % sz) undef)).toArray:=by
     rw[ao];apply Array.map_congr_left;intro k I;have J:k % sz<z.cells.size:=by rw[Z];exact Nat.mod_lt _ X
     rw[Z];simp[List.getD,J]
    have a4:(parts.map λ(x:Nat×Operand)=>(x.1,a.eval x.2)).toList=parts.toList.map λ(i,x)=>(i,a.eval x):=by simp
    have aj:¬ n*W.size > 2 ^ 24:=by rw[hsz];omega
    simp only[execOp,ho,Instr.buildSlice,Sem.run_bind,run_underlying aw,Result.andThen_ok,sizeOf,typeInfo,run_program,hi,Sem.run_pure,hsz,zeroValue,al];rw[hsz]at aj;rw[<-av]at Y;by_cases ac:n*sz=0
    ·have ae:∀f:Nat->Value,(Array.range 0).map f=#[]:=λf=>by apply Array.ext';simp
     rw[ac,ae]at Y;simp[ac,ae,Y,newRow]
    ·simp[ac,aj,Y,newRow,zeroValue,typeInfo,hi,al]
   ·rw[<-hlen];refine Rep.sl_flat ax ad.1 (λk u I=>?_) (λk c u A I=>(ad.2.2 k c u A I).mono ah.mono) (by omega) ?_ rfl
    ·refine⟨?_,by simp[za3],ad.2.1 k u I⟩;rw[Nat.zero_add,World.cell?_alloc_new];simpa using I
    ·have:n*1<=n*sz:=Nat.mul_le_mul_left _ X;unfold maxLen;omega
 ·cases A
def zes{γ:Gh}{w:World}{vs:List Value}{cs:List AV}(h:zbL vs cs=true):zv γ w cs vs:=let ⟨a,b,c⟩:=zcz h γ w;⟨a,b,c⟩
def zk6(P:Program)(t:TypeId):Option (Nat->Option (Nat×Nat)) :=
 match P.underlying t with
 | some (.array _ e)=>(P.info? e).map λie=>λi=>some (i*ie.size,ie.size)
 | some (.struct fields)=>(fields.toList.mapM (λf=>(P.info? f.type).map λi=>(f.offset,i.size))).map λplaces=>λi=>places.toArray[i]?
 | _=>none
def zyb{P:Program}{o:Oper}{t:TypeId}{parts:Array (Nat×Operand)}{J:List (Nat×Nat×Opd)}{zero:List AV}{ab:TypeInfo}{z:Value}{place:Nat->Option (Nat×Nat)}(ho:o.op=.build t parts)(hi:P.info? t=some ab)(aa:ab.zero=some z)(ah:zbL z.cells.toList zero=true)(A:zk6 P t=some place)(ag:zbN place parts.toList J=true):yV P o (.bld zero J):=by
 intro γ w ρ a c ae I;simp only[pev]at I;cases U:zdB ρ zero J with
 | none=>simp[U]at I
 | some ds =>
  simp only[U,ZS,Al1]at I;subst I;obtain⟨ac,Z,hr⟩:=zmf place ae parts.toList J zero z.cells.toList ds ag U (zes ah);refine zH (v:=.agg ac.toArray) ?_ (.agg _ _ hr.1 hr.2.1 hr.2.2);have ad:P.built t (parts.map λ(x:Nat×Operand)=>(x.1,a.eval x.2)).toList=some ac.toArray:=by
   have af:(parts.map λ(x:Nat×Operand)=>(x.1,a.eval x.2)).toList=parts.toList.map λ(i,x)=>(i,a.eval x):=by simp
   rw[af];unfold zk6 at A;unfold Program.built;cases Y:P.underlying t with
   | none=>simp[Y]at A
   | some d =>
    cases d<;>simp only[Y]at A<;>try (cases A;done)
    ·rename_i n e;cases W:P.info? e with
     | none=>simp[W]at A
     | some ai =>simp only[W,ZS,Al1]at A;subst A;simp only[hi,aa,W];simpa using Z
    ·rename_i fields;cases X:fields.toList.mapM (λf=>(P.info? f.type).map λi=>(f.offset,i.size))with
     | none=>simp[X]at A
     | some places =>simp only[X,ZS,Al1]at A;subst A;simp only[hi,aa,X];simpa using Z
  simp only[execOp,ho,Sem.run_bind,run_build w t _ _ ad,Result.andThen_ok,Sem.run_pure]
def Rep.cut{γ:Gh}{w:World}{o:Own}{sz:Nat}{xs:List (List AV)}{J:Option Addr}{n cap:Nat}(hr:Rep γ w (.sl o sz xs) (.slice J n cap)){l h m:Nat}(ar:l<=h)(ad:h<=xs.length)(au:h<=m)(av:m<=cap)(o':Own)(U:o'=.no∨(o'=.full/\m=h)∨(o'=o.cut l/\h=xs.length/\m=cap)):Rep γ w (.sl o' sz ((xs.take h).drop l)) (.slice (if m=l then J else J.map (·.add (l*sz))) (h-l) (m-l)):=by
 cases hr with
 | slnil _ _ aa =>
  simp only[Al3]at ad;have W:m=0:=by omega
  have X:h=0:=by omega
  have Y:l=0:=by omega
  subst W;subst X;subst Y;simp only[List.take_nil,List.drop_nil,if_true,Nat.sub_self];exact .slnil o' sz (by
   rcases U with rfl|⟨rfl,_⟩|⟨rfl,_⟩
   ·simp
   ·simp
   ·cases o with
    | tip b d=>exact absurd rfl (aa b d)
    | _=>simp[Own.cut])
 | sl0 _ _ J aa =>
  simp only[Al3]at ad;have W:m=0:=by omega
  have X:h=0:=by omega
  have Y:l=0:=by omega
  subst W;subst X;subst Y;simp only[List.take_nil,List.drop_nil,if_true,Nat.sub_self];exact .sl0 o' sz J (by
   rcases U with rfl|⟨rfl,_⟩|⟨rfl,_⟩
   ·simp
   ·simp
   ·rcases aa with rfl|rfl<;>simp[Own.cut])
 | sl _ _ _ b I _ cv aw ax ap aj an ho =>
  have hlen:((xs.take h).drop l).length=h-l:=by simp;omega
  have af:∀i x,((xs.take h).drop l)[i]?=some x->xs[l+i]?=some x/\l+i<h:=by
   intro i x A;rw[List.getElem?_drop,zns]at A;split at A
   ·rename_i ak;exact⟨A,ak⟩
   ·cases A
  have al:zd6 w o' ⟨b,I+l*sz,none⟩ ((xs.take h).drop l).length (m-l) sz:=by
   rcases U with rfl|⟨rfl,rfl⟩|⟨rfl,rfl,rfl⟩
   ·trivial
   ·simpa[zd6]using hlen
   ·cases o with
    | no=>trivial
    | nil=>exact ho.elim
    | full =>have:xs.length=m:=ho;show ((xs.take xs.length).drop l).length=m-l;omega
    | tip ah d =>
     rcases ho with aq|⟨ae,arr,E,ai,ao⟩
     ·exact .inl (by omega)
     ·simp only[Addr.mk.injEq]at ae;obtain⟨rfl,rfl,_⟩:=ae;refine .inr ⟨by rw[Nat.add_mul],arr,E,ai,?_⟩;rw[ao]
      congr 1
      omega
  have am:m=l->zd6 w o' ⟨b,I,none⟩ ((xs.take h).drop l).length (m-l) sz:=by
   intro ag;rcases U with rfl|⟨rfl,rfl⟩|⟨rfl,rfl,rfl⟩
   ·trivial
   ·simpa[zd6]using hlen
   ·cases o with
    | no=>trivial
    | nil=>exact ho.elim
    | full =>have:xs.length=m:=ho;show ((xs.take xs.length).drop l).length=m-l;omega
    | tip ah d=>exact .inl (by omega)
  rw[<-hlen];split
  ·rename_i ag;have ab:(xs.take h).drop l=[]:=List.eq_nil_of_length_eq_zero (by omega);refine .sl o' sz _ b I (m-l) (λ_ _=>undef) (by omega) (by omega) (λx A=>by rw[ab]at A;cases A) (λi x A=>by rw[ab]at A;simp at A) (λi x A=>by rw[ab]at A;simp at A) (am ag)
  ·simp only[ZS,addr_add];refine .sl o' sz _ b (I+l*sz) (m-l) (λi j=>cv (l+i) j) (by omega) (by omega) (λx A=>?_) (λi x A j Z=>?_) (λi x A j c Z=>?_) al
   ·exact ap x (List.mem_of_mem_take (List.mem_of_mem_drop A))
   ·obtain⟨ac,_⟩:=af i x A;have:=aj (l+i) x ac j Z;rw[show I+l*sz+(i*sz+j)=I+((l+i)*sz+j) by rw[Nat.add_mul];omega];exact this
   ·obtain⟨ac,_⟩:=af i x A;exact an (l+i) x ac j c Z
def znD{P:Program}{w:World}{γ:Gh}{ρ:Env}{a:Act}(len cap:Nat){lo hi:Option Operand}{ab:Operand}{I A:Option Opd}{ac:Opd}(W:zbK lo I=true)(U:zbK hi A=true)(aj:zN ab ac=true)(J:EnvRel γ w ρ a.tmps){l h m:Int}(aa:bound 0 ρ I=some l)(af:bound len ρ A=some h)(ai:bound 0 ρ (some ac)=some m)(ag:A.isSome=true)(ae:0<=l)(ak:l<=h)(al:h<=m)(am:m<=cap):
  (Instr.sliceBounds true len cap (lo.map a.eval) (hi.map a.eval) (some (a.eval ab))).run P w=.ok (l.toNat,h.toNat,m.toNat) w:=by
 obtain⟨ap,Z⟩:=zcB (P:=P) (zr aj J) ai;cases hi with
 | none=>cases A<;>simp[zbK]at U ag
 | some x =>
  cases A with
  | none=>cases U
  | some y =>
   obtain⟨an,Y⟩:=zcB (P:=P) (zr U J) af;have b0:∀k code,(Instr.sliceBound (.int k m) cap code).run P w=.ok m.toNat w:=λk code=>Yi k m cap code (by omega) (by omega);have X:∀k code,(Instr.sliceBound (.int k h) m.toNat code).run P w=.ok h.toNat w:=λk code=>Yi k h _ code (by omega) (by omega);have ad:∀k code,(Instr.sliceBound (.int k l) h.toNat code).run P w=.ok l.toNat w:=λk code=>Yi k l _ code ae (by omega);unfold Instr.sliceBounds;cases lo with
   | none =>
    cases I with
    | some y=>cases W
    | none =>
     have:l=0:=by simpa[bound]using aa.symm
     subst this;simp[Z,Y,b0,X]
   | some aq =>
    cases I with
    | none=>cases W
    | some ar =>obtain⟨ao,ah⟩:=zcB (P:=P) (zr W J) aa;simp[Z,Y,ah,b0,X,ad]
def Rep.slice_form{γ:Gh}{w:World}{o:Own}{sz:Nat}{xs:List (List AV)}{v:Value}(h:Rep γ w (.sl o sz xs) v):∃A cap,v=.slice A xs.length cap/\xs.length<=cap:=by
 cases h with
 | slnil _ _ _=>exact⟨none,0,rfl,Al4 _⟩
 | sl0 _ _ A _=>exact⟨some A,0,rfl,Al4 _⟩
 | sl _ _ _ b J cap cv I _ _ _ _ _=>exact⟨_,cap,rfl,I⟩
def zx7{P:Program}{o:Oper}{t e:TypeId}{x:Operand}{lo hi mx:Option Operand}{x':Opd}{ai W X:Option Opd}{sz:Nat}{ap:TypeInfo}(ho:o.op=.slice t x lo hi mx)(h:zN x x'=true)(am:zbK lo ai=true)(al:zbK hi W=true)(ah:zbK mx X=true)(ar:X.isSome=true->W.isSome=true)(ao:P.underlying t=some (.slice e))(ak:P.info? e=some ap)(hsz:ap.size=sz):yV P o (.sll sz x' ai W X):=by
 intro γ w ρ a c ag A;have U:=zr h ag;simp only[pev]at A;cases au:x'.ev ρ<;>simp only[au]at A U<;>try (cases A;done)
 rotate_left
 ·rename_i b af len cap;generalize ae:a.eval x=v at U;cases U with
  | ms _ _ _ _ aq aj an =>
   cases X with
   | some _=>cases A
   | none =>
    cases mx with
    | some y=>cases ah
    | none =>
     cases J:bound 0 ρ ai with
     | none=>simp only[J,zpk]at A;cases A
     | some l =>
      cases I:bound len ρ W with
      | none=>simp only[J,I,zpk]at A;cases A
      | some ab =>
       simp only[J,I,zpk]at A;split at A
       ·rename_i ad;obtain⟨Y,Z,aa⟩:=ad;simp only[Al1]at A;subst A;have ac:=zd9 (P:=P) true len cap am al ag J I Y Z aa aj;have hr:Rep γ w (.ms b (if cap=l.toNat then af else af+l.toNat*sz) (ab.toNat-l.toNat) (cap-l.toNat)) (.slice (if cap=l.toNat then some ⟨b,af,none⟩else (some (⟨b,af,none⟩:Addr)).map (·.add (l.toNat*sz))) (ab.toNat-l.toNat) (cap-l.toNat)):=by
         by_cases h:cap=l.toNat
         ·rw[if_pos h,if_pos h];exact .ms b af _ _ aq (by omega) (by omega)
         ·rw[if_neg h,if_neg h];simp only[ZS,addr_add];exact .ms b _ _ _ aq (by omega) (by omega)
        refine zH ?_ hr;simp only[execOp,ho,ae,Instr.sliceAt,Sem.run_bind,run_underlying ao,Result.andThen_ok,Instr.slice,Option.map_none,ac,sizeOf,typeInfo,run_program,ak,Sem.run_pure,hsz]
       ·cases A
 rename_i own az xs;obtain⟨aw,cap,ae,aj⟩:=U.slice_form;rw[ae]at U;cases J:bound 0 ρ ai with
 | none=>simp only[J]at A;cases A
 | some l =>
  cases I:bound xs.length ρ W with
  | none=>simp only[J,I]at A;cases X<;>simp at A
  | some ab =>
   cases X with
   | none =>
    cases mx with
    | some y=>cases ah
    | none =>
     simp only[J,I]at A;split at A
     ·rename_i ad;obtain⟨rfl,Y,Z,aa⟩:=ad;simp only[Al1]at A;subst A;have ac:=zd9 (P:=P) true xs.length cap am al ag J I Y Z aa aj;refine zH ?_ (U.cut (l:=l.toNat) (h:=ab.toNat) (m:=cap) (by omega) (by omega) (by omega) (Al4 _) _ (by
       cases W with
       | none=>simp only[bound,Al1]at I;subst I;exact .inr (.inr ⟨by simp,by simp,rfl⟩)
       | some _=>exact .inl (by simp)))
      simp only[execOp,ho,ae,Instr.sliceAt,Sem.run_bind,run_underlying ao,Result.andThen_ok,Instr.slice,Option.map_none,ac,sizeOf,typeInfo,run_program,ak,Sem.run_pure,hsz]
     ·cases A
   | some av =>
    cases mx with
    | none=>cases ah
    | some y =>
     simp only[J,I]at A;cases an:av.ev ρ<;>simp only[an]at A<;>try (cases A;done)
     rename_i ay m;split at A
     ·rename_i ad;obtain⟨rfl,Y,Z,aa,ax⟩:=ad;simp only[Al1]at A;subst A;have ac:=znD (P:=P) xs.length cap am al ah ag J I (m:=m) (by simp[bound,an]) (ar rfl) Y Z aa (by omega);refine zH ?_ (U.cut (l:=l.toNat) (h:=ab.toNat) (m:=m.toNat) (by omega) (by omega) (by omega) (by omega) _ ?_)
      ·simp only[execOp,ho,ae,Instr.sliceAt,Sem.run_bind,run_underlying ao,Result.andThen_ok,Instr.slice,ZS,ac,sizeOf,typeInfo,run_program,ak,Sem.run_pure,hsz]
      ·split
       ·rename_i e;exact .inr (.inl ⟨rfl,by rw[e]⟩)
       ·exact .inl rfl
     ·cases A
def zib{γ:Gh}{w:World}:∀(xs:List (List AV)) (s:List UInt8) (us:List Value),ziQ xs=some s->xs.flatten.length=us.length ->
  (∀(k:Nat) (c:AV) (u:Value),xs.flatten[k]?=some c->us[k]?=some u->Rep γ w c u)->us=s.map λc=>.int .u8 c.toNat
 | [],s,us,hb,hl,_=>by simp only[ziQ,Al1]at hb;subst hb;simp only[List.flatten_nil,Al3]at hl;simpa using List.eq_nil_of_length_eq_zero hl.symm
 | x::xs,s,us,hb,hl,hr=>by
  unfold ziQ at hb;split at hb
  ·rename_i e;cases e
  ·rename_i n r e;simp only[List.cons.injEq]at e;obtain⟨rfl,rfl⟩:=e;split at hb
   ·rename_i Y;cases A:ziQ xs with
    | none=>simp[A]at hb
    | some X =>
     simp only[A,ZS,Al1]at hb;subst hb;cases us with
     | nil=>simp at hl
     | cons u us =>have I:=hr 0 (.int .u8 n) u (by simp) (by simp);have W:=zib xs X us A (by simpa using hl) (λk c v J U=>hr (k+1) c v (by simpa using J) (by simpa using U));cases I;subst W;simp;omega
   ·cases hb
  ·cases hb
def zru(s:List UInt8):(s.map λc=>(c.toNat:Int)).foldl (λr n=>r.push (UInt8.ofNat n.toNat)) ByteArray.empty=⟨s.toArray⟩:=by
 have key:∀(s:List UInt8) (r:ByteArray),(s.map λc=>(c.toNat:Int)).foldl (λr n=>r.push (UInt8.ofNat n.toNat)) r=⟨(r.data.toList++s).toArray⟩:=by
  intro s;induction s with
  | nil=>intro r;simp
  | cons x s A =>
   intro r;simp only[List.map_cons,List.foldl_cons,Int.toNat_natCast];rw[A]
   congr 1
   simp[ByteArray.push]
 have:=key s ByteArray.empty;simpa using this
def ztf{P:Program}{o:Oper}{s d e:TypeId}{x:Operand}{x':Opd}(ho:o.op=.convert s d x)(h:zN x x'=true)(am:P.underlying s=some (.slice e))(ag:P.underlying e=some (.int .u8))(ae:P.underlying d=some .string):
  yV P o (.cvb2s x'):=by
 intro γ w ρ a c af A;have X:=zr h af;simp only[pev]at A;cases ao:x'.ev ρ<;>simp only[ao]at A X<;>try (cases A;done)
 rename_i own sz xs;split at A
 ·rename_i own1 aq ar aa;simp only[AV.sl.injEq]at aa;obtain⟨rfl,rfl,rfl⟩:=aa;cases J:ziQ xs with
  | none=>simp[J]at A
  | some s =>
   simp only[J,ZS,Al1]at A;subst A;have pre:∀v,a.eval x=v->(∃I n k,v=.slice I n k)->(Conv.bytesToString v).run P w=.ok (.string ⟨s.toArray⟩) w->(execOp a.eval o).run P w=.ok (.value (.string ⟨s.toArray⟩)) w:=by rintro v U ⟨I,n,k,rfl⟩ hr;cases I<;>simp[execOp,ho,U,convert,run_underlying am,run_underlying ae,run_underlying ag,hr]
   obtain⟨I,cap,U,ap⟩:=X.slice_form;rw[U]at X;refine zH (pre _ U ⟨_,_,_,rfl⟩ ?_) (.str s);cases X with
   | slnil _ _ _ =>simp only[ziQ,Al1]at J;subst J;simp[Conv.bytesToString];rfl
   | sl0 _ _ I _ =>simp only[ziQ,Al1]at J;subst J;have Z:(loadCells I 0).run P w=.ok #[] w:=run_loadCells_list w I [] (by simp);exact run_bytesToString w I 0 0 [] (by rw[Z];rfl)
   | sl _ _ _ b W _ cv A ai ab ad hr aj =>
    obtain⟨_,_,_,_,_,Y,ac,al,ak⟩:=(Rep.sl own 1 xs b W cap cv A ai ab ad hr aj).flat;have an:=zib xs s Y J ac ak;have hlen:xs.length=Y.length:=by rw[<-ac,yE 1 xs ab];omega
    have Z:(loadCells ⟨b,W,none⟩ xs.length).run P w=.ok Y.toArray w:=by rw[hlen];exact run_loadCells_list w ⟨b,W,none⟩ Y (λj v ah=>by rw[addr_add];exact(al j v ah).1)
    rw[run_bytesToString w ⟨b,W,none⟩ xs.length cap (s.map λc=>(c.toNat:Int)) (by rw[Z,an];simp[Function.comp_def]),zru]
 ·cases A
def yn(H:zb)(w:World)(H':zb):Prop:=∀b,(H' b).isSome=true->(H b).isSome=true∨w.heap.size<=b
def keysOf(H:zb):Nat->Prop:=λb=>(H b).isSome=true
def zgC(P:Program)(o:Oper)(ao:AOp):Prop :=
 ∀(γ:Gh) (w:World) (H:zb) (ρ:Env) (a:Act) (K KP:AV->zb->Prop) (next:Act->World->Prop) (Q:Exit->Act->World->Prop),
  EnvRel γ w ρ a.tmps->zq γ w H->aop P KP ao ρ H K ->
  (∀γ' w' H' c v,Ext (keysOf H) γ w γ' w'->zq γ' w' H'->yn H w H'->Rep γ' w' c v->K c H'->next (a.put o.dst v) w') ->
  (∀γ' w' H' c v,Ext (keysOf H) γ w γ' w'->zq γ' w' H'->yn H w H'->Rep γ' w' c v->KP c H'->Q (.panic [{ v,recovered:=false }]) a w') ->
  o.wp P a w next Q
def yn.refl(H:zb)(w:World):yn H w H:=λ_ h=>.inl h
def yN{P:Program}{o:Oper}{a:Act}{w w':World}{v:Value}{next:Act->World->Prop}{Q:Exit->Act->World->Prop}(h:(execOp a.eval o).run P w=.ok (.value v) w')(A:next (a.put o.dst v) w'):o.wp P a w next Q:=by unfold Oper.wp;rw[h];exact A
def zfK{P:Program}{o:Oper}{a:Act}{w w':World}{next:Act->World->Prop}{Q:Exit->Act->World->Prop}(h:(execOp a.eval o).run P w=.ok .skip w')(A:next (a.put o.dst undef) w'):o.wp P a w next Q:=by unfold Oper.wp;rw[h];exact A
def zK{P:Program}{o:Oper}{I:AOp}(W:I.cls=.pure)(h:yV P o I):zgC P o I:=by
 intro γ w H ρ a K KP next Q X aa A Y ab
 unfold aop at A;rw[W]at A;simp only at A;cases J:pev ρ I with
 | none=>simp[J]at A
 | some c =>simp only[J]at A;obtain⟨v,γ',w',hr,U,Z⟩:=h γ w ρ a c X J;exact yN hr (Y γ' w' H c v (U.weaken λ_ f=>f.elim) (aa.kept U λ_ _ _ f=>f) (yn.refl _ _) Z A)
def zpe(P:Program)(o:Oper)(ao:AOp):Prop :=∀(γ:Gh) (w:World) (H:zb) (ρ:Env) (a:Act) (c:AV),EnvRel γ w ρ a.tmps->zq γ w H->rev ρ H ao=some c -> ∃v,(execOp a.eval o).run P w=.ok (.value v) w/\Rep γ w c v
def zjr{P:Program}{o:Oper}{I:AOp}(W:I.cls=.read)(h:zpe P o I):zgC P o I:=by
 intro γ w H ρ a K KP next Q X U A Y aa
 unfold aop at A;rw[W]at A;simp only at A;cases J:rev ρ H I with
 | none=>simp[J]at A
 | some c =>simp only[J]at A;obtain⟨v,hr,Z⟩:=h γ w H ρ a c X U J;exact yN hr (Y γ w H c v (.refl _ _ _) U (yn.refl _ _) Z A)
def ziu{P:Program}{w:World}{t:TypeId}{X:TypeInfo}{d:TypeDesc}{n:Nat}{A:Bool}(hi:P.info? t=some X)(ac:X.size=n)(aa:P.underlying t=some d)(Z:zev (P.underlying t)=A)(Y:A=true∨n=1)(b I:Nat)(us:List Value)(hlen:us.length=n)(U:∀(j:Nat) (v:Value),us[j]?=some v->w.cell? ⟨b,I+j,none⟩=some v):
  (loadVar t ⟨b,I,none⟩).run P w=.ok (if A then .agg us.toArray else us.headD undef) w:=by
 unfold loadVar;rw[Sem.run_bind,zeV aa,Z];cases A with
 | true =>have W:(loadCells ⟨b,I,none⟩ us.length).run P w=.ok us.toArray w:=run_loadCells_list w _ us (λj v ab=>by rw[addr_add];exact U j v ab);rw[hlen]at W;simp[sizeOf,typeInfo,hi,ac,W]
 | false =>
  have ad:n=1:=by rcases Y with h|h<;>simp_all
  subst ad;cases us with
  | nil=>simp at hlen
  | cons u us =>have J:=U 0 u rfl;simp only[Nat.add_zero]at J;simp[J]
def zxH{γ:Gh}{w:World}{cs:List AV}{us:List Value}{n:Nat}{A:Bool}(I:A=true∨n=1)(J:cs.length=n)(h:zv γ w cs us):Rep γ w (mk A cs) (if A then .agg us.toArray else us.headD undef):=by
 cases A with
 | true=>exact .agg _ _ h.1 h.2.1 h.2.2
 | false =>
  have U:n=1:=by rcases I with h|h<;>simp_all
  subst U;cases cs with
  | nil=>simp at J
  | cons c cs =>
   cases us with
   | nil=>simp[zv]at h
   | cons u us=>exact h.2.2 0 c u rfl rfl
def zxh{P:Program}{o:Oper}{t:TypeId}{x:Operand}{x':Opd}{n:Nat}{ab:Bool}{ag:TypeInfo}{d:TypeDesc}(ho:o.op=.load t x)(h:zN x x'=true)(hi:P.info? t=some ag)(ao:ag.size=n)(ak:P.underlying t=some d)(ah:zev (P.underlying t)=ab)(J:ab=true∨n=1):zpe P o (.ld n ab x'):=by
 intro γ w H ρ a c al ar A;have aa:=zr h al;simp only[rev]at A;have fin:∀b I ae cs,a.eval x=.pointer (some ⟨b,I,none⟩)->cs.length=n->zv γ w cs ae->(∀(j:Nat) (v:Value),ae[j]?=some v->w.cell? ⟨b,I+j,none⟩=some v)->c=mk ab cs ->
   ∃v,(execOp a.eval o).run P w=.ok (.value v) w/\Rep γ w c v:=by
  intro b I ae cs Z ad hr ac aj;subst aj;refine⟨_,?_,zxH J ad hr⟩;have aq:=ziu hi ao ak ah J b I ae (by rw[<-hr.1];exact ad) ac;simp[execOp,ho,Z,Instr.loadAt,Instr.sureAddr,aq]
 cases au:x'.ev ρ<;>simp only[au]at A aa<;>try (cases A;done)
 ·rename_i b I;cases af:H b with
  | none=>simp[af]at A
  | some av =>
   cases av<;>simp only[af]at A<;>try (cases A;done)
   rename_i cs;split at A
   ·rename_i an;simp only[Al1]at A;generalize Z:a.eval x=v at aa;cases aa;cases ar b _ af with
    | cells _ vs E X ai ad ap hr =>
     have am:zv γ w ((cs.drop I).take n) ((vs.drop I).take n):=(zv.drop ⟨ad,ap,hr⟩ I).take n;refine fin b I _ _ Z (by simp;omega) am (λj u U=>?_) A.symm;rw[zns]at U;split at U
     ·rw[List.getElem?_drop]at U;rw[cell_of_row w b _ _ _ _ ai];simpa using U
     ·cases U
   ·cases A
 ·rename_i cs;split at A
  ·rename_i an;simp only[Al1]at A;generalize Z:a.eval x=v at aa;cases aa with
   | view _ b I cv ac hr =>
    refine fin b I ((List.range n).map cv) (cs.take n) Z (by simp;omega) ⟨by simp;omega,λi u Y=>?_,λi c u A Y=>?_⟩ (λj u U=>?_) A.symm
    ·simp only[Yg,zbA]at Y;obtain⟨k,X,rfl⟩:=Y;obtain⟨J,W⟩:=zaB.1 X;simp at J W;exact(ac k (by omega)).2.2
    ·simp only[Yg,zbA]at Y;obtain⟨k,X,rfl⟩:=Y;obtain⟨J,W⟩:=zaB.1 X;simp at J W;subst W;rw[zns,if_pos J]at A;exact hr i _ A
    ·simp only[Yg,zbA]at U;obtain⟨k,X,rfl⟩:=U;obtain⟨J,W⟩:=zaB.1 X;simp at J W;subst W;exact(ac j (by omega)).1
  ·cases A
def zo9(F:Nat->Prop)(γ:Gh)(w:World)(k:BK)(es:Array MapEntry)(clock:Nat):
  Ext F γ w (λb=>if b=w.heap.size then k else γ b) (w.alloc (.map es clock)):=by
 have U:∀b,b<w.heap.size->b≠w.heap.size:=λb h=>Nat.ne_of_lt h;have hold:∀b,b<w.heap.size->(w.alloc (.map es clock)).heap[b]?=w.heap[b]?:=λb A=>heap_alloc_old w _ A;refine⟨⟨by simp,λb o v J Y=>?_,λb arr E fr A=>?_⟩,rfl,rfl,λa _=>?_,λb A _=>⟨by simp[U b A],hold b A⟩⟩
 ·have I:=World.block_lt_of_cell? w _ J;refine⟨by simpa[za3,U b I]using Y,?_⟩;rw[World.cell?_alloc_lt _ _ _ I];exact J
 ·have I:=(zdF.1 A).1;exact⟨arr,by rw[hold b I];exact A,rfl⟩
 ·by_cases h:a.block=w.heap.size
  ·have W:(w.alloc (.map es clock)).heap[a.block]?=some (.map es clock):=by rw[h];exact heap_alloc_new w _
   have X:w.heap[a.block]?=none:=by rw[h];simp
   simp[World.frozen?,W,X]
  ·exact World.frozen?_alloc_old _ _ _ h
def zaK{γ γ':Gh}{w w':World}{H:zb}{x:AObj}{F:Nat->Prop}(J:zq γ w H)(I:Ext (λ_=>False) γ w γ' w')(U:ObjRel γ' w' w.heap.size x):zq γ' w' (H.upd w.heap.size x):=by
 intro b o A;unfold zb.upd at A;split at A
 ·rename_i e;subst e;simp only[Al1]at A;subst A;exact U
 ·exact J.kept I (λ_ _ _ f=>f) b o A
def ZD{H:zb}{w:World}{x:AObj}:yn H w (H.upd w.heap.size x):=by
 intro b A;unfold zb.upd at A;split at A
 ·rename_i e;exact .inr (by omega)
 ·exact .inl A
def ZX{γ:Gh}{w:World}{H:zb}(A:zq γ w H):H w.heap.size=none:=by
 cases h:H w.heap.size with
 | none=>rfl
 | some o=>exact absurd (A _ _ h).lt (Nat.lt_irrefl _)
def zfr{γ:Gh}{w:World}{H:zb}(I:zq γ w H):¬ zds H:=λ⟨n,h⟩=>by
 cases A:H (max n w.heap.size)with
 | none=>exact h _ (Nat.le_max_left ..) A
 | some o=>have:=(I _ _ A).lt;omega
def zup{P:Program}{o:Oper}{t:TypeId}{zero:List AV}{W:TypeInfo}{z:Value}(ho:o.op=.alloc t)(hi:P.info? t=some W)(Y:W.zero=some z)(Z:zbL z.cells.toList zero=true):zgC P o (.alloc zero):=by
 intro γ w H ρ a K KP next Q aa U J X ab
 simp only[aop,AOp.cls,oev,zdI]at J;have I:=Yn (λ_=>False) γ w .own z.cells t;have A:=zes (γ:=λb=>if b=w.heap.size then BK.own else γ b) (w:=w.alloc (.cells z.cells t)) Z;refine yN (v:=.pointer (some ⟨w.heap.size,0,none⟩)) ?_ (X _ _ _ _ _ (I.weaken λ_ f=>f.elim) (zaK (F:=λ_=>False) U I (.cells zero z.cells.toList t (by simp) ?_ A.1 A.2.1 A.2.2)) ZD (.ptr _ 0 (by simp)) (J _ (ZX U)))
 ·simp[execOp,ho,Instr.alloc,zeroValue,typeInfo,hi,Y,newVar,newRow]
 ·rw[heap_alloc_new]
def zzg{P:Program}{o:Oper}{t:TypeId}{x:Operand}{x':Opd}(ho:o.op=.box t x)(h:zN x x'=true):zgC P o (.box x'):=by
 intro γ w H ρ a K KP next Q Y U I aa ab
 simp only[aop,AOp.cls,oev,zdI]at I;split at I
 ·rename_i ac A;split at A
  ·rename_i X;simp only[Al1]at A;subst A;have J:=Yn (λ_=>False) γ w .own (a.eval x).cells t;obtain⟨Z,W,hr⟩:=((zr h Y).mono J.mono).cells X;refine yN (v:=.pointer (some ⟨w.heap.size,0,none⟩)) ?_ (aa _ _ _ _ _ (J.weaken λ_ f=>f.elim) (zaK (F:=λ_=>False) U J (.cells _ (a.eval x).cells.toList t (by simp) ?_ Z W hr)) ZD (.ptr _ 0 (by simp)) (I _ (ZX U)))
   ·simp[execOp,ho,Instr.box,newVar,newRow]
   ·rw[heap_alloc_new]
  ·cases A
 ·exact(zfr U I).elim
def zyg{P:Program}{o:Oper}{t:TypeId}{U:KT}(ho:o.op=.makeMap t none):zgC P o (.mkm U):=by
 intro γ w H ρ a K KP next Q X J I W Y
 simp only[aop,AOp.cls,oev,zdI]at I;have A:=zo9 (λ_=>False) γ w .own #[] 0;refine yN (v:=.map (some w.heap.size)) ?_ (W _ _ _ _ _ (A.weaken λ_ f=>f.elim) (zaK (F:=λ_=>False) J A (.map U [] [] 0 (by simp) (by simp) ?_ rfl (by simp))) ZD (.mp _ (by simp)) (I _ (ZX J)))
 ·simp[execOp,ho,Instr.makeMap]
 ·rw[heap_alloc_new]
def zwx{P:Program}{o:Oper}{f:FuncId}{args:Array Operand}{U:List Opd}{ts:Array TypeId}(ho:o.op=.call { callee:=.value (.func f),args:=args,argTypes:=ts })(h:zai args.toList U=true)(I:Program.callable P f=true):
  zgC P o (.call f U):=by
 intro γ w H ρ a K KP next Q W al Z ag ai
 simp only[aop,AOp.cls,eff]at Z;have ab:=zcJ h W;have ae:=Z γ w _ W.tab al ab;unfold Program.callable at I;cases J:P.funcs[f]? with
 | none=>simp[J]at I
 | some ao =>
  simp only[J,Al0,bne_iff_ne,ne_eq]at I;obtain⟨ad,ah⟩:=I;obtain⟨am,ac⟩:=zjB.1 ad;have af:args.map a.eval=(args.toList.map a.eval).toArray:=by apply Array.ext';simp
  have ak:(execOp a.eval o).run P w=.ok (.enter f (args.toList.map a.eval).toArray) w:=by simp[execOp,ho,resolve,Act.eval,Deferred.ofValue,invoke,callFunc,J,ah,ac,af]
  unfold Oper.wp;rw[ak];refine Calls.mono ae λe w' ⟨γ',H',r,X,aa,Y,A,hq⟩=>?_;cases e with
  | returned v =>
   cases r with
   | ret c=>exact ag γ' w' H' c v X aa Y A hq
   | pan c=>exact A.elim
  | panicked an =>
   cases r with
   | ret c=>exact A.elim
   | pan c =>obtain⟨v,rfl,aj⟩:=A;exact ai γ' w' H' c v X aa Y aj hq
  | outgrown=>cases r<;>exact A.elim
def zs9{P:Program}{o:Oper}{g:Operand}{X:Opd}{args:Array Operand}{W:List Opd}{ts:Array TypeId}(ho:o.op=.call { callee:=.value g,args:=args,argTypes:=ts })(ak:zN g X=true)(h:zai args.toList W=true):
  zgC P o (.callv X W):=by
 intro γ w H ρ a K KP next Q Y aw A ao aq
 simp only[aop,AOp.cls,eff]at A;have aa:=zr ak Y;cases ay:X.ev ρ<;>simp only[ay]at A aa<;>try (exact A.elim)
 rename_i f first ae
 obtain⟨J,A⟩:=A;generalize ax:a.eval g=v at aa;cases aa with
 | clo _ _ _ vs U al am hr ar =>
  have ag:=zcJ h Y;have af:zR γ w (first++W.map (Opd.ev ρ)++ae) (vs++args.toList.map a.eval++U):=(zR.append ⟨al,hr⟩ ag).append ⟨am,ar⟩;have aj:=A γ w _ Y.tab aw af;unfold Program.callable at J;cases Z:P.funcs[f]? with
  | none=>simp[Z]at J
  | some a1 =>
   simp only[Z,Al0,bne_iff_ne,ne_eq]at J;obtain⟨ai,ap⟩:=J;obtain⟨az,ah⟩:=zjB.1 ai;have an:vs.toArray++args.map a.eval++U.toArray=(vs++args.toList.map a.eval++U).toArray:=by apply Array.ext';simp
   have av:(execOp a.eval o).run P w=.ok (.enter f (vs++args.toList.map a.eval++U).toArray) w:=by rw[<-an];simp only[execOp,ho,resolve,ax,Deferred.ofValue,Sem.run_bind,Sem.run_pure,Result.andThen_ok,invoke,callFunc,run_program,Z];simp[ap,ah]
   unfold Oper.wp;rw[av];refine Calls.mono aj λe w' ⟨γ',H',r,ab,ad,ac,I,hq⟩=>?_;cases e with
   | returned v =>
    cases r with
    | ret c=>exact ao γ' w' H' c v ab ad ac I hq
    | pan c=>exact I.elim
   | panicked a0 =>
    cases r with
    | ret c=>exact I.elim
    | pan c =>obtain⟨v,rfl,au⟩:=I;exact aq γ' w' H' c v ab ad ac au hq
   | outgrown=>cases r<;>exact I.elim
def zzh{P:Program}{o:Oper}{x:Operand}{x':Opd}(ho:o.op=.panic x)(h:zN x x'=true):zgC P o (.pan x'):=by
 intro γ w H ρ a K KP next Q J X A ab U
 simp only[aop,AOp.cls,eff]at A;have I:=zr h J;cases Z:x'.ev ρ<;>simp only[Z]at A I<;>try (exact A.elim)
 rename_i t y;generalize Y:a.eval x=v at I;have aa:=I;cases I with
 | ifc _ _ u hr =>
  have W:(execOp a.eval o).run P w=.halt (.panic (.iface t u)) w:=by simp[execOp,ho,Y,Instr.panic]
  unfold Oper.wp;rw[W];exact U γ w H _ _ (.refl _ _ _) X (yn.refl _ _) aa A
def zbx(w:World)(b:Nat)(cs:Array Value)(old:Array Value)(E:TypeId)(fr:Nat×Nat)(h:w.heap[b]?=some (.cells old E fr)):(w.setRow b cs).heap[b]?=some (.cells cs E fr):=setRow_heap w b old cs E fr h
def zav{F:Nat->Prop}{γ γ':Gh}{w:World}{b:Nat}{old cs:Array Value}{E:TypeId}(J:w.heap[b]?=some (.cells old E (0,0)))(hsz:cs.size=old.size)(ab:F b)(ac:∀o,za3 γ b o->za3 γ' b o/\cs[o]?=old[o]?)(X:∀c,c≠b->γ' c=γ c):Ext F γ w γ' (w.setRow b cs):=by
 have U:∀c,c≠b->(w.setRow b cs).heap[c]?=w.heap[c]?:=λc I=>setRow_other w b c cs (by omega);have W:(w.setRow b cs).heap[b]?=some (.cells cs E (0,0)):=zbx w b cs old E _ J;refine⟨⟨by simp,λc o v I Y=>?_,λc arr ae fr I=>?_⟩,rfl,rfl,λa _=>?_,λc I ad=>?_⟩
 ·by_cases A:c=b
  ·subst A;obtain⟨Z,aa⟩:=ac o Y;refine⟨Z,?_⟩;rw[cell_of_row _ _ _ _ _ _ W,aa];rw[cell_of_row _ _ _ _ _ _ J]at I;exact I
  ·refine⟨by simpa[za3,X c A]using Y,?_⟩;rw[World.cell?_of_block (w:=w) (U c A)];exact I
 ·by_cases A:c=b
  ·subst A;rw[J]at I;simp only[Al1,Obj.cells.injEq]at I;obtain⟨rfl,rfl,rfl⟩:=I;exact⟨cs,W,hsz⟩
  ·exact⟨arr,(U c A).trans I,rfl⟩
 ·by_cases A:a.block=b
  ·simp[World.frozen?,A,W,J]
  ·exact World.frozen?_of_block (U _ A)
 ·have A:c≠b:=λe=>ad (e▸ab);exact⟨X c A,U c A⟩
def zbr{γ γ':Gh}{w w':World}{H:zb}{b:Nat}{x:AObj}(U:zq γ w H)(I:Ext (λc=>c=b) γ w γ' w')(W:ObjRel γ' w' b x):zq γ' w' (H.upd b x):=by
 intro c o A;unfold zb.upd at A;split at A
 ·rename_i e;subst e;simp only[Al1]at A;subst A;exact W
 ·rename_i J;have ho:=U c o A;obtain⟨g,k⟩:=I.frame c ho.lt J;exact ho.kept I.mono g k
def zbi{H:zb}{w:World}{b:Nat}{x:AObj}(I:(H b).isSome=true):yn H w (H.upd b x):=by
 intro c A;unfold zb.upd at A;split at A
 ·rename_i e;subst e;exact .inl I
 ·exact .inl A
def zAa{P:Program}{o:Oper}{t:TypeId}{x y:Operand}{x' aa:Opd}{n:Nat}{ag:TypeInfo}(ho:o.op=.store t x y)(h:zN x x'=true)(ai:zN y aa=true)(hi:P.info? t=some ag)(ao:ag.size=n):zgC P o (.st n x' aa):=by
 intro γ w H ρ a K KP next Q ac ae I an ay
 simp only[aop,AOp.cls,eff]at I;have Z:=zr h ac;have aw:=zr ai ac;cases au:x'.ev ρ<;>simp only[au]at I Z<;>try (exact I.elim)
 rename_i b A;cases J:H b with
 | none=>simp[J]at I
 | some av =>
  cases av<;>simp only[J]at I<;>try (exact I.elim)
  rename_i cs;obtain⟨hlen,ax,ak,aj⟩:=I;generalize Y:a.eval x=v at Z;cases Z;cases ae b _ J with
  | cells _ vs E ad U am ap hr =>
   obtain⟨ab,c1,ah⟩:=aw.cells ak;have hsz:(a.eval y).cells.size=n:=by rw[<-hlen,ab];simp
   have af:=run_storeCells_at P b A E (a.eval y).cells.toList 0 vs.toArray w U (by simp[hsz];omega) (λu ar=>by obtain⟨i,hi⟩:=List.mem_iff_getElem?.1 ar;exact c1 i u hi);simp only[Nat.add_zero]at af;have aq:(execOp a.eval o).run P w=.ok .skip (w.setRow b (vs.take A++(a.eval y).cells.toList++vs.drop (A+(a.eval y).cells.toList.length)).toArray):=by simp[execOp,ho,Y,Instr.storeAt,Instr.sureAddr,storeVar,sizeOf,typeInfo,hi,ao,hsz,af]
   have W:Ext (λc=>c=b) γ w γ (w.setRow b (vs.take A++(a.eval y).cells.toList++vs.drop (A+(a.eval y).cells.toList.length)).toArray) :=zav U (by simp[hsz];omega) rfl (λq hq=>by simp[za3,ad]at hq) (λ_ _=>rfl);have X:zv γ w (splice cs A (aa.ev ρ).cells) (vs.take A++(a.eval y).cells.toList++vs.drop (A+(a.eval y).cells.toList.length)):=zv.splice ⟨am,ap,hr⟩ ⟨ab,c1,ah⟩ A;refine zfK aq (an γ _ _ _ _ (W.weaken λc e=>by subst e;simp[keysOf,J]) (zbr ae W (.cells _ _ E ad (zbx w b _ _ E _ U) X.1 X.2.1 λi c v al Y=>(X.2.2 i c v al Y).mono W.mono)) (zbi (by simp[J])) (.tup [] [] rfl (by simp)) aj)
def zo2{P:Program}{γ:Gh}{w:World}{o:Own}{sz:Nat}{A:List (List AV)}{v:Value}{Y aa:TypeId}(I:P.underlying Y=some (.slice aa))(h:Rep γ w (.sl o sz A) v):
  ∃news,Src P sz Y v A.length news w/\zv γ w A.flatten news/\(A≠[]->∀y∈A,y.length=sz):=by
 obtain⟨W,cap,ah,aj⟩:=h.slice_form;subst ah;cases h with
 | slnil _ _ _=>exact⟨[],Src.ofNil w I 0,⟨rfl,by simp,by simp⟩,by simp⟩
 | sl0 _ _ W _=>exact⟨[],Src.ofSlice w I W 0 0 [] (by simp) (by simp) (by simp),⟨rfl,by simp,by simp⟩,by simp⟩
 | sl _ _ _ b ai _ cv ab ae U ac hr ho =>obtain⟨_,_,_,_,_,Z,X,J,af⟩:=(Rep.sl o sz A b ai cap cv ab ae U ac hr ho).flat;refine⟨Z,Src.ofSlice w I _ _ _ Z (by rw[<-X,yE sz A U]) (λj u ad=>by rw[addr_add];exact(J j u ad).1) (λu ag=>?_),⟨X,λi u hi=>(J i u hi).2.2,af⟩,λ_=>U⟩;obtain⟨i,hi⟩:=List.mem_iff_getElem?.1 ag;exact(J i u hi).2.2
def zoU{P:Program}{γ:Gh}{w:World}{Z:TypeId}(ab:P.underlying Z=some .string)(s:List UInt8):
  ∃news,Src P 1 Z (.string ⟨s.toArray⟩) (bytesOf s).length news w/\zv γ w (bytesOf s).flatten news/\(bytesOf s≠[]->∀y∈bytesOf s,y.length=1):=by
 have W:(bytesOf s).length=s.length:=by simp[bytesOf]
 have J:(bytesOf s).flatten=s.map λc=>AV.int .u8 c.toNat:=by
  clear W;unfold bytesOf;induction s with
  | nil=>rfl
  | cons x s ad=>rw[List.map_cons,List.flatten_cons,ad];rfl
 have aa:byteCells ⟨s.toArray⟩=s.map λc=>Value.int .u8 c.toNat:=by simp[byteCells]
 have X:=Src.ofString (P:=P) w ab ⟨s.toArray⟩;rw[ze1,aa]at X;refine⟨_,by rw[W];exact X,⟨by rw[J,List.length_map,List.length_map],λi u A=>?_,λi c u I A=>?_⟩,λ_ y Y=>?_⟩
 ·simp only[Yg,zbA]at A;obtain⟨k,_,rfl⟩:=A;rfl
 ·rw[J]at I;simp only[Yg,zbA]at I A;obtain⟨k,ac,rfl⟩:=I;obtain⟨ae,U,rfl⟩:=A;rw[ac]at U;cases U;exact .int _ _
 ·simp only[bytesOf,List.mem_map]at Y;obtain⟨_,_,rfl⟩:=Y;rfl
def zjC(A:List (List AV)):(A.map (·.map AV.strip1)).flatten=A.flatten.map AV.strip1:=by
 induction A with
 | nil=>rfl
 | cons y A I=>rw[List.map_cons,List.flatten_cons,List.flatten_cons,List.map_append,I]
section
variable {P:Program} {w:World}
def zdy(t J W e:TypeId)(i:TypeInfo)(U:P.underlying t=some (.slice e))(hi:P.info? e=some i)(x:Value)(news:List Value)(A:Src P i.size J x 0 news w):
  (Builtin.append_ #[t,J] W #[.slice none 0 0,x]).run P w=.ok (.slice none 0 0) w:=by
 rcases A.kind with ⟨X,I⟩|I<;>simp[Builtin.append_,run_underlying U,run_underlying I,sizeOf,typeInfo,hi,A.len,A.cells]
def ziE(t Y ad e:TypeId)(i:TypeInfo)(ac:P.underlying t=some (.slice e))(hi:P.info? e=some i)(b I A U:Nat)(cur:Array Value)(E:TypeId)(Z:w.heap[b]?=some (.cells cur E (0,0)))(x:Value)(n:Nat)(news:List Value)(J:Src P i.size Y x n news w)(ab:A+n<=U)(aa:I+A*i.size+news.length<=cur.size):
  (Builtin.append_ #[t,Y] ad #[.slice (some ⟨b,I,none⟩) A U,x]).run P w = .ok (.slice (some ⟨b,I,none⟩) (A+n) U) (w.setRow b (cur.toList.take (I+A*i.size)++news++cur.toList.drop (I+A*i.size+news.length)).toArray):=by
 have X:=run_storeCells_at P b (I+A*i.size) E news 0 cur w Z (by simpa using aa) J.one;simp only[Nat.add_zero]at X;rcases J.kind with ⟨ae,W⟩|W<;>simp[Builtin.append_,run_underlying ac,run_underlying W,sizeOf,typeInfo,hi,J.len,ab,J.cells,Addr.add_lit,X]
def za1(t X aa e:TypeId)(i:TypeInfo)(Z:P.underlying t=some (.slice e))(hi:P.info? e=some i)(J:Addr)(A:Nat)(x:Value)(news:List Value)(I:Src P i.size X x 0 news w)(Y:news=[]):
  (Builtin.append_ #[t,X] aa #[.slice (some J) A A,x]).run P w=.ok (.slice (some J) A A) w:=by
 have U:=I.cells;rw[Y]at U;rcases I.kind with ⟨ab,W⟩|W<;>simp[Builtin.append_,run_underlying Z,run_underlying W,sizeOf,typeInfo,hi,I.len,U,storeCells]
end
def zhN{H:zb}{w:World}{b:Nat}{x:AObj}(J:(H b).isSome=true){I:Nat}(h':I=b∨w.heap.size<=I):yn H w ((H.del b).upd I x):=by
 intro c A;unfold zb.upd at A;split at A
 ·rename_i e;subst e;rcases h' with rfl|h'
  ·exact .inl J
  ·exact .inr h'
 ·unfold zb.del at A;split at A
  ·cases A
  ·exact .inl A
def zkk{γ:Gh}{w:World}{H:zb}(I:zq γ w H)(b:Nat):zq γ w (H.del b):=I.sub λc o A=>by
 unfold zb.del at A;split at A
 ·cases A
 ·exact A
def ziv{P:Program}{o:Oper}{a:Act}{γ:Gh}{w:World}{H:zb}{K:AV->zb->Prop}{next:Act->World->Prop}{Q:Exit->Act->World->Prop}{t ae e:TypeId}{i:TypeInfo}{z:Value}{sz bytes:Nat}(ar:P.underlying t=some (.slice e))(hi:P.info? e=some i)(cq:i.zero=some z)(hsz:i.size=sz)(b7:i.bytes=bytes)(cr:z.cells.size=sz)(cw:0<sz){own own':Own}{I ct:Nat}{xs A:List (List AV)}{v x:Value}(ag:Rep γ w (.sl own I xs) v){news:List Value}(b2:Src P sz ae x A.length news w)(cd:zv γ w A.flatten news)(cp:A≠[]->∀y∈A,y.length=sz)(X:zq γ w H)(cg:zmH sz bytes (.sl own I xs) (.sl own' ct A) H K)(aa:∀r w',(Builtin.append_ #[t,ae] o.type #[v,x]).run P w=.ok r w'->(execOp a.eval o).run P w=.ok (.value r) w')(an:∀γ' w' H' c v,Ext (keysOf H) γ w γ' w'->zq γ' w' H'->yn H w H'->Rep γ' w' c v->K c H'->next (a.put o.dst v) w'):o.wp P a w next Q:=by
 obtain⟨b5,b6,b8,bw,a4⟩:=cg;subst b6;subst b5;have b4:∀y∈A.map (·.map AV.strip1),y.length=I:=by intro y J;simp only[List.mem_map]at J;obtain⟨cu,b3,rfl⟩:=J;rw[List.length_map];exact cp (List.ne_nil_of_mem b3) cu b3
 have bx:zv γ w (A.map (·.map AV.strip1)).flatten news:=by rw[zjC];exact zfL cd
 have ao:news.length=A.length*I:=by rw[b2.newsLen]
 have aq:Src P i.size ae x A.length news w:=by rw[hsz];exact b2
 have grown:∀(base:Option Addr) (cap:Nat) (ak:List Value) (H':zb),v=.slice base xs.length cap->(Builtin.firstCells i.size xs.length (.slice base xs.length cap)).run P w.drew=.ok ak.toArray w.drew ->
   zv γ w xs.flatten ak->ak.length=xs.length*I->(∀y∈xs,y.length=I)->cap<xs.length+A.length->zq γ w H' ->
   yn H w (H'.upd w.heap.size (.tip (xs.length+A.length) I)) ->
   K (.sl (.tip w.heap.size 0) I (xs++A.map (·.map AV.strip1))) (H'.upd w.heap.size (.tip (xs.length+A.length) I))->o.wp P a w next Q:=by
  intro base cap ak H' U hold ca bz ck bv ch cb Y;have hr:=run_append_grow_src (P:=P) w t ae o.type e i z ar hi cq base xs.length cap ak hold x A.length news aq bv (by simp only[maxLen]at bw;omega) (growslice_fits bv (by rw[b7];exact b8));rw[<-U]at hr;generalize a8:grownCap w (xs.length+A.length) cap e=au at hr;have br:xs.length+A.length<=au:=a8▸grownCap_ge w _ cap e;have cc:au<=maxLen:=a8▸grownCap_le_maxLen w _ cap e bw;generalize bn:(ak++news).toArray++Builtin.zeroCells z.cells (au-(xs.length+A.length))=arr at hr;have bo:arr.size=au*I:=by
   rw[<-bn];simp only[Array.size_append,List.size_toArray,Al5,size_zeroCells,cr,bz,ao,<-Nat.add_mul]
   congr 1
   omega
  have am:Ext (λ_=>False) γ w (λb=>if b=w.heap.size then .buf ((xs.length+A.length)*I)else γ b) (w.drew.alloc (.cells arr e)) :=(YA (λ_=>False) γ w).trans (Yn (λ_=>False) γ w.drew (.buf ((xs.length+A.length)*I)) arr e) (λ_ _ f=>f);have be:(w.drew.alloc (.cells arr e)).heap[w.heap.size]?=some (.cells arr e (0,0)):=heap_alloc_new w.drew _;have aj:zv (λb=>if b=w.heap.size then .buf ((xs.length+A.length)*I)else γ b) (w.drew.alloc (.cells arr e)) (xs++A.map (·.map AV.strip1)).flatten (ak++news):=by rw[List.flatten_append];have al:=zv.append ca bx;exact⟨al.1,al.2.1,λi c u ai ac=>(al.2.2 i c u ai ac).mono am.mono⟩
  have hlen:(xs++A.map (·.map AV.strip1)).length=xs.length+A.length:=by simp
  have bk:∀y∈xs++A.map (·.map AV.strip1),y.length=I:=λy J=>by
   rcases List.mem_append.1 J with h|h
   ·exact ck y h
   ·exact b4 y h
  refine yN (aa _ _ hr) (an _ _ _ _ _ (am.weaken λ_ f=>f.elim) (zaK (F:=λ_=>False) ch am (.tip _ _ arr e (by simp) be (by rw[bo];exact Nat.mul_le_mul_right _ br))) cb ?_ Y);rw[show (Value.slice (some ⟨w.heap.size,0,none⟩) (xs.length+A.length) au)=Value.slice (some ⟨w.heap.size,0,none⟩) (xs++A.map (·.map AV.strip1)).length au from by rw[hlen]];refine Rep.sl_flat bk aj.1 (λk u Y=>?_) aj.2.2 (by rw[hlen];exact br) cc (.inr ⟨by rw[Nat.zero_mul],arr,e,be,by rw[bo,Nat.zero_add]⟩);have av:k<(ak++news).length:=(zaB.1 Y).1;refine⟨?_,?_,aj.2.1 k u Y⟩
  ·rw[Nat.zero_add,cell_of_row _ _ _ _ _ _ be,<-bn];rw[Array.getElem?_append_left (by simpa using av)];simpa using Y
  ·simp only[za3,if_true,Nat.zero_add];rw[Al5,bz,ao,<-Nat.add_mul]at av;exact av
 obtain⟨a3,cap,U,a8⟩:=ag.slice_form;cases own with
 | no=>exact a4.elim
 | nil =>
  obtain⟨a0,af⟩:=a4;rw[U]at ag;cases ag with
  | sl _ _ _ b Z _ cv ai bd ac bp hr ho=>exact ho.elim
  | sl0 _ _ _ ho=>simp at ho
  | slnil _ _ _ =>
   by_cases J:A=[]
   ·subst J;have hr:=zdy (P:=P) t ae o.type e i ar hi x news aq;rw[U]at aa;exact yN (aa _ _ hr) (an γ w H _ _ (.refl _ _ _) X (yn.refl _ _) (.slnil .nil _ (by simp)) (a0 rfl))
   ·have aw:0<A.length:=List.length_pos_iff.2 J;refine grown none 0 [] H U (run_firstCells_none _ _ _ _ _) ⟨rfl,by simp,by simp⟩ (by simp) (by simp) (by simpa using aw) X ZD (af J _ (ZX X))
 | full =>
  obtain⟨a0,af⟩:=a4;have ad:=ag;rw[U]at ag;cases ag with
  | slnil _ _ _ =>
   by_cases J:A=[]
   ·subst J;have hr:=zdy (P:=P) t ae o.type e i ar hi x news aq;rw[U]at aa;exact yN (aa _ _ hr) (an γ w H _ _ (.refl _ _ _) X (yn.refl _ _) (.slnil .full _ (by simp)) (a0 rfl))
   ·have aw:0<A.length:=List.length_pos_iff.2 J;refine grown none 0 [] H U (run_firstCells_none _ _ _ _ _) ⟨rfl,by simp,by simp⟩ (by simp) (by simp) (by simpa using aw) X ZD (af J _ (ZX X))
  | sl0 _ _ a3 _ =>
   by_cases J:A=[]
   ·subst J;have a2:news=[]:=List.eq_nil_of_length_eq_zero (by rw[ao];simp);have hr:=za1 (P:=P) t ae o.type e i ar hi a3 0 x news aq a2;rw[U]at aa ad;exact yN (aa _ _ hr) (an γ w H _ _ (.refl _ _ _) X (yn.refl _ _) ad (a0 rfl))
   ·have aw:0<A.length:=List.length_pos_iff.2 J;refine grown (some a3) 0 [] H U ?_ ⟨rfl,by simp,by simp⟩ (by simp) (by simp) (by simpa using aw) X ZD (af J _ (ZX X));exact run_firstCells_some w.drew i.size 0 a3 0 0 [] (by simp) (by simp)
  | sl _ _ _ b Z _ cv ai bd ac bp hr ho =>
   have bq:xs.length=cap:=ho;by_cases J:A=[]
   ·subst J;have a2:news=[]:=List.eq_nil_of_length_eq_zero (by rw[ao];simp);have hr:=za1 (P:=P) t ae o.type e i ar hi ⟨b,Z,none⟩ xs.length x news aq a2;rw[U,<-bq]at aa;rw[U,<-bq]at ad;exact yN (aa _ _ hr) (an γ w H _ _ (.refl _ _ _) X (yn.refl _ _) ad (a0 rfl))
   ·have aw:0<A.length:=List.length_pos_iff.2 J;rw[U]at ad;obtain⟨_,_,_,_,_,ab,ax,ap,aj⟩:=ad.flat;have ay:ab.length=xs.length*I:=by rw[<-ax,yE I xs ac]
    refine grown (some ⟨b,Z,none⟩) cap ab H U ?_ ⟨ax,λi u hi=>(ap i u hi).2.2,aj⟩ ay ac (by omega) X ZD (af J _ (ZX X));exact run_firstCells_some w.drew i.size xs.length ⟨b,Z,none⟩ xs.length cap ab (by rw[hsz];exact ay) (λj u ba=>by rw[addr_add];exact(ap j u ba).1)
 | tip b d =>
  obtain⟨az,af⟩:=a4;have ad:=ag;rw[U]at ag;cases ag with
  | slnil _ _ ce=>exact absurd rfl (ce b d)
  | sl0 _ _ _ ho=>simp at ho
  | sl _ _ _ W Z _ cv ai bd ac bp hr ho =>
   rw[U]at ad;have hx1:=ad;obtain⟨_,_,_,_,_,ab,ax,ap,aj⟩:=ad.flat;have ay:ab.length=xs.length*I:=by rw[<-ax,yE I xs ac]
   by_cases b1:xs.length+A.length<=cap
   ·rcases ho with b9|⟨bl,arr,E,a5,a7⟩
    ·-- nothing there,nothing new
     have cl:xs.length=0:=by omega
     have cn:A.length=0:=by omega
     have co:A=[]:=List.eq_nil_of_length_eq_zero cn;have cm:xs=[]:=List.eq_nil_of_length_eq_zero cl;subst co;subst cm;subst b9;have a2:news=[]:=List.eq_nil_of_length_eq_zero (by rw[ao];simp);have hr:=za1 (P:=P) t ae o.type e i ar hi ⟨W,Z,none⟩ 0 x news aq a2;rw[U]at aa;have cj:(H.del b).upd b (.tip (d+(([]:List (List AV)).length+([]:List (List AV)).length)) I)=H:=by
      funext c;simp only[zb.upd,zb.del];split
      ·rename_i e;subst e;rw[az];simp
      ·rfl
     have Y:=af b d (by simp[zb.del]);rw[cj]at Y;exact yN (aa _ _ hr) (an γ w H _ _ (.refl _ _ _) X (yn.refl _ _) (by simpa using hx1) Y)
    simp only[Addr.mk.injEq]at bl;obtain⟨rfl,rfl,_⟩:=bl;have a9:d*I+xs.length*i.size+news.length<=arr.size:=by rw[hsz,ao,a7,<-Nat.add_mul,<-Nat.add_mul];exact Nat.mul_le_mul_right _ (by omega)
    have a6:=ziE (P:=P) t ae o.type e i ar hi W (d*I) xs.length cap arr E a5 x A.length news aq b1 a9;rw[U]at aa;rw[hsz]at a6;rw[hsz]at a9;generalize cf:d*I+xs.length*I=Z at a6 a9;generalize bg:(arr.toList.take Z++news++arr.toList.drop (Z+news.length)).toArray=ah at a6;have ci:(arr.toList.take Z).length=Z:=by simp;omega
    have bj:ah.size=arr.size:=by rw[<-bg];simp;omega
    have bu:∀k,k<Z->ah[k]?=arr[k]?:=by intro k Y;rw[<-bg,List.getElem?_toArray,ZP,zeA (by omega),zns,if_pos Y];simp
    have hpre:∀k,k<(ab++news).length->ah[d*I+k]?=(ab++news)[k]?:=by
     intro k Y;rcases Nat.lt_or_ge k ab.length with a1|a1
     ·rw[zeA a1,bu _ (by omega)];have:=(ap k ab[k] (Al9 a1)).1;rw[cell_of_row w W _ arr E _ a5]at this;rw[Al9 a1,<-this]
     ·rw[Al5]at Y;rw[zhT a1,<-bg,List.getElem?_toArray,ZP,zhT (by omega),ci,zeA (by omega)]
      congr 1
      omega
    have Y:γ W=.buf ((d+xs.length)*I):=by
     cases X W _ az with
     | tip _ _ _ _ Y _ _=>exact Y
    have am:Ext (λc=>c=W) γ w (λc=>if c=W then .buf ((d+(xs.length+A.length))*I)else γ c) (w.setRow W ah) :=zav a5 bj rfl (λq hq=>by simp only[za3,Y]at hq;rw[Nat.add_mul,cf]at hq;refine⟨?_,bu q hq⟩;simp only[za3,if_true];rw[Nat.add_mul,Nat.add_mul];omega) (λc ai=>by simp[ai]);have bh:=zbx w W ah arr E _ a5;have bf:zv (λc=>if c=W then .buf ((d+(xs.length+A.length))*I)else γ c) (w.setRow W ah) (xs++A.map (·.map AV.strip1)).flatten (ab++news):=by rw[List.flatten_append];have al:=zv.append (γ:=γ) (w:=w) ⟨ax,λi u hi=>(ap i u hi).2.2,aj⟩ bx;exact⟨al.1,al.2.1,λi c u ai ac=>(al.2.2 i c u ai ac).mono am.mono⟩
    have hlen:(xs++A.map (·.map AV.strip1)).length=xs.length+A.length:=by simp
    have bk:∀y∈xs++A.map (·.map AV.strip1),y.length=I:=λy J=>by
     rcases List.mem_append.1 J with h|h
     ·exact ac y h
     ·exact b4 y h
    refine yN (aa _ _ a6) (an _ _ _ _ _ (am.weaken λc e=>by subst e;simp[keysOf,az]) (zbr (zkk X W) am (.tip _ _ ah E (by simp) bh (by rw[bj,a7];exact Nat.mul_le_mul_right _ (by omega)))) (zhN (by simp[az]) (.inl rfl)) ?_ (af W d (by simp[zb.del])));rw[show (Value.slice (some ⟨W,d*I,none⟩) (xs.length+A.length) cap)=Value.slice (some ⟨W,d*I,none⟩) (xs++A.map (·.map AV.strip1)).length cap from by rw[hlen]];refine Rep.sl_flat bk bf.1 (λk u bc=>?_) bf.2.2 (by rw[hlen];exact b1) bd (.inr ⟨rfl,ah,E,bh,by rw[bj,a7]⟩);have av:k<(ab++news).length:=(zaB.1 bc).1;refine⟨?_,?_,bf.2.1 k u bc⟩
    ·rw[cell_of_row _ _ _ _ _ _ bh,hpre k av];exact bc
    ·simp only[za3,if_true];rw[Al5,ay,ao,<-Nat.add_mul]at av;rw[Nat.add_mul];omega
   ·have bt:=af w.heap.size 0 (by
     unfold zb.del;split
     ·rfl
     ·exact ZX X)
    rw[Nat.zero_add]at bt;refine grown (some ⟨W,Z,none⟩) cap ab (H.del b) U ?_ ⟨ax,λi u hi=>(ap i u hi).2.2,aj⟩ ay ac (by omega) (zkk X b) (zhN (by simp[az]) (.inr (Al4 _))) bt;exact run_firstCells_some w.drew i.size xs.length ⟨W,Z,none⟩ xs.length cap ab (by rw[hsz];exact ay) (λj u ba=>by rw[addr_add];exact(ap j u ba).1)
def zza{P:Program}{o:Oper}{t X e Y:TypeId}{x y:Operand}{x' I:Opd}{i:TypeInfo}{z:Value}{sz bytes:Nat}(ho:o.op=.call { callee:=.builtin .append,args:=#[x,y],argTypes:=#[t,X] })(h:zN x x'=true)(Z:zN y I=true)(ah:P.underlying t=some (.slice e))(ai:P.underlying X=some (.slice Y))(hi:P.info? e=some i)(am:i.zero=some z)(hsz:i.size=sz)(aa:i.bytes=bytes)(an:z.cells.size=sz)(ad:0<sz):zgC P o (.app sz bytes x' I):=by
 intro γ w H ρ a K KP next Q J ae A ab ap
 simp only[aop,AOp.cls,eff]at A;have U:=zr h J;have W:=zr Z J;cases aj:x'.ev ρ<;>rw[aj]at A U<;>try (exact False.elim A)
 cases ak:I.ev ρ<;>rw[ak]at A W<;>try (exact False.elim A)
 rename_i own aq xs own' ao ar;have af:ao=sz:=A.2.1;subst af;obtain⟨news,ag,ac,al⟩:=zo2 (P:=P) ai W;refine ziv ah hi am hsz aa an ad U ag ac al ae A (λr w' hr=>?_) ab;simp[execOp,ho,resolve,invoke,builtin,hr]
def zvN{P:Program}{o:Oper}{t X e:TypeId}{x y:Operand}{x' J:Opd}{i:TypeInfo}{z:Value}(ho:o.op=.call { callee:=.builtin .append,args:=#[x,y],argTypes:=#[t,X] })(h:zN x x'=true)(Y:zN y J=true)(ae:P.underlying t=some (.slice e))(af:P.underlying X=some .string)(hi:P.info? e=some i)(ak:i.zero=some z)(hsz:i.size=1)(Z:i.bytes=1)(al:z.cells.size=1):zgC P o (.apps x' J):=by
 intro γ w H ρ a K KP next Q U ac A aa am
 simp only[aop,AOp.cls,eff]at A;have W:=zr h U;have I:=zr Y U;cases ai:J.ev ρ<;>rw[ai]at A I<;>try (exact False.elim A)
 rename_i s;simp only[]at A;generalize ag:a.eval y=v at I;cases I;cases ah:x'.ev ρ<;>rw[ah]at A W<;>try (exact False.elim A)
 rename_i own an xs;obtain⟨news,ad,ab,aj⟩:=zoU (P:=P) (γ:=γ) (w:=w) af s;refine ziv ae hi ak hsz Z al (by omega) W ad ab aj ac A (λr w' hr=>?_) aa;simp[execOp,ho,resolve,invoke,builtin,ag,hr]
def zcr(P:Program)(n:Nat)(e:TypeId)(ks:List K1):Bool :=
 match ks with
 | [k,k']=>decide (n=2)&&decide (k'=k)&&k.isTy P e&&(match P.info? e with|some i=>decide (i.size=1)|none=>false)
 | _=>false
def zef{P:Program}{e:TypeId}(h:(match P.info? e with|some i=>decide (i.size=1)|none=>false)=true)(w:World):(sizeOf e).run P w=.ok 1 w:=by
 cases hi:P.info? e with
 | none=>simp[hi]at h
 | some i =>simp only[hi,z6]at h;simp[sizeOf,typeInfo,Sem.run_bind,hi,h]
def zs5:List.range' 0 2 1=[0,1]:=rfl
def zoq{P:Program}{w:World}{γ:Gh}{t e:TypeId}{n:Nat}{W:List K1}{as bs:List AV}{us vs:List Value}(ae:P.underlying t=some (.array n e))(A:zcr P n e W=true)(I:zX W as=true)(J:zX W bs=true)(ac:as.length=us.length)(ad:bs.length=vs.length)(hr:∀(i:Nat) (c:AV) (v:Value),as[i]?=some c->us[i]?=some v->Rep γ w c v)(Z:∀(i:Nat) (c:AV) (v:Value),bs[i]?=some c->vs[i]?=some v->Rep γ w c v)(m:Nat):
  (Op.equalIn (m+2) t (.agg us.toArray) (.agg vs.toArray)).run P w=.ok (zcS as bs) w:=by
 match W,A with
 | [k,k'],A =>
  simp only[zcr,Al0,z6]at A;obtain⟨⟨⟨rfl,rfl⟩,U⟩,hsz⟩:=A
  match as,us,ac with
  | [a0,a1],[u0,u1],_ =>
   match bs,vs,ad with
   | [b0,b1],[v0,v1],_ =>
    simp only[zX,Al0,Bool.and_true]at I J;have aj:=hr 0 a0 u0 rfl rfl;have ak:=hr 1 a1 u1 rfl rfl;have al:=Z 0 b0 v0 rfl rfl;have am:=Z 1 b1 v1 rfl rfl;have aa:=zgt U I.1 J.1 aj al m;have ab:=zgt U I.2 J.2 ak am m;have af:(part e #[u0,u1] (0*1)).run P w=.ok u0 w:=by simp[part,ZY U]
    have ag:(part e #[u0,u1] (1*1)).run P w=.ok u1 w:=by simp[part,ZY U]
    have ah:(part e #[v0,v1] (0*1)).run P w=.ok v0 w:=by simp[part,ZY U]
    have ai:(part e #[v0,v1] (1*1)).run P w=.ok v1 w:=by simp[part,ZY U]
    rw[Op.equalIn];simp only[Sem.run_bind,run_underlying ae,Result.andThen_ok,zef hsz];rw[Std.Legacy.Range.forIn_eq_forIn_range'];simp only[Std.Legacy.Range.size,Nat.sub_zero,Nat.add_one_sub_one,Nat.div_one,zs5,List.forIn_cons,List.forIn_nil,Sem.run_bind,af,ah,aa,Result.andThen_ok];cases X:a0.keq1 b0
    ·simp[zcS,X]
    ·simp only[Bool.not_true,Al7,if_false,Sem.run_bind,Sem.run_pure,ag,ai,ab,Result.andThen_ok];cases Y:a1.keq1 b1
     ·simp[zcS,X,Y]
     ·simp[zcS,X,Y]
   | [],_,_=>simp[zX]at J
   | [_],_,_=>simp[zX]at J
   | _::_::_::_,_,_=>simp[zX]at J
  | [],_,_=>simp[zX]at I
  | [_],_,_=>simp[zX]at I
  | _::_::_::_,_,_=>simp[zX]at I
 | [],A=>simp[zcr]at A
 | [_],A=>simp[zcr]at A
 | _::_::_::_,A=>simp[zcr]at A
def zdE(P:Program)(t:TypeId)(kt:KT):Bool :=
 match kt with
 | .one k=>k.isTy P t
 | .agg ks=>match P.underlying t with
  | some (.struct fs)=>zbF P fs.toList 0 ks&&!P.stoodInHeld t
  | some (.array n e)=>zcr P n e ks
  | _=>false
def zjU{c:AV}{v:Value}(h:c.conc1=some v)(γ:Gh)(w:World):Rep γ w c v:=by
 cases c<;>simp only[AV.conc1,Al1]at h<;>try (cases h;done)
 ·subst h;exact .bool _
 ·subst h;exact .int _ _
 ·subst h;exact .str _
def zrM{c:AV}{v:Value}(h:c.conc1=some v):v.oneCell'=true:=by cases c<;>simp only[AV.conc1,Al1]at h<;>first|(cases h;done)|(subst h;rfl)
def zkw:∀ {cs:List AV} {vs:List Value},zby cs=some vs->∀(γ:Gh) (w:World),zv γ w cs vs
 | [],vs,h,γ,w=>by simp only[zby,Al1]at h;subst h;exact⟨rfl,by simp,by simp⟩
 | c::cs,vs,h,γ,w=>by
  unfold zby at h;cases I:c.conc1 with
  | none=>simp[I]at h
  | some v =>
   cases J:zby cs with
   | none=>simp[I,J]at h
   | some Y =>
    simp only[I,J,Al1]at h;subst h;have X:=zkw J γ w;have W:zv γ w [c] [v]:=⟨rfl,λi u A=>by
     cases i with
     | zero=>simp at A;subst A;exact zrM I
     | succ i=>simp at A,λi d u U A=>by
     cases i with
     | zero=>simp at U A;subst U;subst A;exact zjU I γ w
     | succ i=>simp at U⟩
    exact W.append X
def zmr{c:AV}{v:Value}(h:c.conc=some v)(γ:Gh)(w:World):Rep γ w c v:=by
 cases c with
 | agg cs =>simp only[AV.conc,zbA]at h;obtain⟨vs,A,rfl⟩:=h;have:=zkw A γ w;exact .agg _ _ this.1 this.2.1 this.2.2
 | _=>(simp only[AV.conc]at h;exact zjU h γ w)
def zkN{c:AV}{v:Value}{k:K1}{γ:Gh}{w:World}(A:k.fits c=true)(h:Rep γ w c v):c.conc1=some v:=by cases k<;>cases c<;>simp[K1.fits]at A<;>cases h<;>rfl
def zkg{γ:Gh}{w:World}:∀ {A:List K1} {cs:List AV} {vs:List Value},zX A cs=true->cs.length=vs.length->(∀(i:Nat) (c:AV) (v:Value),cs[i]?=some c->vs[i]?=some v->Rep γ w c v)->zby cs=some vs
 | _,[],[],_,_,_=>rfl
 | _,[],_::_,_,h,_=>by simp at h
 | _,_::_,[],_,h,_=>by simp at h
 | [],_::_,_::_,h,_,_=>by simp[zX]at h
 | k::A,c::cs,v::vs,hf,hl,hr=>by simp only[zX,Al0]at hf;have I:=zkN hf.1 (hr 0 c v rfl rfl);have J:=zkg hf.2 (by simpa using hl) (λi c v U W=>hr (i+1) c v (by simpa using U) (by simpa using W));simp[zby,I,J]
def ziJ{c:AV}{v:Value}{I:KT}{γ:Gh}{w:World}(A:I.fits c=true)(h:Rep γ w c v):c.conc=some v:=by
 cases I with
 | one k =>have:=zkN (k:=k) A h;cases c<;>first|exact this|(cases k<;>simp[KT.fits,K1.fits]at A)
 | agg W =>
  cases c<;>simp[KT.fits]at A;cases h with
  | agg _ vs J U hr=>simp[AV.conc,zkg A J hr]
def zpW{c d:AV}{k:K1}(h:k.fits c=true):c.keq d=c.keq1 d:=by cases k<;>cases c<;>simp[K1.fits]at h<;>cases d<;>rfl
def zpT{P:Program}{w:World}{W:KT}{t:TypeId}{c d:AV}{u v:Value}(I:zdE P t W=true)(A:W.fits c=true)(U:W.fits d=true)(ag:c.conc=some u)(ah:d.conc=some v):
  (Op.equal t u v).run P w=.ok (c.keq d) w:=by
 have γ:Gh:=λ_=>.imm;have aa:=zmr ag γ w;have rd:=zmr ah γ w;unfold Op.equal Op.maxDepth;cases W with
 | one k=>rw[zpW (k:=k) A];exact zgt I A U aa rd 9999
 | agg ai =>
  cases c<;>simp[KT.fits]at A;cases d<;>simp[KT.fits]at U;rename_i as bs;unfold zdE at I;simp only at I;cases J:P.underlying t with
  | none=>simp[J]at I
  | some ds =>
   cases ds<;>simp only[J]at I<;>try (cases I;done)
   case array n e =>
    cases aa with
    | agg _ vs X ae hr =>
     cases rd with
     | agg _ ab Y af Z=>exact zoq (m:=9998) J I A U X Y hr Z
   rename_i ac;simp only[Al0,Bool.not_eq_true']at I;cases aa with
   | agg _ vs X ae hr =>
    cases rd with
    | agg _ ab Y af Z =>
     have ad:P.fieldsOf t=ac:=by simp[Program.fieldsOf,J]
     rw[run_equalIn_struct w 9999 t _ _ (by rw[ad];exact J) I.2,ad];exact zda (γ:=γ) 9998 _ _ ac.toList 0 ai as bs I.1 A U
      (λi c A=>by
       have hi:i<vs.length:=by rw[<-X];exact(zaB.1 A).1
       exact⟨vs[i],by simp[hi],hr i c _ A (Al9 hi)⟩)
      (λi c A=>by
       have hi:i<ab.length:=by rw[<-Y];exact(zaB.1 A).1
       exact⟨ab[i],by simp[hi],Z i c _ A (Al9 hi)⟩)
def za7(es:List (AV×AV))(k:AV):Option Nat :=
 match es with
 | []=>none
 | (a,_)::r=>if k.keq a then some 0 else (za7 r k).map (·+1)
def zel{P:Program}{w:World}{γ:Gh}{I:KT}{t:TypeId}{k:AV}{X:Value}(U:zdE P t I=true)(J:I.fits k=true)(W:k.conc=some X):∀(es:List (AV×AV)) (cs:List MapEntry) (n:Nat),
  es.length=cs.length->(∀x∈es,I.fits x.1=true)->(∀(i:Nat) (x:AV×AV) (e:MapEntry),es[i]?=some x->cs[i]?=some e->EntryRel γ w x e) ->
  (Instr.findAsking t X cs n).run P w=.ok ((za7 es k).map λi=>(n+i,(cs.getD i default).val)) w
 | [],[],n,_,_,_=>rfl
 | [],_::_,_,h,_,_=>by simp at h
 | _::_,[],_,h,_,_=>by simp at h
 | x::es,e::cs,n,hl,hfit,hr=>by
  have ab:=hr 0 x e rfl rfl;have Z:=zpT (w:=w) U J (hfit x (zaW ..)) W ab.key;have ac:=zel U J W es cs (n+1) (by simpa using hl) (λy A=>hfit y (zbR _ A)) (λi y Y A aa=>hr (i+1) y Y (by simpa using A) (by simpa using aa));simp only[Instr.findAsking,Sem.run_bind,Z,Result.andThen_ok,za7];cases hq:k.keq x.1
  ·simp only[Al7,if_false,ac];cases za7 es k with
   | none=>rfl
   | some i=>simp;omega
  ·simp
def znq{P:Program}{w:World}{t:TypeId}{d:TypeDesc}(I:P.underlying t=some d){u v:Value}{b:Bool}(A:Instr.sameNow d u v=some b):(Op.equal t u v).run P w=.ok b w:=by
 unfold Instr.sameNow at A;unfold Op.equal Op.maxDepth;rw[Op.equalIn];split at A
 ·split at A
  ·rename_i J;simp only[Al1]at A;simp[run_underlying I,J,A]
  ·cases A
 ·simp only[Al1]at A;simp[run_underlying I,A]
 ·simp only[Al1]at A;simp[run_underlying I,A]
 ·cases A
def zhJ{P:Program}{w:World}{γ:Gh}{U:KT}{t:TypeId}{d:TypeDesc}{k:AV}{I:Value}(X:P.underlying t=some d)(Z:zdE P t U=true)(Y:U.fits k=true)(aa:k.conc=some I):∀(es:List (AV×AV)) (cs:List MapEntry) (n:Nat) (r:Option (Nat×Value)),
  es.length=cs.length->(∀x∈es,U.fits x.1=true)->(∀(i:Nat) (x:AV×AV) (e:MapEntry),es[i]?=some x->cs[i]?=some e->EntryRel γ w x e) ->
  Instr.findNow d I cs n=some r->r=(za7 es k).map λi=>(n+i,(cs.getD i default).val)
 | [],[],n,r,_,_,_,h=>by simp only[Instr.findNow,Al1]at h;subst h;rfl
 | [],_::_,_,_,h,_,_,_=>by simp at h
 | _::_,[],_,_,h,_,_,_=>by simp at h
 | x::es,e::cs,n,r,hl,hfit,hr,h=>by
  have ag:=hr 0 x e rfl rfl;have ad:=zpT (w:=w) Z Y (hfit x (zaW ..)) aa ag.key;simp only[Instr.findNow]at h;have af:∀b,Instr.sameNow d I e.key=some b->k.keq x.1=b:=by intro b ac;have W:=znq (P:=P) (w:=w) X ac;rw[ad]at W;simpa using W
  cases A:Instr.sameNow d I e.key with
  | none=>simp[A]at h
  | some b =>
   have hq:=af b A;cases b
   ·simp only[A]at h;have ah:=zhJ X Z Y aa es cs (n+1) r (by simpa using hl) (λy J=>hfit y (zbR _ J)) (λi y ab J ae=>hr (i+1) y ab (by simpa using J) (by simpa using ae)) h;rw[ah];simp only[za7,hq,Al7,if_false];cases za7 es k with
    | none=>rfl
    | some i=>simp;omega
   ·simp only[A,Al1]at h;subst h;simp[za7,hq]
def zdK{P:Program}{w:World}{γ:Gh}{A:KT}{t:TypeId}{d:TypeDesc}{k:AV}{I:Value}(J:P.underlying t=some d)(X:zdE P t A=true)(U:A.fits k=true)(Y:k.conc=some I)(es:List (AV×AV))(cs:List MapEntry)(Z:es.length=cs.length)(W:∀x∈es,A.fits x.1=true)(hr:∀(i:Nat) (x:AV×AV) (e:MapEntry),es[i]?=some x->cs[i]?=some e->EntryRel γ w x e):
  (Instr.findKey t I cs).run P w=.ok ((za7 es k).map λi=>(i,(cs.getD i default).val)) w:=by
 unfold Instr.findKey;rw[Sem.run_bind,run_underlying J w];simp only[Result.andThen_ok];cases h:Instr.findNow d I cs 0 with
 | some r =>have:=zhJ (γ:=γ) (w:=w) J X U Y es cs 0 r Z W hr h;simp[this]
 | none =>have:=zel (P:=P) (w:=w) (γ:=γ) X U Y es cs 0 Z W hr;simpa using this
def zfG:∀ {es:List (AV×AV)} {k:AV},za7 es k=none->zaZ es k=none/\∀v,zbW es k v=es++[(k,v)]
 | [],_,_=>⟨rfl,λ_=>rfl⟩
 | (a,u)::es,k,h=>by
  unfold za7 at h;split at h
  ·cases h
  ·rename_i hq;have A:=zfG (es:=es) (k:=k) (by simpa using h);exact⟨by unfold zaZ;simp[hq,A.1],λv=>by unfold zbW;simp[hq,A.2 v]⟩
def zfT:∀ {es:List (AV×AV)} {k:AV} {i:Nat},za7 es k=some i->∃x,es[i]?=some x/\zaZ es k=some x.2/\k.keq x.1=true/\∀v,zbW es k v=es.set i (k,v)
 | [],_,_,h=>by simp[za7]at h
 | (a,u)::es,k,i,h=>by
  unfold za7 at h;split at h
  ·rename_i hq;simp only[Al1]at h;subst h;exact⟨(a,u),rfl,by unfold zaZ;simp[hq],hq,λv=>by unfold zbW;simp[hq]⟩
  ·rename_i hq;simp only[zbA]at h;obtain⟨j,W,rfl⟩:=h;obtain⟨x,A,I,J,U⟩:=zfT (es:=es) (k:=k) W;exact⟨x,by simpa using A,by unfold zaZ;simp[hq,I],J,λv=>by unfold zbW;simp[hq,U v]⟩
def zcl{P:Program}{k:K1}{t:TypeId}(h:k.isTy P t=true)(empty:Bool)(n:Nat)(v:Value)(w:World):(Instr.checkKey empty (n+1) t v).run P w=.ok () w:=by
 cases A:P.underlying t with
 | none=>cases k<;>simp[K1.isTy,A]at h
 | some d =>unfold Instr.checkKey;rw[Sem.run_bind,run_underlying A w];cases k<;>cases d<;>simp_all [K1.isTy]
theorem zdv {P:Program} {w:World} {empty:Bool} (n:Nat) (xs:Array Value):∀(fs:List Field) (off:Nat) (ks:List K1),zbF P fs off ks=true->off+ks.length<=xs.size ->
  (forIn fs PUnit.unit fun f _ => (if f.name ≠ "_" then do
    let __do_lift <-part f.type xs f.offset
    Instr.checkKey empty (n+1) f.type __do_lift
    pure (ForInStep.yield PUnit.unit)
   else pure (ForInStep.yield PUnit.unit):Sem (ForInStep PUnit))).run P w=.ok PUnit.unit w
 | [],_,_,_,_=>by simp
 | _::_,_,[],h,_=>by simp[zbF]at h
 | f::fs,off,k::ks,hf,hl=>by
  simp only[zbF,Al0,bne_iff_ne,ne_eq,beq_iff_eq]at hf
  obtain⟨⟨⟨hname,hoff⟩,hty⟩,hrest⟩:=hf
  simp only[Al2]at hl
  have ih:=zdv (P:=P) (w:=w) (empty:=empty) n xs fs (off+1) ks hrest (by omega)
  have hlt:off<xs.size:=by omega
  have p1:(part f.type xs f.offset).run P w=.ok xs[off] w:=by simp[part,ZY hty,hoff,hlt]
  simp only[List.forIn_cons,ne_eq,hname,not_false_eq_true,if_true,Sem.run_bind,p1,Result.andThen_ok,zcl hty empty n _ w,Sem.run_pure]
  simpa using ih
def zbQ:∀ {A:List K1} {cs:List AV},zX A cs=true->cs.length=A.length
 | [],[],_=>rfl
 | [],_::_,h=>by simp[zX]at h
 | _::_,[],h=>by simp[zX]at h
 | _::A,_::cs,h=>by simp only[zX,Al0]at h;simp[zbQ h.2]
def zgk{P:Program}{w:World}{γ:Gh}{X:KT}{t:TypeId}{k:AV}{Y:Value}(A:zdE P t X=true)(J:X.fits k=true)(Z:Rep γ w k Y)(empty:Bool):(Instr.checkKey empty 10000 t Y).run P w=.ok () w:=by
 cases X with
 | one af=>exact zcl A empty 9999 Y w
 | agg aa =>
  cases k<;>simp[KT.fits]at J;unfold zdE at A;simp only at A;cases I:P.underlying t with
  | none=>simp[I]at A
  | some ds =>
   cases ds<;>simp only[I]at A<;>try (cases A;done)
   case array n e =>
    match aa,A with
    | [k,k'],A =>
     simp only[zcr,Al0,z6]at A;obtain⟨⟨⟨rfl,rfl⟩,W⟩,hsz⟩:=A;cases Z with
     | agg _ vs U ac hr =>
      have hlen:=zbQ J;rw[U]at hlen
      match vs,hlen with
      | [v0,v1],_ =>
       have ad:(part e #[v0,v1] (0*1)).run P w=.ok v0 w:=by simp[part,ZY W]
       have ae:(part e #[v0,v1] (1*1)).run P w=.ok v1 w:=by simp[part,ZY W]
       unfold Instr.checkKey;rw[Sem.run_bind,run_underlying I w];simp only[Result.andThen_ok];rw[Std.Legacy.Range.forIn_eq_forIn_range'];simp only[Std.Legacy.Range.size,Nat.sub_zero,Nat.add_one_sub_one,Nat.div_one,zs5,List.forIn_cons,List.forIn_nil,Sem.run_bind,zef hsz,Result.andThen_ok,ad,ae,zcl W empty 9998 _ w,Sem.run_pure]
    | [],A=>simp[zcr]at A
    | [_],A=>simp[zcr]at A
    | _::_::_::_,A=>simp[zcr]at A
   rename_i cs ab;simp only[Al0,Bool.not_eq_true']at A;cases Z with
   | agg _ vs U ac hr =>unfold Instr.checkKey;rw[Sem.run_bind,run_underlying I w];simp only[Result.andThen_ok];have:=zdv (P:=P) (w:=w) (empty:=empty) 9998 vs.toArray ab.toList 0 aa A.1 (by simp[<-U,zbQ J]);rw[<-Array.forIn_toList];simpa using this
def zxN{P:Program}{o:Oper}{t key elem:TypeId}{m k:Operand}{ai ah:Opd}{ok:Bool}{au:KT}{d:TypeDesc}{ak:TypeInfo}{z:Value}{zero:AV}(ho:o.op=.lookup t m k ok)(a0:zN m ai=true)(ay:zN k ah=true)(W:P.underlying t=some (.map key elem))(ag:zdE P key au=true)(an:P.underlying key=some d)(Z:P.info? elem=some ak)(ac:ak.zero=some z)(a3:zoG z zero=true):zpe P o (.lkp au zero ok ai ah):=by
 intro γ w H ρ a c ao a1 A;have Y:=zr a0 ao;have aj:=zr ay ao;simp only[rev]at A;split at A
 ·rename_i X;have U:=λempty=>zgk (P:=P) ag X aj empty;have ad:=zjq a3 γ w;cases a2:ai.ev ρ<;>simp only[a2]at A Y<;>try (cases A;done)
  ·simp only[Al1]at A;subst A;generalize J:a.eval m=v at Y;cases Y;have I:(Instr.findKey key (a.eval k) []).run P w=.ok none w:=zdK (γ:=γ) an ag X (ziJ X aj) [] [] rfl (by simp) (by simp);cases ok with
   | true =>
    refine⟨.tuple #[z,.bool false],?_,?_⟩
    ·simp[execOp,ho,J,Instr.lookup,run_underlying W,U,I,zeroValue,typeInfo,Z,ac]
    ·simp only[YV,if_true,Option.getD_none,Option.isSome_none];exact .tup _ [z,.bool false] rfl (zR.cons ad (zR.cons (.bool _) zR.nil)).2
   | false =>
    refine⟨z,?_,?_⟩
    ·simp[execOp,ho,J,Instr.lookup,run_underlying W,U,I,zeroValue,typeInfo,Z,ac]
    ·simpa[YV]using ad
  ·rename_i b;cases ae:H b with
   | none=>simp[ae]at A
   | some a4 =>
    cases a4<;>simp only[ae]at A<;>try (cases A;done)
    rename_i a6 al;split at A
    ·rename_i az;subst az;simp only[Al1]at A;subst A;generalize J:a.eval m=v at Y;cases Y;cases a1 b _ ae with
     | map _ _ cs clock aw a5 av ap hr =>
      have I:=zdK (P:=P) (w:=w) (γ:=γ) an ag X (ziJ X aj) al cs ap aw hr;have ab:(getObj b).run P w=.ok (.map cs.toArray clock) w:=by simp[getObj,Sem.run,av]
      cases aa:za7 al (ah.ev ρ)with
      | none =>
       have af:=(zfG aa).1;rw[aa]at I;simp only[Option.map_none]at I;rw[af];cases ok with
       | true =>
        refine⟨.tuple #[z,.bool false],?_,?_⟩
        ·simp[execOp,ho,J,Instr.lookup,run_underlying W,ab,U,I,zeroValue,typeInfo,Z,ac]
        ·simp only[YV,if_true,Option.getD_none,Option.isSome_none];exact .tup _ [z,.bool false] rfl (zR.cons ad (zR.cons (.bool _) zR.nil)).2
       | false =>
        refine⟨z,?_,?_⟩
        ·simp[execOp,ho,J,Instr.lookup,run_underlying W,ab,U,I,zeroValue,typeInfo,Z,ac]
        ·simpa[YV]using ad
      | some i =>
       obtain⟨x,ar,af,_,_⟩:=zfT aa;rw[aa]at I;simp only[ZS]at I;rw[af];have hi:i<cs.length:=by rw[<-ap];exact(zaB.1 ar).1
       have am:cs[i]?=some cs[i]:=Al9 hi;have ax:(cs.getD i default)=cs[i]:=by simp[List.getD,am]
       rw[ax]at I;have aq:=(hr i x _ ar am).val;cases ok with
       | true =>
        refine⟨.tuple #[cs[i].val,.bool true],?_,?_⟩
        ·simp[execOp,ho,J,Instr.lookup,run_underlying W,ab,U,I]
        ·simp only[YV,if_true,Option.getD_some,Option.isSome_some];exact .tup _ [cs[i].val,.bool true] rfl (zR.cons aq (zR.cons (.bool _) zR.nil)).2
       | false =>
        refine⟨cs[i].val,?_,?_⟩
        ·simp[execOp,ho,J,Instr.lookup,run_underlying W,ab,U,I]
        ·simpa[YV]using aq
    ·cases A
 ·cases A
def zkq{k:K1}{c d:AV}(A:k.fits c=true)(I:k.fits d=true)(h:c.keq1 d=true):c.conc1=d.conc1:=by
 cases k<;>cases c<;>simp[K1.fits]at A<;>cases d<;>simp[K1.fits]at I<;>simp[AV.keq1]at h
 ·subst h;rfl
 ·subst h;rfl
 ·subst h;subst A;subst I;rfl
def zjg:∀ {A:List K1} {cs ds:List AV},zX A cs=true->zX A ds=true->zcS cs ds=true->zby cs=zby ds
 | [],[],[],_,_,_=>rfl
 | [],_::_,_,h,_,_=>by simp[zX]at h
 | [],[],_::_,_,h,_=>by simp[zX]at h
 | _::_,[],_,h,_,_=>by simp[zX]at h
 | _::_,_::_,[],_,h,_=>by simp[zX]at h
 | k::A,c::cs,d::ds,hc,hd,h=>by simp only[zX,Al0]at hc hd;simp only[zcS,Al0]at h;unfold zby;rw[zkq hc.1 hd.1 h.1,zjg hc.2 hd.2 h.2]
def zsQ{J:KT}{c d:AV}(A:J.fits c=true)(I:J.fits d=true)(h:c.keq d=true):c.conc=d.conc:=by
 cases J with
 | one k =>rw[zpW (k:=k) A]at h;have:=zkq (k:=k) A I h;cases k<;>cases c<;>simp[KT.fits,K1.fits]at A<;>cases d<;>simp[KT.fits,K1.fits]at I<;>exact this
 | agg U =>cases c<;>simp[KT.fits]at A;cases d<;>simp[KT.fits]at I;simp only[AV.conc];rw[zjg A I h]
def zd3{c:AV}{v:Value}(h:c.conc1=some v)(n:Nat):Instr.sameBits n v v=true:=by cases c<;>simp only[AV.conc1,Al1]at h<;>first|(cases h;done)|(subst h;cases n<;>simp[Instr.sameBits,beq_toListBytes])
def zed:∀ {cs:List AV} {vs:List Value},zby cs=some vs->∀n,(vs.zip vs).all (λ(x,y)=>Instr.sameBits n x y)=true
 | [],vs,h,n=>by simp only[zby,Al1]at h;subst h;rfl
 | c::cs,vs,h,n=>by
  unfold zby at h;cases A:c.conc1 with
  | none=>simp[A]at h
  | some v =>
   cases I:zby cs with
   | none=>simp[A,I]at h
   | some J =>simp only[A,I,Al1]at h;subst h;simp only[List.zip_cons_cons,List.all_cons,zd3 A n,Bool.true_and];exact zed I n
def zjK{c:AV}{v:Value}(h:c.conc=some v):Instr.sameBits 10000 v v=true:=by
 cases c with
 | agg cs =>simp only[AV.conc,zbA]at h;obtain⟨vs,A,rfl⟩:=h;have:=zed A 9999;show (vs.toArray.size==vs.toArray.size&&(vs.toArray.toList.zip vs.toArray.toList).all λ(x,y)=>Instr.sameBits 9999 x y)=true;simpa using this
 | _=>(simp only[AV.conc]at h;exact zd3 h 10000)
def zjm{γ:Gh}{w:World}{b:Nat}{es es':Array MapEntry}{clock clock':Nat}(J:w.heap[b]?=some (.map es clock)):
  Ext (λc=>c=b) γ w γ { w with heap:=w.heap.setIfInBounds b (.map es' clock') }/\({ w with heap:=w.heap.setIfInBounds b (.map es' clock') }:World).heap[b]?=some (.map es' clock'):=by
 have X:b<w.heap.size:=(zdF.1 J).1;have U:∀c,c≠b->(w.heap.setIfInBounds b (.map es' clock'))[c]?=w.heap[c]?:=λc A=>by rw[Array.getElem?_setIfInBounds_ne (Ne.symm A)]
 have W:(w.heap.setIfInBounds b (.map es' clock'))[b]?=some (.map es' clock'):=by simp[X]
 refine⟨⟨⟨by simp,λc o v A Z=>⟨Z,?_⟩,λc arr E fr A=>?_⟩,rfl,rfl,λa _=>?_,λc A Y=>⟨rfl,U c Y⟩⟩,W⟩
 ·have I:c≠b:=λe=>by subst e;simp[World.cell?,J]at A
  simp only[World.cell?]at A ⊢;rw[U c I];exact A
 ·have I:c≠b:=λe=>by subst e;rw[J]at A;simp at A
  exact⟨arr,(U c I).trans A,rfl⟩
 ·by_cases I:a.block=b
  ·simp only[World.frozen?,I,W,J]
  ·simp only[World.frozen?,U _ I]
def ztU{P:Program}{o:Oper}{t key elem:TypeId}{m k x:Operand}{am al x':Opd}{a1:KT}{d:TypeDesc}(ho:o.op=.mapUpdate t m k x∨o.op=.insert t m k x)(bc:zN m am=true)(a9:zN k al=true)(bj:zN x x'=true)(a0:P.underlying t=some (.map key elem))(aw:zdE P key a1=true)(a7:P.underlying key=some d):zgC P o (.mup a1 am al x'):=by
 intro γ w H ρ a K KP next Q I ai W ax bl
 simp only[aop,AOp.cls,eff]at W;have an:=zr bc I;have a3:=zr a9 I;have a4:=zr bj I;cases bh:am.ev ρ<;>simp only[bh]at W an<;>try (exact False.elim W)
 rename_i b;cases U:H b with
 | none=>simp[U]at W
 | some bk =>
  cases bk<;>simp only[U]at W<;>try (exact False.elim W)
  rename_i a2 Z;obtain⟨rfl,X,ad⟩:=W;have aq:=λempty=>zgk (P:=P) aw X a3 empty;have aa:=ziJ X a3;generalize bg:a.eval m=v at an;cases an;cases ai b _ U with
  | map _ _ cs clock af au ae ac hr =>
   have Y:=zdK (P:=P) (w:=w) (γ:=γ) a7 aw X aa Z cs ac af hr;have ay:(getObj b).run P w=.ok (.map cs.toArray clock) w:=by simp[getObj,Sem.run,ae]
   have az:∀es' clock',(setObj b (.map es' clock')).run P w=.ok () { w with heap:=w.heap.setIfInBounds b (.map es' clock') }:=λes' clock'=>by simp[setObj,Sem.run,ae]
   have ar:∀w',(Instr.mapUpdate t (.map (some b)) (a.eval k) (a.eval x)).run P w=.ok () w'->(execOp a.eval o).run P w=.ok .skip w':=by intro w' hr;rcases ho with ho|ho<;>simp[execOp,ho,bg,hr]
   cases ag:za7 Z (al.ev ρ)with
   | none =>
    rw[ag]at Y;simp only[Option.map_none]at Y;rw[(zfG ag).2]at ad;have ah:(Instr.mapUpdate t (.map (some b)) (a.eval k) (a.eval x)).run P w=.ok () { w with heap:=w.heap.setIfInBounds b (.map (cs++[(⟨a.eval k,a.eval x,clock⟩:MapEntry)]).toArray (clock+1)) }:=by simp[Instr.mapUpdate,run_underlying a0,ay,aq,Y,az]
    obtain⟨J,aj⟩:=zjm (γ:=γ) (es':=(cs++[(⟨a.eval k,a.eval x,clock⟩:MapEntry)]).toArray) (clock':=clock+1) ae;refine zfK (ar _ ah) (ax _ _ _ _ _ (J.weaken λc e=>by subst e;simp[keysOf,U]) (zbr ai J (.map a2 _ _ _ (λy A=>?_) au aj (by simp[ac]) (λi y e A I=>?_))) (zbi (by simp[U])) (.tup [] [] rfl (by simp)) ad)
    ·rcases List.mem_append.1 A with h|h
     ·exact af y h
     ·simp at h;subst h;exact X
    ·rcases Nat.lt_or_ge i Z.length with hi|hi
     ·rw[zeA hi]at A;rw[zeA (by omega)]at I;exact(hr i y e A I).mono J.mono
     ·rw[zhT hi]at A;rw[zhT (by omega),<-ac]at I;cases av:i-Z.length with
      | zero=>rw[av]at A I;simp at A I;subst A;subst I;exact⟨aa,a4.mono J.mono⟩
      | succ j=>rw[av]at A;simp at A
   | some i =>
    obtain⟨y,ak,_,hq,be⟩:=zfT ag;rw[ag]at Y;simp only[ZS]at Y;rw[be]at ad;have hi:i<cs.length:=by rw[<-ac];exact(zaB.1 ak).1
    have ap:cs[i]?=some cs[i]:=Al9 hi;have ba:cs[i].key=a.eval k:=by have a6:=(hr i y _ ak ap).key;have ao:=zsQ X (af y (List.mem_of_getElem? ak)) hq;rw[aa,a6]at ao;exact(Option.some.inj ao).symm
    have bf:(Instr.keyThatStays (((cs.toArray[i]?).map (·.key)).getD (a.eval k)) (a.eval k)).run P w=.ok (a.eval k) w:=by
     have a5:((cs.toArray[i]?).map (·.key)).getD (a.eval k)=a.eval k:=by simp[ap,ba]
     rw[a5];simp[Instr.keyThatStays,zjK aa]
    have bd:(cs.toArray.modify i λe=>{ e with key:=a.eval k,val:=a.eval x })=(cs.set i { cs[i]with key:=a.eval k,val:=a.eval x }).toArray:=by
     apply Array.ext';apply List.ext_getElem?;intro j;simp only[Array.getElem?_toList,Array.getElem?_modify,List.getElem?_set];by_cases ab:i=j
     ·subst ab;simp[hi]
     ·simp[ab]
    have ah:(Instr.mapUpdate t (.map (some b)) (a.eval k) (a.eval x)).run P w=.ok () { w with heap:=w.heap.setIfInBounds b (.map (cs.set i { cs[i]with key:=a.eval k,val:=a.eval x }).toArray clock) }:=by simp only[Instr.mapUpdate,Sem.run_bind,run_underlying a0,Result.andThen_ok,ay,aq,Y,bf,bd,az]
    obtain⟨J,aj⟩:=zjm (γ:=γ) (es':=(cs.set i { cs[i]with key:=a.eval k,val:=a.eval x }).toArray) (clock':=clock) ae;refine zfK (ar _ ah) (ax _ _ _ _ _ (J.weaken λc e=>by subst e;simp[keysOf,U]) (zbr ai J (.map a2 _ _ _ (λy A=>?_) au aj (by simp[ac]) (λj y e A I=>?_))) (zbi (by simp[U])) (.tup [] [] rfl (by simp)) ad)
    ·rcases List.mem_or_eq_of_mem_set A with h|h
     ·exact af y h
     ·rw[h];exact X
    ·rw[List.getElem?_set]at A I;by_cases ab:i=j
     ·subst ab;have a8:i<Z.length:=by omega
      simp only[if_true,hi,a8,Al1]at A I;subst A;subst I;exact⟨aa,a4.mono J.mono⟩
     ·simp only[ab,if_false]at A I;exact(hr j y e A I).mono J.mono
def zv.mono{γ γ':Gh}{w w':World}(m:Mono γ w γ' w'){cs:List AV}{vs:List Value}(h:zv γ w cs vs):zv γ' w' cs vs:=⟨h.1,h.2.1,λi c v A I=>(h.2.2 i c v A I).mono m⟩
def zvk{P:Program}{o:Oper}{t e:TypeId}{n sz:Nat}{parts:Array (Nat×Operand)}{ac:List (Nat×Opd)}{zero:List AV}{W:TypeInfo}{z:Value}(ho:o.op=.buildSlice t n parts)(a0:P.underlying t=some (.slice e))(hi:P.info? e=some W)(ap:W.zero=some z)(hsz:W.size=sz)(X:0<sz)(ba:n*sz<=2 ^ 24)(a5:zbL z.cells.toList zero=true)(av:Yl parts.toList ac=true):zgC P o (.blsm sz n zero ac):=by
 intro γ w H ρ a K KP next Q ar Y A J a9
 simp only[aop,AOp.cls,oev,zdI]at A;by_cases aa:zero.length=sz
 case neg=>simp only[aa,if_false]at A;exact(zfr Y A).elim
 simp only[aa,if_true]at A;cases ae:zb8 AV.strip1 ρ sz (List.replicate n zero) ac with
 | none=>simp only[ae,Option.map_none]at A;exact(zfr Y A).elim
 | some a6 =>
  simp only[ae,ZS]at A;obtain⟨a2,a3,a4⟩:=zcz a5 γ w;have ao:∀x∈List.replicate n zero,x.length=sz:=λx a1=>by rw[(List.mem_replicate.1 a1).2];exact aa
  have al:(List.replicate n zero).flatten.length=n*sz:=by rw[yE sz _ ao];simp
  have ab:z.cells.size=sz:=by have:=a2;simp at this;omega
  have ay:zv γ w (List.replicate n zero).flatten ((List.range (n*sz)).map (λk=>z.cells.toList.getD (k % sz) undef)):=by
   refine⟨by simp[al],λi v U=>?_,λi c v ak U=>?_⟩
   ·simp only[Yg,zbA]at U;obtain⟨k,_,rfl⟩:=U;have I:k % sz<z.cells.toList.length:=by simp[ab];exact Nat.mod_lt _ X
    exact a3 (k % sz) _ (by rw[List.getD,Al9 I];rfl)
   ·simp only[Yg,zbA]at U;obtain⟨k,am,rfl⟩:=U;obtain⟨ai,aj⟩:=zaB.1 am;simp at ai aj;subst aj;rw[zcg zero n i (by rw[al];exact ai),aa]at ak;have I:i % sz<z.cells.toList.length:=by simp[ab];exact Nat.mod_lt _ X
    exact a4 (i % sz) c _ ak (by rw[List.getD,Al9 I];rfl)
  obtain⟨ag,Z,aw,bc,a7⟩:=zhl zfL ar parts.toList ac _ _ a6 av ae ao ay;have ad:=Yn (λ_=>False) γ w .own ag.toArray e;have aq:∀f:Nat->Value,((List.range (n*sz)).map f).toArray=(Array.range (n*sz)).map f:=λf=>by apply Array.ext';simp
  have ax:(execOp a.eval o).run P w=.ok (.value (.slice (some ⟨w.heap.size,0,none⟩) n n)) (w.alloc (.cells ag.toArray e)):=by
   have az:(Array.range (n*sz)).map (z.cells[· % z.cells.size]!)=((List.range (n*sz)).map (λk=>z.cells.toList.getD (k % sz) undef)).toArray:=by
    rw[aq];apply Array.map_congr_left;intro k am;have I:k % sz<z.cells.size:=by rw[ab];exact Nat.mod_lt _ X
    rw[ab];simp[List.getD,I]
   have a8:(parts.map λ(x:Nat×Operand)=>(x.1,a.eval x.2)).toList=parts.toList.map λ(i,x)=>(i,a.eval x):=by simp
   have an:¬ n*W.size > 2 ^ 24:=by rw[hsz];omega
   simp only[execOp,ho,Instr.buildSlice,Sem.run_bind,run_underlying a0,Result.andThen_ok,sizeOf,typeInfo,run_program,hi,Sem.run_pure,hsz,zeroValue,ap];rw[hsz]at an;rw[<-az]at Z;by_cases J:n*sz=0
   ·have ah:∀f:Nat->Value,(Array.range 0).map f=#[]:=λf=>by apply Array.ext';simp
    rw[J,ah]at Z;simp[J,ah,Z,newRow]
   ·simp[J,an,Z,newRow,zeroValue,typeInfo,hi,ap]
  have au:n<=maxLen:=by have:n*1<=n*sz:=Nat.mul_le_mul_left _ X;unfold maxLen;omega
  have af:=zv.mono ad.mono aw;exact yN ax (J _ _ _ _ _ (ad.weaken λ_ f=>f.elim) (zaK (F:=λ_=>False) Y ad (.cells _ ag e (by simp) (heap_alloc_new w _) af.1 af.2.1 af.2.2)) ZD (.ms _ 0 n n (by simp) (Al4 _) au) (A _ (ZX Y)))
def YU(P:Program)(t:TypeId):Option TypeInfo :=
 match P.underlying t with
 | some (.slice e)=>P.info? e
 | _=>none
def yF(P:Program)(o:Oper):AOp->Bool
 | .mv y=>match o.op with
  | .move x=>zN x y
  | .assign x=>zN x y
  | _=>false
 | .pick a b c=>match o.op with
  | .pick x y z=>zN x a&&zN y b&&zN z c
  | _=>false
 | .nilchk y=>match o.op with
  | .nilCheck x=>zN x y
  | _=>false
 | .bi op k a b=>match o.op with
  | .binOp op' _ x y _=>decide (op'=op)&&decide (op≠.shl)&&decide (op≠.shr)&&zN x a&&zN y b
  | _=>false
 | .shf op a b=>match o.op with
  | .binOp op' _ x y _=>decide (op'=op)&&zN x a&&zN y b
  | _=>false
 | .bs op a b=>match o.op with
  | .binOp op' _ x y _=>decide (op'=op)&&zN x a&&zN y b
  | _=>false
 | .bb neg a b=>match o.op with
  | .binOp op' t x y _=>decide (op'=if neg then .neq else .eql)&&zN x a&&zN y b&&(match P.underlying t with|some .bool=>true|_=>false)
  | _=>false
 | .eqa neg ks a b=>match o.op with
  | .binOp op' t x y _=>decide (op'=if neg then .neq else .eql)&&zN x a&&zN y b&&(match P.underlying t with|some (.struct fs)=>zbF P fs.toList 0 ks|_=>false)&&!P.stoodInHeld t&&!P.eqGuardType P.depth t
  | _=>false
 | .ifnil neg a=>match o.op with
  | .binOp op' t x y _=>decide (op'=if neg then .neq else .eql)&&zN x a&&(match y with|.const .nilIface=>true|_=>false)&&isIface (P.underlying t)
  | _=>false
 | .tas t zero a=>match o.op with
  | .typeAssert x _ t' true=>decide (t'=t)&&zN x a&&zaX (P.underlying t)&&((P.info? t).any λti=>ti.zero.any λz=>zoG z zero)
  | _=>false
 | .not a=>match o.op with
  | .unOp .not _ x=>zN x a
  | _=>false
 | .cvi k a=>match o.op with
  | .convert s d x=>zN x a&&(P.underlying s).isSome&&(match P.underlying d with|some (.int k')=>decide (k'=k)|_=>false)
  | _=>false
 | .cvb2s a=>match o.op with
  | .convert s d x=>zN x a&&(match P.underlying s with|some (.slice e)=>(match P.underlying e with|some (.int .u8)=>true|_=>false)|_=>false)&&(match P.underlying d with|some .string=>true|_=>false)
  | _=>false
 | .bld zero qs=>match o.op with
  | .build t parts=>((P.info? t).any λti=>ti.zero.any λz=>zbL z.cells.toList zero)&&((zk6 P t).any λplace=>zbN place parts.toList qs)
  | _=>false
 | .bls sz n zero qs=>match o.op with
  | .buildSlice t n' parts=>decide (n'=n)&&((YU P t).any λei=>decide (ei.size=sz)&&ei.zero.any λz=>zbL z.cells.toList zero)&&decide (0<sz)&&decide (n*sz<=2 ^ 24)&&Yl parts.toList qs
  | _=>false
 | .mkfn f first caps=>match o.op with
  | .makeFunc (.func f') a b=>decide (f'=f)&&zai a.toList first&&zai b.toList caps
  | _=>false
 | .ext a i=>match o.op with
  | .extract x i'=>decide (i'=i)&&zN x a
  | _=>false
 | .mki t a=>match o.op with
  | .makeInterface t' x=>decide (t'=t)&&zN x a&&zaX (P.underlying t)
  | _=>false
 | .fa off a=>match o.op with
  | .fieldAddr s x i=>zN x a&&(match P.underlying s with
    | some (.struct fs)=>(fs[i]?.any λf=>decide (f.offset=off)&&(P.info? f.type).any λfi=>decide (fi.size≠0))
    | _=>false)
  | _=>false
 | .fld off n ag a=>match o.op with
  | .field t x i=>zN x a&&(match P.underlying t with
    | some (.struct fs)=>(fs[i]?.any λf=>decide (f.offset=off)&&((P.info? f.type).any λfi=>decide (fi.size=n))&&(P.underlying f.type).isSome&&decide (zev (P.underlying f.type)=ag)&&(ag||decide (n=1)))
    | _=>false)
  | _=>false
 | .ia sz a i=>match o.op with
  | .indexAddr t x y=>zN x a&&zN y i&&((YU P t).any λei=>decide (ei.size=sz))
  | _=>false
 | .ixs a i=>match o.op with
  | .index t x y=>zN x a&&zN y i&&(match P.underlying t with|some .string=>true|_=>false)
  | _=>false
 | .sls a lo hi=>match o.op with
  | .slice t x l h none=>zN x a&&zbK l lo&&zbK h hi&&(match P.underlying t with|some .string=>true|_=>false)
  | _=>false
 | .sll sz a lo hi mx=>match o.op with
  | .slice t x l h m=>zN x a&&zbK l lo&&zbK h hi&&zbK m mx&&(!mx.isSome||hi.isSome)&&((YU P t).any λei=>decide (ei.size=sz))
  | _=>false
 | .len a=>match o.op with
  | .call { callee:=.builtin .len,args:=as,argTypes:=ts }=>match as.toList with
   | [x]=>zN x a&&(ts[0]?.any λt=>match P.underlying t with|some (.slice _)=>true|_=>false)
   | _=>false
  | _=>false
 | .lens a=>match o.op with
  | .call { callee:=.builtin .len,args:=as,argTypes:=ts }=>match as.toList with
   | [x]=>zN x a&&(ts[0]?.any λt=>match P.underlying t with|some .string=>true|_=>false)
   | _=>false
  | _=>false
 | .mm mx a ys=>match o.op with
  | .call { callee:=.builtin b,args:=args,argTypes:=_ }=>decide (b=if mx then .max else .min)&&(match args.toList with|x::r=>zN x a&&zai r ys|[]=>false)
  | _=>false
 | .boxv a=>match o.op with
  | .box _ x=>zN x a
  | _=>false
 | .ld n ag a=>match o.op with
  | .load t x=>zN x a&&((P.info? t).any λti=>decide (ti.size=n))&&(P.underlying t).isSome&&decide (zev (P.underlying t)=ag)&&(ag||decide (n=1))
  | _=>false
 | .lkp kt zero ok m k=>match o.op with
  | .lookup t m' k' ok'=>decide (ok'=ok)&&zN m' m&&zN k' k&&(match P.underlying t with
    | some (.map key elem)=>zdE P key kt&&(P.underlying key).isSome&&((P.info? elem).any λei=>ei.zero.any λz=>zoG z zero)
    | _=>false)
  | _=>false
 | .alloc zero=>match o.op with
  | .alloc t=>((P.info? t).any λti=>ti.zero.any λz=>zbL z.cells.toList zero)
  | _=>false
 | .box a=>match o.op with
  | .box _ x=>zN x a
  | _=>false
 | .mkm _=>match o.op with
  | .makeMap _ none=>true
  | _=>false
 | .st n a b=>match o.op with
  | .store t x y=>zN x a&&zN y b&&((P.info? t).any λti=>decide (ti.size=n))
  | _=>false
 | .mup kt m k v=>match o.op with
  | .mapUpdate t m' k' v'=>zN m' m&&zN k' k&&zN v' v&&(match P.underlying t with|some (.map key _)=>zdE P key kt&&(P.underlying key).isSome|_=>false)
  | .insert t m' k' v'=>zN m' m&&zN k' k&&zN v' v&&(match P.underlying t with|some (.map key _)=>zdE P key kt&&(P.underlying key).isSome|_=>false)
  | _=>false
 | .app sz bytes a b=>match o.op with
  | .call { callee:=.builtin .append,args:=as,argTypes:=ts }=>match as.toList,ts.toList with
   | [x,y],[t,tx]=>zN x a&&zN y b&&((YU P t).any λei=>decide (ei.size=sz)&&decide (ei.bytes=bytes)&&ei.zero.any λz=>decide (z.cells.size=sz))&&decide (0<sz)&&(match P.underlying tx with|some (.slice _)=>true|_=>false)
   | _,_=>false
  | _=>false
 | .blsm sz n zero qs=>match o.op with
  | .buildSlice t n' parts=>decide (n'=n)&&((YU P t).any λei=>decide (ei.size=sz)&&ei.zero.any λz=>zbL z.cells.toList zero)&&decide (0<sz)&&decide (n*sz<=2 ^ 24)&&Yl parts.toList qs
  | _=>false
 | .apps a b=>match o.op with
  | .call { callee:=.builtin .append,args:=as,argTypes:=ts }=>match as.toList,ts.toList with
   | [x,y],[t,tx]=>zN x a&&zN y b&&((YU P t).any λei=>decide (ei.size=1)&&decide (ei.bytes=1)&&ei.zero.any λz=>decide (z.cells.size=1))&&(match P.underlying tx with|some .string=>true|_=>false)
   | _,_=>false
  | _=>false
 | .call f args=>match o.op with
  | .call { callee:=.value (.func f'),args:=as,argTypes:=_ }=>decide (f'=f)&&zai as.toList args&&Program.callable P f
  | _=>false
 | .callv g args=>match o.op with
  | .call { callee:=.value g',args:=as,argTypes:=_ }=>zN g' g&&zai as.toList args
  | _=>false
 | .pan a=>match o.op with
  | .panic x=>zN x a
  | _=>false
def ZQ{P:Program}{t:TypeId}{A:TypeInfo}(h:YU P t=some A):∃e,P.underlying t=some (.slice e)/\P.info? e=some A:=by
 unfold YU at h;split at h
 ·rename_i e I;exact⟨e,I,h⟩
 ·cases h
def yi{α:Type}{x:Option α}{p:α->Bool}(h:x.any p=true):∃y,x=some y/\p y=true:=by
 cases x with
 | none=>simp at h
 | some y=>exact⟨y,rfl,by simpa using h⟩
def zhr{α:Type}{a:Array α}{l:List α}(h:a.toList=l):a=l.toArray:=by apply Array.ext';simpa using h
def zmK{P:Program}{o:Oper}{ah:AOp}(h:yF P o ah=true):zgC P o ah:=by
 cases ah with
 | mv y =>
  simp only[yF]at h;split at h
  ·rename_i ho;exact zK rfl (zxb (.inl ho) h)
  ·rename_i ho;exact zK rfl (zxb (.inr ho) h)
  ·cases h
 | pick a b c =>
  simp only[yF]at h;split at h
  ·rename_i ho;simp only[Al0]at h;exact zK rfl (zv2 ho h.1.1 h.1.2 h.2)
  ·cases h
 | nilchk y =>
  simp only[yF]at h;split at h
  ·rename_i ho;exact zK rfl (zrb ho h)
  ·cases h
 | bi op k a b =>
  simp only[yF]at h;split at h
  ·rename_i ho;simp only[Al0,z6]at h;obtain⟨⟨⟨⟨rfl,J⟩,A⟩,I⟩,U⟩:=h;exact zK rfl (zAV ho I U J A)
  ·cases h
 | shf op a b =>
  simp only[yF]at h;split at h
  ·rename_i ho;simp only[Al0,z6]at h;obtain⟨⟨rfl,I⟩,U⟩:=h;exact zK rfl (zxT ho I U)
  ·cases h
 | bs op a b =>
  simp only[yF]at h;split at h
  ·rename_i ho;simp only[Al0,z6]at h;obtain⟨⟨rfl,I⟩,U⟩:=h;exact zK rfl (zAF ho I U)
  ·cases h
 | bb neg a b =>
  simp only[yF]at h;split at h
  ·rename_i ho;simp only[Al0,z6]at h;obtain⟨⟨⟨J,I⟩,U⟩,W⟩:=h;split at W
   ·rename_i X;exact zK rfl (zzO ho I U J X)
   ·cases W
  ·cases h
 | eqa neg a5 a b =>
  simp only[yF]at h;split at h
  ·rename_i ho;simp only[Al0,z6,Bool.not_eq_true']at h;obtain⟨⟨⟨⟨⟨J,I⟩,U⟩,W⟩,Y⟩,ad⟩:=h;split at W
   ·rename_i X;exact zK rfl (zyU ho I U J X W Y ad)
   ·cases W
  ·cases h
 | ifnil neg a =>
  simp only[yF]at h;split at h
  ·rename_i ho;simp only[Al0,z6]at h;obtain⟨⟨⟨J,A⟩,I⟩,U⟩:=h;split at I
   ·exact zK rfl (ztL ho J A rfl U)
   ·cases I
  ·cases h
 | tas t zero a =>
  simp only[yF]at h;split at h
  ·rename_i ho;simp only[Al0,z6]at h;obtain⟨⟨⟨J,A⟩,I⟩,U⟩:=h;obtain⟨ag,ae,W⟩:=yi U;obtain⟨z,Z,Y⟩:=yi W;subst J;exact zK rfl (zyt ho A I ae Z Y)
  ·cases h
 | not a =>
  simp only[yF]at h;split at h
  ·rename_i ho;exact zK rfl (zyi ho h)
  ·cases h
 | cvi k a =>
  simp only[yF]at h;split at h
  ·rename_i ho;simp only[Al0]at h;obtain⟨⟨J,A⟩,I⟩:=h;obtain⟨ds,ay⟩:=zjB.1 A;split at I
   ·rename_i aa;simp only[z6]at I;subst I;exact zK rfl (zyZ ho J ay aa)
   ·cases I
  ·cases h
 | cvb2s a =>
  simp only[yF]at h;split at h
  ·rename_i ho;simp only[Al0]at h;obtain⟨⟨J,A⟩,I⟩:=h;split at A
   ·rename_i e ab;split at A
    ·rename_i az;split at I
     ·rename_i aa;exact zK rfl (ztf ho J ab az aa)
     ·cases I
    ·cases A
   ·cases A
  ·cases h
 | bld zero ar =>
  simp only[yF]at h;split at h
  ·rename_i ho;simp only[Al0]at h;obtain⟨J,A⟩:=h;obtain⟨ag,ae,J⟩:=yi J;obtain⟨z,Z,J⟩:=yi J;obtain⟨pl,a0,A⟩:=yi A;exact zK rfl (zyb ho ae Z J a0 A)
  ·cases h
 | bls sz n zero ar =>
  simp only[yF]at h;split at h
  ·rename_i ho;simp only[Al0,z6]at h;obtain⟨⟨⟨⟨rfl,J⟩,A⟩,I⟩,U⟩:=h;obtain⟨af,ac,J⟩:=yi J;simp only[Al0,z6]at J;obtain⟨J,W⟩:=J;obtain⟨z,Z,W⟩:=yi W;obtain⟨e,ab,hi⟩:=ZQ ac;exact zK rfl (zyP ho ab hi Z J A I W U)
  ·cases h
 | mkfn f first a3 =>
  simp only[yF]at h;split at h
  ·rename_i ho;simp only[Al0,z6]at h;obtain⟨⟨rfl,J⟩,A⟩:=h;exact zK rfl (zvI ho J A)
  ·cases h
 | ext a i =>
  simp only[yF]at h;split at h
  ·rename_i ho;simp only[Al0,z6]at h;obtain⟨rfl,J⟩:=h;exact zK rfl (zyN ho J)
  ·cases h
 | mki t a =>
  simp only[yF]at h;split at h
  ·rename_i ho;simp only[Al0,z6]at h;obtain⟨⟨rfl,J⟩,A⟩:=h;exact zK rfl (zxS ho J A)
  ·cases h
 | fa a2 a =>
  simp only[yF]at h;split at h
  ·rename_i ho;simp only[Al0]at h;obtain⟨J,A⟩:=h;split at A
   ·rename_i aw ak;obtain⟨f,ai,A⟩:=yi A;simp only[Al0,z6]at A;obtain⟨A,I⟩:=A;obtain⟨av,aj,I⟩:=yi I;exact zK rfl (zzA ho J ak ai A aj (by simpa using I))
   ·cases A
  ·cases h
 | fld a2 n au a =>
  simp only[yF]at h;split at h
  ·rename_i ho;simp only[Al0]at h;obtain⟨J,A⟩:=h;split at A
   ·rename_i aw ak;obtain⟨f,ai,A⟩:=yi A;simp only[Al0,z6,zcp]at A;obtain⟨⟨⟨⟨A,I⟩,U⟩,W⟩,Y⟩:=A;obtain⟨av,aj,I⟩:=yi I;obtain⟨d,aa⟩:=zjB.1 U;exact zK rfl (zx1 ho J ak ai A aj (by simpa using I) aa W Y)
   ·cases A
  ·cases h
 | ia sz a i =>
  simp only[yF]at h;split at h
  ·rename_i ho;simp only[Al0]at h;obtain⟨⟨J,A⟩,I⟩:=h;obtain⟨af,ac,I⟩:=yi I;obtain⟨e,ab,hi⟩:=ZQ ac;exact zK rfl (zAu ho J A ab hi (by simpa using I))
  ·cases h
 | ixs a i =>
  simp only[yF]at h;split at h
  ·rename_i ho;simp only[Al0]at h;obtain⟨⟨J,A⟩,I⟩:=h;split at I
   ·rename_i X;exact zK rfl (zyw ho J A X)
   ·cases I
  ·cases h
 | sls a lo hi =>
  simp only[yF]at h;split at h
  ·rename_i ho;simp only[Al0]at h;obtain⟨⟨⟨J,A⟩,I⟩,U⟩:=h;split at U
   ·rename_i X;exact zK rfl (zxu ho J A I X)
   ·cases U
  ·cases h
 | sll sz a lo hi a1 =>
  simp only[yF]at h;split at h
  ·rename_i ho;simp only[Al0,zcp,Bool.not_eq_true']at h;obtain⟨⟨⟨⟨⟨J,A⟩,I⟩,U⟩,W⟩,Y⟩:=h;obtain⟨af,ac,Y⟩:=yi Y;obtain⟨e,ab,hi⟩:=ZQ ac;exact zK rfl (zx7 ho J A I U (λa4=>by rcases W with W|W<;>simp_all) ab hi (by simpa using Y))
  ·cases h
 | len a =>
  simp only[yF]at h;split at h
  ·rename_i ho;split at h
   ·rename_i al;simp only[Al0]at h;obtain⟨J,A⟩:=h;obtain⟨t,X,A⟩:=yi A;split at A
    ·rename_i ap;exact zK rfl (zx9 (by rw[ho,zhr al]) X J ap)
    ·cases A
   ·cases h
  ·cases h
 | lens a =>
  simp only[yF]at h;split at h
  ·rename_i ho;split at h
   ·rename_i al;simp only[Al0]at h;obtain⟨J,A⟩:=h;obtain⟨t,X,A⟩:=yi A;split at A
    ·rename_i ap;exact zK rfl (zvs (by rw[ho,zhr al]) X J ap)
    ·cases A
   ·cases h
  ·cases h
 | mm a1 a a6 =>
  simp only[yF]at h;split at h
  ·rename_i ho;simp only[Al0,z6]at h;obtain⟨rfl,A⟩:=h;split at A
   ·rename_i ax;simp only[Al0]at A;exact zK rfl (zBa ho ax A.1 A.2)
   ·cases A
  ·cases h
 | boxv a =>
  simp only[yF]at h;split at h
  ·rename_i ho;exact zK rfl (zvl ho h)
  ·cases h
 | ld n au a =>
  simp only[yF]at h;split at h
  ·rename_i ho;simp only[Al0,z6,zcp]at h;obtain⟨⟨⟨⟨J,I⟩,U⟩,W⟩,Y⟩:=h;obtain⟨ag,ae,I⟩:=yi I;obtain⟨d,aa⟩:=zjB.1 U;exact zjr rfl (zxh ho J ae (by simpa using I) aa W Y)
  ·cases h
 | lkp aq zero ok m k =>
  simp only[yF]at h;split at h
  ·rename_i ho;simp only[Al0,z6]at h;obtain⟨⟨⟨rfl,J⟩,A⟩,I⟩:=h;split at I
   ·rename_i X;simp only[Al0]at I;obtain⟨⟨I,U⟩,W⟩:=I;obtain⟨d,aa⟩:=zjB.1 U;obtain⟨af,ac,W⟩:=yi W;obtain⟨z,Z,W⟩:=yi W;exact zjr rfl (zxN ho J A X I aa ac Z W)
   ·cases I
  ·cases h
 | alloc zero =>
  simp only[yF]at h;split at h
  ·rename_i ho;obtain⟨ag,ae,h⟩:=yi h;obtain⟨z,Z,h⟩:=yi h;exact zup ho ae Z h
  ·cases h
 | box a =>
  simp only[yF]at h;split at h
  ·rename_i ho;exact zzg ho h
  ·cases h
 | mkm aq =>
  simp only[yF]at h;split at h
  ·rename_i ho;exact zyg ho
  ·cases h
 | st n a b =>
  simp only[yF]at h;split at h
  ·rename_i ho;simp only[Al0]at h;obtain⟨⟨J,A⟩,I⟩:=h;obtain⟨ag,ae,I⟩:=yi I;exact zAa ho J A ae (by simpa using I)
  ·cases h
 | mup aq m k v =>
  simp only[yF]at h;split at h
  ·rename_i ho;simp only[Al0]at h;obtain⟨⟨⟨J,A⟩,I⟩,U⟩:=h;split at U
   ·rename_i X;simp only[Al0]at U;obtain⟨d,aa⟩:=zjB.1 U.2;exact ztU (.inl ho) J A I X U.1 aa
   ·cases U
  ·rename_i ho;simp only[Al0]at h;obtain⟨⟨⟨J,A⟩,I⟩,U⟩:=h;split at U
   ·rename_i X;simp only[Al0]at U;obtain⟨d,aa⟩:=zjB.1 U.2;exact ztU (.inr ho) J A I X U.1 aa
   ·cases U
  ·cases h
 | blsm sz n zero ar =>
  simp only[yF]at h;split at h
  ·rename_i ho;simp only[Al0,z6]at h;obtain⟨⟨⟨⟨rfl,J⟩,A⟩,I⟩,U⟩:=h;obtain⟨af,ac,J⟩:=yi J;simp only[Al0,z6]at J;obtain⟨J,W⟩:=J;obtain⟨z,Z,W⟩:=yi W;obtain⟨e,ab,hi⟩:=ZQ ac;exact zvk ho ab hi Z J A I W U
  ·cases h
 | app sz bytes a b =>
  simp only[yF]at h;split at h
  ·rename_i ho;split at h
   ·rename_i am an;simp only[Al0,z6]at h;obtain⟨⟨⟨⟨J,A⟩,I⟩,U⟩,W⟩:=h;obtain⟨af,ac,I⟩:=yi I;simp only[Al0,z6]at I;obtain⟨⟨I,Y⟩,ad⟩:=I;obtain⟨z,Z,ad⟩:=yi ad;obtain⟨e,ab,hi⟩:=ZQ ac;split at W
    ·rename_i ao;exact zza (by rw[ho,zhr am,zhr an]) J A ab ao hi Z I Y (by simpa using ad) U
    ·cases W
   ·cases h
  ·cases h
 | apps a b =>
  simp only[yF]at h;split at h
  ·rename_i ho;split at h
   ·rename_i am an;simp only[Al0]at h;obtain⟨⟨⟨J,A⟩,I⟩,W⟩:=h;obtain⟨af,ac,I⟩:=yi I;simp only[Al0,z6]at I;obtain⟨⟨I,Y⟩,ad⟩:=I;obtain⟨z,Z,ad⟩:=yi ad;obtain⟨e,ab,hi⟩:=ZQ ac;split at W
    ·rename_i ao;exact zvN (by rw[ho,zhr am,zhr an]) J A ab ao hi Z I Y (by simpa using ad)
    ·cases W
   ·cases h
  ·cases h
 | call f args =>
  simp only[yF]at h;split at h
  ·rename_i ho;simp only[Al0,z6]at h;obtain⟨⟨rfl,J⟩,A⟩:=h;exact zwx ho J A
  ·cases h
 | callv g args =>
  simp only[yF]at h;split at h
  ·rename_i ho;simp only[Al0]at h;exact zs9 ho h.1 h.2
  ·cases h
 | pan a =>
  simp only[yF]at h;split at h
  ·rename_i ho;exact zzh ho h
  ·cases h
abbrev Chk:=Nat×Option (Nat×Bool)×AOp
structure AItem where
 dst:Option Nat
 guard:Option (Nat×Bool)
 op:AOp
 chk:List Nat
def gv(g:Option (Nat×Bool))(ρ:Env):Option Bool :=
 match g with
 | none=>some true
 | some (s,want)=>match ρ s with
  | .bool b=>some (b==want)
  | .tup []=>some false
  | _=>none
def Zn(ρ:Env)(H:zb):List Chk->Prop
 | []=>True
 | (d,g,o)::r=>(gv g ρ=some true->rev ρ H o=some (ρ d))/\Zn ρ H r
def ZR(P:Program)(KP:AV->zb->Prop)(it:AItem)(R:List Chk)(ρ:Env)(H:zb)(K:Env->zb->Prop):Prop :=
 match gv it.guard ρ with
 | some true=>aop P KP it.op ρ H (λv H'=>Zn (ρ.set it.dst v) H' R/\K (ρ.set it.dst v) H')
 | some false=>K (ρ.set it.dst (.tup [])) H
 | none=>False
def yI(P:Program)(KP:AV->zb->Prop):List (AItem×List Chk)->Env->zb->(Env->zb->Prop)->Prop
 | [],ρ,H,K=>K ρ H
 | it::r,ρ,H,K=>ZR P KP it.1 it.2 ρ H (λρ' H'=>yI P KP r ρ' H' K)
def Opd.slots:Opd->List Nat
 | .t n=>[n]
 | .k _=>[]
def zfP:Option Opd->List Nat
 | some x=>x.slots
 | none=>[]
def AOp.looks:AOp->List Nat
 | .mv x|.nilchk x|.ifnil _ x|.tas _ _ x|.not x|.cvi _ x|.cvb2s x|.ext x _|.mki _ x|.fa _ x|.fld _ _ _ x|.len x|.lens x|.boxv x|.ld _ _ x|.box x|.pan x=>x.slots
 | .pick a b c=>a.slots++b.slots++c.slots
 | .bi _ _ x y|.shf _ x y|.bs _ x y|.bb _ x y|.eqa _ _ x y|.ia _ x y|.ixs x y|.lkp _ _ _ x y|.st _ x y|.app _ _ x y|.apps x y=>x.slots++y.slots
 | .bld _ qs=>qs.flatMap λq=>q.2.2.slots
 | .bls _ _ _ qs|.blsm _ _ _ qs=>qs.flatMap λq=>q.2.slots
 | .mkfn _ a b=>a.flatMap Opd.slots++b.flatMap Opd.slots
 | .sls x lo hi=>x.slots++zfP lo++zfP hi
 | .sll _ x lo hi mx=>x.slots++zfP lo++zfP hi++zfP mx
 | .mm _ x ys=>x.slots++ys.flatMap Opd.slots
 | .alloc _|.mkm _=>[]
 | .mup _ a b c=>a.slots++b.slots++c.slots
 | .call _ args=>args.flatMap Opd.slots
 | .callv g args=>g.slots++args.flatMap Opd.slots
def yp{ρ ρ':Env}{x:Opd}(h:∀n∈x.slots,ρ n=ρ' n):x.ev ρ=x.ev ρ':=by
 cases x with
 | t n=>exact h n (by simp[Opd.slots])
 | k c=>rfl
def zcC{ρ ρ':Env}:∀ {xs:List Opd},(∀n∈xs.flatMap Opd.slots,ρ n=ρ' n)->xs.map (Opd.ev ρ)=xs.map (Opd.ev ρ')
 | [],_=>rfl
 | x::xs,h=>by simp only[List.flatMap_cons,List.mem_append]at h;simp only[List.map_cons,yp (λn A=>h n (.inl A)),zcC (λn A=>h n (.inr A))]
def zhw{ρ ρ':Env}:∀ {A:List (Nat×Nat×Opd)} {cs:List AV},(∀n∈A.flatMap (λq=>q.2.2.slots),ρ n=ρ' n)->zdB ρ cs A=zdB ρ' cs A
 | [],_,_=>rfl
 | (off,n,x)::A,cs,h=>by simp only[List.flatMap_cons,List.mem_append]at h;simp only[zdB,yp (λn I=>h n (.inl I)),zhw (λn I=>h n (.inr I))]
def zew{S:AV->AV}{ρ ρ':Env}{sz:Nat}:∀ {A:List (Nat×Opd)} {cs:List (List AV)},(∀n∈A.flatMap (λq=>q.2.slots),ρ n=ρ' n)->zb8 S ρ sz cs A=zb8 S ρ' sz cs A
 | [],_,_=>rfl
 | (i,x)::A,cs,h=>by simp only[List.flatMap_cons,List.mem_append]at h;simp only[zb8,yp (λn I=>h n (.inl I)),zew (λn I=>h n (.inr I))]
def zhR{ρ ρ':Env}{mx:Bool}{k:IntKind}:∀ {A:List Opd} {a:Int},(∀n∈A.flatMap Opd.slots,ρ n=ρ' n)->zdx mx k ρ a A=zdx mx k ρ' a A
 | [],_,_=>rfl
 | y::A,a,h=>by
  simp only[List.flatMap_cons,List.mem_append]at h;simp only[zdx,yp (λn I=>h n (.inl I))];split
  ·rw[zhR (λn I=>h n (.inr I))]
  ·rfl
def zbZ{ρ ρ':Env}{d:Nat}{x:Option Opd}(h:∀n∈zfP x,ρ n=ρ' n):bound d ρ x=bound d ρ' x:=by
 cases x with
 | none=>rfl
 | some y=>simp only[bound,yp (x:=y) h]
def zkI{ρ ρ':Env}{o:AOp}(h:∀n∈o.looks,ρ n=ρ' n):pev ρ o=pev ρ' o:=by
 cases o<;>simp only[AOp.looks,List.mem_append]at h<;>simp only[pev]
 case pick a b c=>rw[yp (x:=a) (λn A=>h n (.inl (.inl A))),yp (x:=b) (λn A=>h n (.inl (.inr A))),yp (x:=c) (λn A=>h n (.inr A))]
 case bld z qs=>rw[zhw h]
 case bls a b z qs=>rw[zew h]
 case mkfn f a b=>rw[zcC (λn A=>h n (.inl A)),zcC (λn A=>h n (.inr A))]
 case sls x lo hi=>rw[yp (x:=x) (λn A=>h n (.inl (.inl A))),zbZ (x:=lo) (λn A=>h n (.inl (.inr A)))];simp only[zbZ (x:=hi) (λn A=>h n (.inr A))]
 case sll s x lo hi mx =>
  rw[yp (x:=x) (λn A=>h n (.inl (.inl (.inl A)))),zbZ (x:=lo) (λn A=>h n (.inl (.inl (.inr A))))];simp only[zbZ (x:=hi) (λn A=>h n (.inl (.inr A)))];cases mx with
  | none =>
   split
   ·rename_i W X xs _;generalize bound 0 ρ' lo=I;generalize bound xs.length ρ' hi=J;cases I<;>cases J<;>rfl
   ·rfl
   ·rfl
  | some m =>
   have U:=yp (x:=m) (λn A=>h n (.inr (show n∈zfP (some m) from A)));split
   ·rename_i W X xs _;generalize bound 0 ρ' lo=I;generalize bound xs.length ρ' hi=J;cases I<;>cases J<;>first|rfl|(show (match m.ev ρ with|.int _ m=>_|_=>_)=_;rw[U]<;>rfl)
   ·rfl
   ·rfl
 case mm mx x ys=>rw[yp (x:=x) (λn A=>h n (.inl A))];simp only[zhR (λn A=>h n (.inr A))]
 all_goals first
  | rfl
  | (rw[yp h];done)
  | (rename_i x y;rw[yp (x:=x) (λn A=>h n (.inl A)),yp (x:=y) (λn A=>h n (.inr A))];done)
def zcT{ρ ρ':Env}{H:zb}{o:AOp}(h:∀n∈o.looks,ρ n=ρ' n):rev ρ H o=rev ρ' H o:=by
 cases o<;>simp only[AOp.looks,List.mem_append]at h<;>simp only[rev]
 all_goals first
  | (rw[yp h];done)
  | (rename_i x y;rw[yp (x:=x) (λn A=>h n (.inl A)),yp (x:=y) (λn A=>h n (.inr A))];done)
def ze7{ρ ρ':Env}{o:AOp}(h:∀n∈o.looks,ρ n=ρ' n):oev ρ o=oev ρ' o:=by
 cases o<;>simp only[AOp.looks,List.mem_append]at h<;>simp only[oev]
 case blsm a b z qs=>rw[zew h]
 all_goals (rw[yp h])
def zc2{ρ ρ':Env}{b:Nat}{o:AOp}(h:∀n∈o.looks,ρ n=ρ' n):zdI ρ b o=zdI ρ' b o:=by
 cases o<;>simp only[AOp.looks,List.mem_append]at h<;>simp only[zdI]
 all_goals (rw[yp h])
def zkF{P:Program}{KP:AV->zb->Prop}{ρ ρ':Env}{H:zb}{K:AV->zb->Prop}{o:AOp}(h:∀n∈o.looks,ρ n=ρ' n):eff P KP ρ H K o=eff P KP ρ' H K o:=by
 cases o<;>simp only[AOp.looks,List.mem_append]at h<;>simp only[eff]
 case mup kt a b c=>rw[yp (x:=a) (λn A=>h n (.inl (.inl A))),yp (x:=b) (λn A=>h n (.inl (.inr A))),yp (x:=c) (λn A=>h n (.inr A))]
 case call f args=>rw[zcC h]
 case callv g args=>rw[yp (x:=g) (λn A=>h n (.inl A)),zcC (λn A=>h n (.inr A))]
 all_goals first
  | (rw[yp h];done)
  | (rename_i x y;rw[yp (x:=x) (λn A=>h n (.inl A)),yp (x:=y) (λn A=>h n (.inr A))];done)
def zqQ{P:Program}{KP:AV->zb->Prop}{ρ ρ':Env}{H:zb}{K:AV->zb->Prop}{o:AOp}(h:∀n∈o.looks,ρ n=ρ' n):aop P KP o ρ H K=aop P KP o ρ' H K:=by unfold aop;rw[zkI h,zcT h,ze7 h,zkF h];simp only[zc2 h]
def zd.monoEnd{P:Program}{f:FuncId}{args:List AV}{H:zb}{K A KP:AV->zb->Prop}(I:∀v H',K v H'->A v H')(h:zd P f args H (ZT K KP)):zd P f args H (ZT A KP) :=h.mono λr H' hr=>by cases r<;>first|exact I _ _ hr|exact hr
def zj2{sz bytes:Nat}{x y:AV}{H:zb}{K U:AV->zb->Prop}(J:∀v H',K v H'->U v H')(h:zmH sz bytes x y H K):zmH sz bytes x y H U:=by
 cases x<;>try (exact False.elim h)
 cases y<;>try (exact False.elim h)
 rename_i o ad xs ac ae af;obtain⟨Y,Z,aa,ab,A⟩:=h;refine⟨Y,Z,aa,ab,?_⟩;cases o with
 | no=>exact A
 | nil=>exact⟨λe=>J _ _ (A.1 e),λe b I=>J _ _ (A.2 e b I)⟩
 | full=>exact⟨λe=>J _ _ (A.1 e),λe b I=>J _ _ (A.2 e b I)⟩
 | tip b d=>exact⟨A.1,λW X I=>J _ _ (A.2 W X I)⟩
def znj{P:Program}{KP:AV->zb->Prop}{ρ:Env}{H:zb}{K W:AV->zb->Prop}{o:AOp}(A:∀v H',K v H'->W v H')(h:eff P KP ρ H K o):eff P KP ρ H W o:=by
 cases o<;>simp only[eff]at h ⊢<;>try (exact False.elim h)
 case st n x y =>
  cases J:x.ev ρ<;>simp only[J]at h ⊢<;>try (exact False.elim h)
  rename_i b Z;cases I:H b with
  | none=>simp[I]at h
  | some U =>
   cases U<;>simp only[I]at h ⊢<;>try (exact False.elim h)
   exact⟨h.1,h.2.1,h.2.2.1,A _ _ h.2.2.2⟩
 case mup kt m k v =>
  cases J:m.ev ρ<;>simp only[J]at h ⊢<;>try (exact False.elim h)
  rename_i b;cases I:H b with
  | none=>simp[I]at h
  | some U =>
   cases U<;>simp only[I]at h ⊢<;>try (exact False.elim h)
   exact⟨h.1,h.2.1,A _ _ h.2.2⟩
 case app sz by' x y=>exact zj2 A h
 case apps x y =>
  cases Y:y.ev ρ<;>simp only[Y]at h ⊢<;>try (exact False.elim h)
  exact zj2 A h
 case call f args=>exact zd.monoEnd A h
 case callv g args =>
  cases X:g.ev ρ<;>simp only[X]at h ⊢<;>try (exact False.elim h)
  exact⟨h.1,zd.monoEnd A h.2⟩
 case pan x =>
  cases J:x.ev ρ<;>simp only[J]at h ⊢<;>try (exact False.elim h)
  exact h
def ziP{P:Program}{KP:AV->zb->Prop}{o:AOp}{ρ:Env}{H:zb}{K J:AV->zb->Prop}(I:∀v H',K v H'->J v H')(h:aop P KP o ρ H K):aop P KP o ρ H J:=by
 unfold aop at *
 cases W:o.cls<;>simp only[W]at h ⊢
 ·cases A:pev ρ o<;>simp only[A]at h ⊢;· exact I _ _ h
 ·cases A:rev ρ H o<;>simp only[A]at h ⊢;· exact I _ _ h
 ·cases A:oev ρ o<;>simp only[A]at h ⊢
  ·exact h
  ·exact λb U=>I _ _ (h b U)
 ·exact znj I h
def zdV{P:Program}{KP:AV->zb->Prop}{it:AItem}{R J:List Chk}{ρ:Env}{H:zb}{K I:Env->zb->Prop}(hr:∀A H',Zn A H' R->Zn A H' J)(W:∀A H',K A H'->I A H')(h:ZR P KP it R ρ H K):ZR P KP it J ρ H I:=by
 unfold ZR at *
 split at h
 ·exact ziP (λv H' U=>⟨hr _ _ U.1,W _ _ U.2⟩) h
 ·exact W _ _ h
 ·exact h
def zft(g:Option (Nat×Bool)):List Nat :=
 match g with
 | none=>[]
 | some (s,_)=>[s]
def AItem.looks(it:AItem):List Nat:=zft it.guard++it.op.looks
def zgK{ρ ρ':Env}{g:Option (Nat×Bool)}(h:∀n∈zft g,ρ n=ρ' n):gv g ρ=gv g ρ':=by
 cases g with
 | none=>rfl
 | some p=>simp only[gv,h p.1 (by simp[zft])]
def yM{ρ:Env}{d:Option Nat}{c:AV}{l:List Nat}(h:∀x,d=some x->x ∉ l):∀n∈l,(ρ.set d c) n=ρ n:=by
 intro n A;cases d with
 | none=>rfl
 | some x =>have:n≠x:=λe=>h x rfl (e▸A);simp[Env.set,this]
def zsy(ρ:Env){d e:Option Nat}(c u:AV)(h:∀x,d=some x->e≠some x):(ρ.set d c).set e u=(ρ.set e u).set d c:=by
 cases d with
 | none=>rfl
 | some x =>
  cases e with
  | none=>rfl
  | some y =>
   have J:x≠y:=λU=>h x rfl (U▸rfl);funext n;simp only[Env.set];by_cases A:n=y
   ·subst A;simp[Ne.symm J]
   ·by_cases I:n=x
    ·subst I;simp[J]
    ·simp[A,I]
def zaQ(c:Chk):List Nat:=c.1::zft c.2.1++c.2.2.looks
def zcw{ρ ρ':Env}{H:zb}:∀ {R:List Chk},(∀c∈R,∀n∈zaQ c,ρ n=ρ' n)->Zn ρ H R->Zn ρ' H R
 | [],_,_=>trivial
 | (d,g,o)::R,h,hr=>by have A:=h (d,g,o) (zaW ..);simp only[zaQ,List.mem_cons,List.mem_append]at A;refine⟨λJ=>?_,zcw (λc U=>h c (zbR _ U)) hr.2⟩;rw[<-zgK (λn I=>A n (.inl (.inr I)))]at J;have:=hr.1 J;rw[zcT (λn I=>A n (.inr I)),A d (.inl (.inl rfl))]at this;exact this
def AItem.apart(x i:AItem):Bool :=
 (match x.dst with
  | some d=>!(i.looks).contains d&&i.dst != some d
  | none=>true) &&
 (match i.dst with
  | some d=>!(x.looks).contains d
  | none=>true)
def apart_spec{x i:AItem}(h:x.apart i=true):(∀d,x.dst=some d->d ∉ i.looks)/\(∀d,x.dst=some d->i.dst≠some d)/\(∀d,i.dst=some d->d ∉ x.looks):=by
 refine⟨λd A=>?_,λd A=>?_,λd A=>?_⟩<;>simp[AItem.apart,A]at h
 ·exact h.1.1
 ·exact h.1.2
 ·exact h.2
instance:BEq Cls:=⟨λa b=>decide (a=b)⟩
def zcZ(x i:AItem):Bool :=
 match x.op.cls,i.op.cls with
 | .pure,_=>true
 | .read,.pure|.read,.read|.read,.alloc=>true
 | .read,.eff=>true
 | .alloc,.alloc=>i.guard.isNone
 | .eff,.alloc=>i.guard.isNone&&(match i.op with|.alloc _|.mkm _=>true|_=>false)
 | _,_=>false
def zj7{ρ:Env}{H:zb}{b:Nat}{X:AObj}{o:AOp}{v:AV}(U:H b=none)(h:rev ρ H o=some v):rev ρ (H.upd b X) o=some v:=by
 cases o<;>simp only[rev]at h ⊢<;>try (cases h;done)
 case ld n ag x =>
  cases J:x.ev ρ<;>simp only[J]at h ⊢<;>try (cases h;done)
  ·rename_i A Y;have I:A≠b:=λe=>by subst e;simp[U]at h
   simp only[zb.upd,I,if_false];exact h
  ·exact h
 case lkp kt zero ok m k =>
  split at h
  ·rename_i W;simp only[W,if_true];cases J:m.ev ρ<;>simp only[J]at h ⊢<;>try (cases h;done)
   ·exact h
   ·rename_i A;have I:A≠b:=λe=>by subst e;simp[U]at h
    simp only[zb.upd,I,if_false];exact h
  ·cases h
def zjI(KP:AV->zb->Prop):Prop:=∀v H b o,H b=none->KP v H->KP v (H.upd b o)
def zcM(H:zb){b c:Nat}(x y:AObj)(h:b≠c):(H.upd b x).upd c y=(H.upd c y).upd b x:=by
 funext n;simp only[zb.upd];by_cases A:n=c
 ·subst A;simp[Ne.symm h]
 ·by_cases I:n=b
  ·subst I;simp[h]
  ·simp[A,I]
def zky(H:zb)(b:Nat)(o:AObj)(h:H b=none):zb.union H (zb.one b o)=H.upd b o:=by
 funext n;simp only[zb.union,zb.one,zb.upd];by_cases A:n=b
 ·subst A;simp[h]
 ·simp[A]
def zd.beside{P:Program}{f:FuncId}{args:List AV}{H:zb}{K KP:AV->zb->Prop}{b:Nat}{o:AObj}(U:H b=none)(Y:zjI KP)(h:zd P f args H (ZT K KP)):
  zd P f args (H.upd b o) (ZT (λv H'=>∃H0,H0 b=none/\H'=H0.upd b o/\K v H0) KP):=by
 have Z:zb.Disj H (zb.one b o):=λc=>by
  by_cases W:c=b
  ·subst W;exact .inl U
  ·exact .inr (by simp[zb.one,W])
 rw[<-zky H b o U];refine(h.frame Z).mono λr H' ⟨A,hq,aa,X⟩=>?_;have J:A b=none:=by
  rcases aa b with I|I
  ·exact I
  ·simp[zb.one]at I
 rw[zky A b o J]at X;subst X;cases r with
 | ret v=>exact⟨A,J,rfl,hq⟩
 | pan v=>exact Y v A b o J hq
def zhO{sz bytes:Nat}{x y:AV}{H:zb}{K:AV->zb->Prop}{b:Nat}{o:AObj}(W:H b=none)(h:zmH sz bytes x y H K):
  zmH sz bytes x y (H.upd b o) (λv H'=>∃H0,H0 b=none/\H'=H0.upd b o/\K v H0):=by
 cases x<;>try (exact False.elim h)
 cases y<;>try (exact False.elim h)
 rename_i aj al xs ak am an;obtain⟨ae,Y,af,ag,U⟩:=h;refine⟨ae,Y,af,ag,?_⟩;have fresh:∀A,(H.upd b o) A=none->A≠b/\H A=none:=λA Y=>by
  have I:A≠b:=λe=>by subst e;simp[zb.upd]at Y
  exact⟨I,by simpa[zb.upd,I]using Y⟩
 cases aj with
 | no=>exact U
 | nil=>exact⟨λe=>⟨H,W,rfl,U.1 e⟩,λe A J=>by obtain⟨I,X⟩:=fresh A J;exact⟨_,by simp[zb.upd,Ne.symm I,W],zcM H _ _ (Ne.symm I),U.2 e A X⟩⟩
 | full=>exact⟨λe=>⟨H,W,rfl,U.1 e⟩,λe A J=>by obtain⟨I,X⟩:=fresh A J;exact⟨_,by simp[zb.upd,Ne.symm I,W],zcM H _ _ (Ne.symm I),U.2 e A X⟩⟩
 | tip Z d =>
  obtain⟨ac,ah⟩:=U;have I:Z≠b:=λe=>by subst e;simp[W]at ac
  refine⟨by simp[zb.upd,I,ac],λA ad J=>?_⟩;have aa:A≠b:=λe=>by subst e;simp[zb.del,zb.upd,Ne.symm I]at J
  have X:(H.del Z) A=none:=by
   unfold zb.del at J ⊢;split
   ·rfl
   ·rename_i ai;simpa[ai,zb.upd,aa]using J
  refine⟨_,?_,?_,ah A ad X⟩
  ·simp[zb.upd,zb.del,Ne.symm aa,W]
  ·rw[<-zcM _ _ _ (Ne.symm aa)]
   congr 1
   funext n;simp only[zb.del,zb.upd];by_cases ab:n=Z
   ·subst ab;simp[I]
   ·simp[ab]
def zoB{P:Program}{KP:AV->zb->Prop}{ρ:Env}{H:zb}{K:AV->zb->Prop}{x:AOp}{b:Nat}{o:AObj}(I:H b=none)(Y:zjI KP)(h:eff P KP ρ H K x):
  eff P KP ρ (H.upd b o) (λv H'=>∃H0,H0 b=none/\H'=H0.upd b o/\K v H0) x:=by
 cases x<;>simp only[eff]at h ⊢<;>try (exact False.elim h)
 case st n x y =>
  cases W:x.ev ρ<;>simp only[W]at h ⊢<;>try (exact False.elim h)
  rename_i A ac;have J:A≠b:=λe=>by subst e;simp[I]at h
  have X:(H.upd b o) A=H A:=by simp[zb.upd,J]
  rw[X];cases U:H A with
  | none=>simp[U]at h
  | some Z =>
   cases Z<;>simp only[U]at h ⊢<;>try (exact False.elim h)
   exact⟨h.1,h.2.1,h.2.2.1,_,by simp[zb.upd,Ne.symm J,I],zcM H _ _ (Ne.symm J),h.2.2.2⟩
 case mup kt m k v =>
  cases W:m.ev ρ<;>simp only[W]at h ⊢<;>try (exact False.elim h)
  rename_i A;have J:A≠b:=λe=>by subst e;simp[I]at h
  have X:(H.upd b o) A=H A:=by simp[zb.upd,J]
  rw[X];cases U:H A with
  | none=>simp[U]at h
  | some Z =>
   cases Z<;>simp only[U]at h ⊢<;>try (exact False.elim h)
   exact⟨h.1,h.2.1,_,by simp[zb.upd,Ne.symm J,I],zcM H _ _ (Ne.symm J),h.2.2⟩
 case app sz by' x y=>exact zhO I h
 case apps x y =>
  cases ab:y.ev ρ<;>simp only[ab]at h ⊢<;>try (exact False.elim h)
  exact zhO I h
 case call f args=>exact zd.beside I Y h
 case callv g args =>
  cases aa:g.ev ρ<;>simp only[aa]at h ⊢<;>try (exact False.elim h)
  exact⟨h.1,zd.beside I Y h.2⟩
 case pan x =>
  cases W:x.ev ρ<;>simp only[W]at h ⊢<;>try (exact False.elim h)
  exact Y _ _ _ _ I h
def zmU{P:Program}{KP:AV->zb->Prop}{o:AOp}{ρ:Env}{H:zb}{K J:AV->zb->Prop}(X:o.cls≠.eff)(I:∀v H',(H'=H∨∃b Y,H b=none/\H'=H.upd b Y)->K v H'->J v H')(h:aop P KP o ρ H K):aop P KP o ρ H J:=by
 unfold aop at *
 cases W:o.cls<;>simp only[W]at h ⊢
 ·cases A:pev ρ o<;>simp only[A]at h ⊢;· exact I _ _ (.inl rfl) h
 ·cases A:rev ρ H o<;>simp only[A]at h ⊢;· exact I _ _ (.inl rfl) h
 ·cases A:oev ρ o<;>simp only[A]at h ⊢
  ·exact h
  ·exact λb U=>I _ _ (.inr ⟨b,_,U,rfl⟩) (h b U)
 ·exact absurd W X
def zfh{ρ:Env}{H:zb}{b:Nat}{J:AObj}(A:H b=none):∀ {R:List Chk},Zn ρ H R->Zn ρ (H.upd b J) R
 | [],_=>trivial
 | (_,_,_)::_,hr=>⟨λI=>zj7 A (hr.1 I),zfh A hr.2⟩
def val(ρ:Env)(H:zb)(o:AOp):Option AV :=
 match o.cls with
 | .pure=>pev ρ o
 | .read=>rev ρ H o
 | _=>none
def zpQ{P:Program}{KP:AV->zb->Prop}{o:AOp}{ρ:Env}{H:zb}{K:AV->zb->Prop}(A:o.cls=.pure∨o.cls=.read):aop P KP o ρ H K↔∃v,val ρ H o=some v/\K v H:=by
 unfold aop val;rcases A with A|A<;>simp only[A]
 ·cases pev ρ o<;>simp
 ·cases rev ρ H o<;>simp
def entry(x:AItem):List Chk :=
 match x.dst with
 | some d=>[(d,x.guard,x.op)]
 | none=>[]
def zat(x i:AItem):List Chk:=if x.op.cls=.read/\i.op.cls=.eff then entry x else []
def zdM{ρ:Env}{H:zb}:∀ {A B:List Chk},Zn ρ H (A++B)->Zn ρ H B
 | [],_,h=>h
 | (_,_,_)::_,_,h=>zdM h.2
def zds.upd{H:zb}(h:zds H)(b:Nat)(o:AObj):zds (H.upd b o):=by
 obtain⟨n,h⟩:=h;refine⟨n,λc A=>?_⟩;unfold zb.upd;split
 ·simp
 ·exact h c A
def zds.of_upd{H:zb}{b:Nat}{o:AObj}(h:zds (H.upd b o)):zds H:=by
 obtain⟨n,h⟩:=h;refine⟨max n (b+1),λc I=>?_⟩;have:=h c (by omega);have A:c≠b:=by omega
 simpa[zb.upd,A]using this
def swap{P:Program}{KP:AV->zb->Prop}(bt:zjI KP){x i:AItem}{cx:List Chk}(bv:x.apart i=true)(W:zcZ x i=true)(b7:x.op.cls=.read->∃d,x.dst=some d/\d ∉ x.looks)(ba:x.op.cls≠.eff->cx=[])(b2:∀c∈cx,∀d,i.dst=some d->d ∉ zaQ c){R:List Chk}(bu:∀c∈R,∀d,x.dst=some d->d ∉ zaQ c)(a8:i.op.cls≠.eff->R=[]){ρ:Env}{H:zb}{K:Env->zb->Prop}(h:ZR P KP x cx ρ H (λcc H1=>ZR P KP i (zat x i++R) cc H1 K)):ZR P KP i R ρ H (λcd bj=>ZR P KP x cx cd bj K):=by
 obtain⟨a3,bl,a4⟩:=apart_spec bv;have bk:∀d,x.dst=some d->d ∉ zft i.guard:=λd A U=>a3 d A (zfa _ U);have ag:∀d,x.dst=some d->d ∉ i.op.looks:=λd A U=>a3 d A (List.mem_append_right _ U);have bn:∀d,i.dst=some d->d ∉ zft x.guard:=λd A U=>a4 d A (zfa _ U);have ae:∀d,i.dst=some d->d ∉ x.op.looks:=λd A U=>a4 d A (List.mem_append_right _ U);have a6:∀c,gv i.guard (ρ.set x.dst c)=gv i.guard ρ:=λc=>zgK (yM bk);have af:∀c,gv x.guard (ρ.set i.dst c)=gv x.guard ρ:=λc=>zgK (yM bn);have comm:∀c u,(ρ.set x.dst c).set i.dst u=(ρ.set i.dst u).set x.dst c:=λc u=>zsy ρ c u bl;have bh:∀c H' (av:AV->zb->Prop),aop P KP i.op (ρ.set x.dst c) H' av=aop P KP i.op ρ H' av:=λc H' av=>zqQ (yM ag);have am:∀c u H',Zn ((ρ.set x.dst c).set i.dst u) H' R->Zn (ρ.set i.dst u) H' R:=λc u H' hr=>by rw[comm]at hr;exact zcw (λe b3 n J=>yM (λd A=>bu e b3 d A) n J) hr
 unfold ZR at h;cases Y:gv x.guard ρ with
 | none=>simp[Y]at h
 | some b =>
  cases b with
  | false =>
   simp only[Y]at h;unfold ZR;rw[a6]at h;cases ad:gv i.guard ρ with
   | none=>simp[ad]at h
   | some b =>
    cases b with
    | false =>simp only[ad]at h ⊢;rw[af,Y];rw[comm]at h;exact h
    | true =>
     simp only[ad]at h ⊢;rw[bh]at h;refine ziP (λv H' I=>⟨?_,?_⟩) h
     ·exact am (.tup []) v H' (zdM I.1)
     ·rw[af,Y];rw[comm]at I;exact I.2
  | true =>
   simp only[Y]at h;by_cases ai:x.op.cls=.pure∨x.op.cls=.read
   ·have ak:x.op.cls≠.eff:=by rcases ai with e|e<;>rw[e]<;>simp
    have aq:=ba ak;rw[aq]at h;rw[zpQ ai]at h;obtain⟨v,ar,_,h⟩:=h;unfold ZR;rw[a6]at h;have au:∀u H',(x.op.cls=.read->rev ρ H' x.op=some v)->K ((ρ.set i.dst u).set x.dst v) H'->ZR P KP x cx (ρ.set i.dst u) H' K:=by
     intro u H' hr ap;unfold ZR;rw[af,Y,aq];simp only
     rw[zpQ ai];refine⟨v,?_,trivial,ap⟩;unfold val at ar ⊢;rcases ai with e|e<;>simp only[e]at ar ⊢
     ·rw[zkI (yM ae)];exact ar
     ·rw[zcT (yM ae)];exact hr e
    have a2:x.op.cls=.read->rev ρ H x.op=some v:=λe=>by simpa[val,e]using ar
    cases ad:gv i.guard ρ with
    | none=>simp[ad]at h
    | some b =>
     cases b with
     | false =>simp only[ad]at h ⊢;rw[comm]at h;exact au _ _ a2 h
     | true =>
      simp only[ad]at h ⊢;rw[bh]at h;by_cases ab:i.op.cls=.eff
      ·refine ziP (λu H' I=>?_) h;rcases ai with e|e
       ·have J:zat x i=[]:=by simp[zat,e]
        rw[J]at I;refine⟨am v u H' I.1,au u H' (λa5=>by rw[e]at a5;cases a5) (by rw[<-comm];exact I.2)⟩
       ·obtain⟨d,A,bc⟩:=b7 e;have J:zat x i=[(d,x.guard,x.op)]:=by simp[zat,e,ab,entry,A]
        rw[J]at I;obtain⟨⟨ax,ac⟩,bq⟩:=I;refine⟨am v u H' ac,au u H' (λ_=>?_) (by rw[<-comm];exact bq)⟩;have b4:gv x.guard ((ρ.set x.dst v).set i.dst u)=some true:=by rw[<-Y];rw[comm];rw[zgK (yM (l:=zft x.guard) λbo aj U=>by rw[A]at aj;cases aj;exact bc (zfa _ U))];exact af u
        have ah:=ax b4;have bp:((ρ.set x.dst v).set i.dst u) d=v:=by rw[comm,A];simp[Env.set]
        rw[bp]at ah;rw[comm]at ah;rw[zcT (yM (l:=x.op.looks) λbo aj U=>by rw[A]at aj;cases aj;exact bc (List.mem_append_right _ U))]at ah;rw[zcT (yM ae)]at ah;exact ah
      ·have J:zat x i=[]:=by simp[zat,ab]
       rw[J]at h;refine zmU ab (λu H' br I=>⟨am v u H' I.1,au u H' (λe=>?_) (by rw[<-comm];exact I.2)⟩) h;rcases br with rfl|⟨b,al,aa,rfl⟩
       ·exact a2 e
       ·exact zj7 aa (a2 e)
   ·by_cases ao:x.op.cls=.alloc
    ·-- two new objects
     have X:i.op.cls=.alloc:=by unfold zcZ at W;cases b1:i.op.cls<;>simp_all
     have az:i.guard=none:=by unfold zcZ at W;simp only[ao,X]at W;simpa using W
     have Z:x.op.cls≠.eff:=by rw[ao];simp
     have ab:i.op.cls≠.eff:=by rw[X];simp
     have aq:=ba Z;subst aq;have ay:=a8 ab;subst ay;have J:zat x i=[]:=by simp[zat,ab]
     have an:∀ρ',gv i.guard ρ'=some true:=λρ'=>by rw[az];rfl
     unfold ZR;simp only[an];simp only[J,List.append_nil,ZR,an]at h;unfold aop at h;simp only[ao,X]at h;have b9:∀u,oev (ρ.set i.dst u) x.op=oev ρ x.op:=λu=>ze7 (yM ae);have a0:∀u,oev (ρ.set x.dst u) i.op=oev ρ i.op:=λu=>ze7 (yM ag);have ca:∀u b,zdI (ρ.set i.dst u) b x.op=zdI ρ b x.op:=λu b=>zc2 (yM ae);have b5:∀u b,zdI (ρ.set x.dst u) b i.op=zdI ρ b i.op:=λu b=>zc2 (yM ag);simp only[a0,b5]at h;unfold aop;simp only[ao,X,af,Y,b9,ca];cases bg:oev ρ x.op with
     | none =>
      simp only[bg]at h ⊢;cases a1:oev ρ i.op with
      | none=>exact h
      | some cb=>exact λb aa=>⟨trivial,h.upd _ _⟩
     | some cf =>
      simp only[bg]at h ⊢;cases a1:oev ρ i.op with
      | none =>
       simp only[a1]at h ⊢;by_cases bd:∃b,H b=none
       ·obtain⟨b,aa⟩:=bd;exact(h b aa).2.of_upd
       ·exact⟨0,λb _ aa=>bd ⟨b,aa⟩⟩
      | some cb =>
       simp only[a1]at h ⊢;intro bi bw;refine⟨trivial,λaw a9=>⟨trivial,?_⟩⟩;have ak:aw≠bi:=λe=>by subst e;simp[zb.upd]at a9
       have bx:H aw=none:=by simpa[zb.upd,ak]using a9
       have ac:=((h aw bx).2 bi (by simp[zb.upd,Ne.symm ak,bw])).2;rw[comm,zcM H _ _ ak]at ac;exact ac
    have Z:x.op.cls=.eff/\i.op.cls=.alloc:=by unfold zcZ at W;cases ce:x.op.cls<;>cases b1:i.op.cls<;>simp_all
    obtain⟨Z,X⟩:=Z;have J:zat x i=[]:=by simp[zat,Z]
    have ab:i.op.cls≠.eff:=by rw[X];simp
    have ay:=a8 ab;subst ay;have az:i.guard=none:=by unfold zcZ at W;simp only[Z,X,Al0]at W;simpa using W.1
    have b8:∃al,oev ρ i.op=some al:=by unfold zcZ at W;simp only[Z,X,Al0]at W;have ac:=W.2;cases a0:i.op<;>simp only[a0]at ac<;>first|(cases ac;done)|exact⟨_,rfl⟩
    obtain⟨al,bf⟩:=b8;have an:∀ρ',gv i.guard ρ'=some true:=λρ'=>by rw[az];rfl
    unfold ZR;simp only[an,J,Z6]at h ⊢;unfold aop at h;simp only[Z,X]at h;unfold aop;simp only[X,bf];intro b aa;refine⟨trivial,?_⟩;rw[af,Y];simp only[Z];have ax:=zoB (o:=al) aa bt h;rw[zkF (ρ:=ρ.set i.dst (zdI ρ b i.op)) (yM ae)];refine znj (λv H' I=>?_) ax;obtain⟨H0,a7,rfl,hr,ap⟩:=I;have b6:oev (ρ.set x.dst v) i.op=some al:=by rw[ze7 (yM ag)];exact bf
    simp only[b6]at ap;have be:=(ap b a7).2;rw[zc2 (ρ:=ρ.set x.dst v) (ρ':=ρ) (yM ag)]at be;rw[<-comm];exact⟨zcw (λc bz n J=>(yM (λd A=>b2 c bz d A) n J).symm) (zfh a7 hr),be⟩
end Go.Ab
