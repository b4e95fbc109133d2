import Derived.Calls
import Derived.Orders
import Derived.WalkKit
import GoSem.PinnedTables
import Derived.Deep.AppendSrc
set_option maxRecDepth 100000
set_option linter.all false
def yu:=@Bool.and_eq_true
def Y1:=@Option.some.injEq
def yg:=@List.length_cons
def yy:=@List.length_nil
def ZG:=@Nat.le_refl
def ZX:=@List.length_append
def L7:=@List.cons_append
def Ql:=@Bool.false_eq_true
def Al8:=@Prod.mk.injEq
def Qh:=@List.getElem?_eq_getElem
def VF:=@Option.map_some
def TB:=@List.nil_append
def ztl:=@Except.ok.injEq
def WX:=@Bool.and_assoc
def Uh:=@List.append_assoc
def Zh:=@decide_eq_true_eq
def Vj:=@List.getElem?_eq_some_iff
def TQ:=@Array.getElem?_eq_some_iff
def Pa:=@List.length_eq_zero_iff
def W5:=@List.getElem?_map
def Yh:=@List.all_eq_true
def SV:=@Option.map_eq_some_iff
def SA:=@List.getElem?_append_left
def Ow:=@List.getElem?_append_right
def zq4:=@List.drop_append_of_le_length
def YN:=@List.mem_cons_of_mem
def zcF:=@Option.isSome_iff_exists
def YS:=@List.mem_cons_self
def Uz:=@Bool.or_eq_true
def T1:=@List.length_drop
def zsW:=@List.take_succ_cons
def Wf:=@List.mem_append_left
def zaV:=@List.getElem?_take
def zas:=@Array.getD_eq_getD_getElem?
namespace Go.Ab
inductive Own where
 | no|nil|full
 | tip (b d:Nat)
 deriving DecidableEq
inductive AV where
 | any
 | bool (b:Bool)
 | ubool (p:Prop)
 | int (k:IntKind) (n:Int)
 | str (s:List UInt8)
 | agg (cs:List AV)
 | tup (vs:List AV)
 | sl (o:Own) (sz:Nat) (xs:List (List AV))
 | slx (sz:Nat) (xs ys:List (List AV))
 | nilp
 | ptr (b off:Nat)
 | view (cs:List AV)
 | ms (b off len cap:Nat)
 | nilm
 | mp (b:Nat)
 | clo (f:FuncId) (first caps:List AV)
 | oth (v:Value)
 | ifc (t:TypeId) (x:AV)
inductive BK where
 | imm|own
 | buf (e:Nat)
abbrev Gh:=Nat->BK
def V0(γ:Gh)(b o:Nat):Prop :=
 match γ b with
 | .imm=>True
 | .own=>False
 | .buf e=>o<e
def Rg(w:World)(o:Own)(a:Addr)(n cap sz:Nat):Prop :=
 match o with
 | .no=>True
 | .nil=>False
 | .full=>n=cap
 | .tip b d=>cap=0∨(a=⟨b,d*sz,none⟩/\∃arr E,w.heap[b]?=some (.cells arr E (0,0))/\arr.size=(d+cap)*sz)
def CellIs(γ:Gh)(w:World)(b o:Nat)(v:Value):Prop :=w.cell? ⟨b,o,none⟩=some v/\V0 γ b o/\v.oneCell'=true
inductive Rep (γ:Gh) (w:World):AV->Value->Prop
 | any (v):Rep γ w .any v
 | bool (b):Rep γ w (.bool b) (.bool b)
 | ubool (p:Prop) (b:Bool) (h:b=true->p):Rep γ w (.ubool p) (.bool b)
 | int (k n):Rep γ w (.int k n) (.int k n)
 | str (s:List UInt8):Rep γ w (.str s) (.string ⟨s.toArray⟩)
 | agg (cs:List AV) (vs:List Value) (hl:cs.length=vs.length) (h1:∀(i:Nat) (v:Value),vs[i]?=some v->v.oneCell'=true)
  (h:∀(i:Nat) (c:AV) (v:Value),cs[i]?=some c->vs[i]?=some v->Rep γ w c v):Rep γ w (.agg cs) (.agg vs.toArray)
 | tup (cs:List AV) (vs:List Value) (hl:cs.length=vs.length) (h:∀(i:Nat) (c:AV) (v:Value),cs[i]?=some c->vs[i]?=some v->Rep γ w c v):Rep γ w (.tup cs) (.tuple vs.toArray)
 | slnil (o:Own) (sz:Nat) (ho:∀b d,o≠.tip b d):Rep γ w (.sl o sz []) (.slice none 0 0)
 | sl0 (o:Own) (sz:Nat) (a:Addr) (ho:o=.no∨o=.full):Rep γ w (.sl o sz []) (.slice (some a) 0 0)
 | sl (o:Own) (sz:Nat) (xs:List (List AV)) (b off cap:Nat) (cv:Nat->Nat->Value) (hc:xs.length<=cap) (hm:cap<=maxLen)
  (hu:∀x∈xs,x.length=sz)
  (hcell:∀(i:Nat) (x:List AV),xs[i]?=some x->∀j,j<sz->CellIs γ w b (off+(i*sz+j)) (cv i j))
  (hr:∀(i:Nat) (x:List AV),xs[i]?=some x->∀(j:Nat) (c:AV),x[j]?=some c->Rep γ w c (cv i j))
  (ho:Rg w o ⟨b,off,none⟩ xs.length cap sz):Rep γ w (.sl o sz xs) (.slice (some ⟨b,off,none⟩) xs.length cap)
 | slx (sz:Nat) (xs ys:List (List AV)) (ad:Option Addr) (cap:Nat) (h:Rep γ w (.sl .no sz (xs++ys)) (.slice ad (xs.length+ys.length) cap)):Rep γ w (.slx sz xs ys) (.slice ad xs.length cap)
 | nilp:Rep γ w .nilp (.pointer none)
 | ptr (b off:Nat) (hlt:b<w.heap.size):Rep γ w (.ptr b off) (.pointer (some ⟨b,off,none⟩))
 | view (cs:List AV) (b off:Nat) (cv:Nat->Value) (hcell:∀j,j<cs.length->CellIs γ w b (off+j) (cv j))
  (hr:∀(j:Nat) (c:AV),cs[j]?=some c->Rep γ w c (cv j)):Rep γ w (.view cs) (.pointer (some ⟨b,off,none⟩))
 | ms (b off len cap:Nat) (hlt:b<w.heap.size) (hc:len<=cap) (hm:cap<=maxLen):Rep γ w (.ms b off len cap) (.slice (some ⟨b,off,none⟩) len cap)
 | nilm:Rep γ w .nilm (.map none)
 | mp (b:Nat) (hlt:b<w.heap.size):Rep γ w (.mp b) (.map (some b))
 | clo (f:FuncId) (first caps:List AV) (vs us:List Value) (hl:first.length=vs.length) (hl':caps.length=us.length)
  (h:∀(i:Nat) (c:AV) (v:Value),first[i]?=some c->vs[i]?=some v->Rep γ w c v) (h':∀(i:Nat) (c:AV) (v:Value),caps[i]?=some c->us[i]?=some v->Rep γ w c v) :
  Rep γ w (.clo f first caps) (.func (.func f) vs.toArray us.toArray)
 | oth (v):Rep γ w (.oth v) v
 | ifc (t:TypeId) (x:AV) (v:Value) (h:Rep γ w x v):Rep γ w (.ifc t x) (.iface t v)
structure Rf (γ:Gh) (w:World) (γ':Gh) (w':World):Prop where
 size:w.heap.size<=w'.heap.size
 cell:∀b o v,w.cell? ⟨b,o,none⟩=some v->V0 γ b o->V0 γ' b o/\w'.cell? ⟨b,o,none⟩=some v
 shape:∀(b:Nat) (arr:Array Value) (E:TypeId) (fr:Nat×Nat),w.heap[b]?=some (.cells arr E fr)->∃arr':Array Value,w'.heap[b]?=some (.cells arr' E fr)/\arr'.size=arr.size
def Rf.refl(γ:Gh)(w:World):Rf γ w γ w:=⟨ZG _,λ_ _ _ f g=>⟨g,f⟩,λ_ arr _ _ f=>⟨arr,f,rfl⟩⟩
def Rf.trans{γ γ' j:Gh}{w w' g:World}(h:Rf γ w γ' w')(h':Rf γ' w' j g):Rf γ w j g :=⟨Nat.le_trans h.size h'.size,λb o f y z=>let ⟨p,c⟩:=h.cell b o f y z;h'.cell b o f c p,λb arr E fr v=>let ⟨a1,h1,s1⟩:=h.shape b arr E fr v;let ⟨a2,h2,s2⟩:=h'.shape b a1 E fr h1;⟨a2,h2,s2.trans s1⟩⟩
def CellIs.mono{γ γ':Gh}{w w':World}(m:Rf γ w γ' w'){b o:Nat}{v:Value}(h:CellIs γ w b o v):CellIs γ' w' b o v :=
 let ⟨p,c⟩:=m.cell b o v h.1 h.2.1
 ⟨c,p,h.2.2⟩
def Rg.mono{γ γ':Gh}{w w':World}(m:Rf γ w γ' w'){o:Own}{a:Addr}{n cap sz:Nat}(h:Rg w o a n cap sz):Rg w' o a n cap sz:=by
 cases o with
 | no=>trivial
 | nil=>exact h
 | full=>exact h
 | tip b d =>
  rcases h with h|⟨g,arr,E,j,v⟩
  ·exact .inl h
  obtain⟨f,p,y⟩:=m.shape b arr E _ j;exact .inr ⟨g,f,E,p,y.trans v⟩
def Rep.mono{γ γ':Gh}{w w':World}(m:Rf γ w γ' w'){c:AV}{v:Value}(h:Rep γ w c v):Rep γ' w' c v:=by
 induction h with
 | any v=>exact .any v
 | bool b=>exact .bool b
 | ubool ad b h=>exact .ubool ad b h
 | int k n=>exact .int k n
 | str s=>exact .str s
 | agg p A y W h f=>exact .agg p A y W f
 | tup p A y h f=>exact .tup p A y f
 | slnil o j ho=>exact .slnil o j ho
 | sl0 o j a ho=>exact .sl0 o j a ho
 | sl o j L b g cap cv C J Z G Y ho f =>exact .sl o j L b g cap cv C J Z (λi x aa K I=>(G i x aa K I).mono m) f (ho.mono m)
 | slx j L ae M cap h f=>exact .slx j L ae M cap f
 | nilp=>exact .nilp
 | ptr b g z=>exact .ptr b g (Nat.lt_of_lt_of_le z m.size)
 | view p b g cv G Y f=>exact .view p b g cv (λK I=>(G K I).mono m) f
 | ms b g ac cap z C J=>exact .ms b g ac cap (Nat.lt_of_lt_of_le z m.size) C J
 | nilm=>exact .nilm
 | mp b z=>exact .mp b (Nat.lt_of_lt_of_le z m.size)
 | clo U first O A us y X h h' f ab=>exact .clo U first O A us y X f ab
 | oth v=>exact .oth v
 | ifc t x v h f=>exact .ifc t x v f
def AV.cells:AV->List AV
 | .agg cs=>cs
 | x=>[x]
def AV.one:AV->Bool
 | .agg _|.tup _|.any=>false
 | .oth v=>v.oneCell'
 | _=>true
def Rep.oneCell{γ:Gh}{w:World}{c:AV}{v:Value}(h:Rep γ w c v)(f:c.one=true):v.oneCell'=true:=by cases h<;>first|rfl|(simp[AV.one]at f;done)|(simpa[AV.one]using f)
def AV.boxable:AV->Bool
 | .agg _=>true
 | c=>c.one
def Rep.cells{γ:Gh}{w:World}{c:AV}{v:Value}(h:Rep γ w c v)(j:c.boxable=true):
  c.cells.length=v.cells.toList.length/\(∀(i:Nat) (u:Value),v.cells.toList[i]?=some u->u.oneCell'=true) /\
  ∀(i:Nat) (d:AV) (u:Value),c.cells[i]?=some d->v.cells.toList[i]?=some u->Rep γ w d u:=by
 cases c with
 | agg G =>
  cases h with
  | agg _ C z g A=>exact⟨by simpa[AV.cells,Value.cells]using z,by simpa[Value.cells]using g,by simpa[AV.cells,Value.cells]using A⟩
 | any=>simp[AV.boxable,AV.one]at j
 | tup C=>simp[AV.boxable,AV.one]at j
 | _ =>
  have g:=h.oneCell (by simpa[AV.boxable]using j);have y:v.cells=#[v]:=by cases v<;>first|rfl|(simp[Value.oneCell']at g;done)
  rw[y];refine⟨rfl,λi u f=>?_,λi d u p f=>?_⟩
  ·cases i with
   | zero=>simp at f;subst f;exact g
   | succ i=>simp at f
  ·cases i with
   | zero=>simp[AV.cells]at p f;subst p;subst f;exact h
   | succ i=>simp at f
def AV.strip1:AV->AV
 | .sl _ sz xs=>.sl .no sz xs
 | .slx sz xs _=>.sl .no sz xs
 | x=>x
def AV.strip2:AV->AV
 | .sl (.tip _ _) sz xs=>.sl .no sz xs
 | .slx sz xs _=>.sl .no sz xs
 | x=>x
def AV.strip:AV->AV
 | .agg cs=>.agg (cs.map AV.strip1)
 | .tup vs=>.tup (vs.map λ|.agg cs=>.agg (cs.map AV.strip1)|x=>x.strip1)
 | x=>x.strip1
def Rep.front{γ:Gh}{w:World}{sz:Nat}{xs p:List (List AV)}{v:Option Addr}{n cap:Nat}(h:Rep γ w (.sl .no sz p) (.slice v n cap))(f:∃g,p=xs++g):Rep γ w (.sl .no sz xs) (.slice v xs.length cap):=by
 obtain⟨g,rfl⟩:=f;generalize j:xs++g=p at h;cases h with
 | slnil _ _ ho =>obtain⟨rfl,_⟩:=List.append_eq_nil_iff.1 j;exact .slnil _ _ ho
 | sl0 _ _ a ho =>obtain⟨rfl,_⟩:=List.append_eq_nil_iff.1 j;exact .sl0 _ _ a ho
 | sl _ _ _ b J cap cv z C I A G ho =>
  subst j;have y:∀(i:Nat) x,xs[i]?=some x->(xs++g)[i]?=some x:=λi x f=>by rw[SA (Vj.1 f).1];exact f
  simp only[ZX]at z;exact .sl .no sz xs b J cap cv (by omega) C (λx f=>I x (Wf _ f)) (λi x f=>A i x (y i x f)) (λi x f=>G i x (y i x f)) trivial
def Rep.strip1{γ:Gh}{w:World}{c:AV}{v:Value}(h:Rep γ w c v):Rep γ w c.strip1 v:=by
 cases h with
 | slnil o g ho=>exact .slnil .no g (by simp)
 | sl0 o g a ho=>exact .sl0 .no g a (.inl rfl)
 | sl o g J b f cap cv A G U C I ho=>exact .sl .no g J b f cap cv A G U C I trivial
 | slx g J Y Z cap h=>exact h.front ⟨Y,rfl⟩
 | any v=>exact .any v
 | bool b=>exact .bool b
 | ubool X b h=>exact .ubool X b h
 | int k n=>exact .int k n
 | str s=>exact .str s
 | agg j z p M h=>exact .agg j z p M h
 | tup j z p h=>exact .tup j z p h
 | nilp=>exact .nilp
 | ptr b f y=>exact .ptr b f y
 | view j b f cv C I=>exact .view j b f cv C I
 | ms b f W cap y A G=>exact .ms b f W cap y A G
 | nilm=>exact .nilm
 | mp b y=>exact .mp b y
 | clo L first K z us p O h h'=>exact .clo L first K z us p O h h'
 | oth v=>exact .oth v
 | ifc t x v h=>exact .ifc t x v h
def Rep.strip2{γ:Gh}{w:World}{c:AV}{v:Value}(h:Rep γ w c v):Rep γ w c.strip2 v:=by
 cases c with
 | sl o f g =>
  cases o with
  | tip b d=>exact h.strip1
  | no=>exact h
  | nil=>exact h
  | full=>exact h
 | slx f g j=>exact h.strip1
 | _=>exact h
def Rep.stripAgg{γ:Gh}{w:World}{g:List AV}{v:Value}(h:Rep γ w (.agg g) v):Rep γ w (.agg (g.map AV.strip1)) v:=by
 cases h with
 | agg _ A y p h =>
  refine .agg _ A (by simpa using y) p λi c v f z=>?_;rw[W5]at f;cases j:g[i]? with
  | none=>simp[j]at f
  | some x=>simp only[j,VF,Y1]at f;subst f;exact(h i x v j z).strip1
def Rep.strip{γ:Gh}{w:World}{c:AV}{v:Value}(h:Rep γ w c v):Rep γ w c.strip v:=by
 cases c with
 | agg g=>exact h.stripAgg
 | tup g =>
  cases h with
  | tup _ A y h =>
   refine .tup _ A (by simpa using y) λi c v f z=>?_;rw[W5]at f;cases j:g[i]? with
   | none=>simp[j]at f
   | some x =>
    simp only[j,VF,Y1]at f;subst f;have p:=h i x v j z;cases x with
    | agg g=>exact p.stripAgg
    | _=>exact p.strip1
 | _=>exact h.strip1
def AV.keq1:AV->AV->Bool
 | .bool a,.bool b=>a==b
 | .int _ a,.int _ b=>a==b
 | .str a,.str b=>a==b
 | _,_=>false
def VV:List AV->List AV->Bool
 | [],[]=>true
 | a::r,b::s=>a.keq1 b&&VV r s
 | _,_=>false
def AV.keq:AV->AV->Bool
 | .agg a,.agg b=>VV a b
 | a,b=>a.keq1 b
inductive K1 where
 | b|s
 | i (k:IntKind)
 deriving DecidableEq
inductive KT where
 | one (k:K1)
 | agg (ks:List K1)
 deriving DecidableEq
def K1.fits:K1->AV->Bool
 | .b,.bool _=>true
 | .s,.str _=>true
 | .i k,.int k' _=>decide (k=k')
 | _,_=>false
def yj:List K1->List AV->Bool
 | [],[]=>true
 | k::ks,c::cs=>k.fits c&&yj ks cs
 | _,_=>false
def KT.fits:KT->AV->Bool
 | .one k,c=>k.fits c
 | .agg ks,.agg cs=>yj ks cs
 | _,_=>false
inductive Yr where
 | cells (cs:List AV)
 | tip (n sz:Nat)
 | map (kt:KT) (es:List (AV×AV))
abbrev zd:=Nat->Option Yr
def zd.emp:zd:=λ_=>none
def zd.upd(H:zd)(b:Nat)(o:Yr):zd:=λc=>if c=b then some o else H c
def zd.del(H:zd)(b:Nat):zd:=λc=>if c=b then none else H c
def zd.one(b:Nat)(o:Yr):zd:=λc=>if c=b then some o else none
def zd.union(f B:zd):zd:=λc=>(f c).or (B c)
def zd.Disj(f B:zd):Prop:=∀c,f c=none∨B c=none
def AV.conc1:AV->Option Value
 | .bool b=>some (.bool b)
 | .int k n=>some (.int k n)
 | .str s=>some (.string ⟨s.toArray⟩)
 | _=>none
def U2:List AV->Option (List Value)
 | []=>some []
 | c::r=>match c.conc1,U2 r with
  | some v,some vs=>some (v::vs)
  | _,_=>none
def AV.conc:AV->Option Value
 | .agg cs=>(U2 cs).map λf=>.agg f.toArray
 | c=>c.conc1
structure UQ (γ:Gh) (w:World) (x:AV×AV) (e:MapEntry):Prop where
 key:x.1.conc=some e.key
 val:Rep γ w x.2 e.val
inductive UR (γ:Gh) (w:World) (b:Nat):Yr->Prop
 | cells (cs:List AV) (vs:List Value) (E:TypeId) (hk:γ b=.own) (hb:w.heap[b]?=some (.cells vs.toArray E (0,0))) (hl:cs.length=vs.length)
  (h1:∀(i:Nat) (v:Value),vs[i]?=some v->v.oneCell'=true)
  (hr:∀(i:Nat) (c:AV) (v:Value),cs[i]?=some c->vs[i]?=some v->Rep γ w c v):UR γ w b (.cells cs)
 | tip (n sz:Nat) (arr:Array Value) (E:TypeId) (hk:γ b=.buf (n*sz)) (hb:w.heap[b]?=some (.cells arr E (0,0))) (hl:n*sz<=arr.size):UR γ w b (.tip n sz)
 | map (kt:KT) (es:List (AV×AV)) (cs:List MapEntry) (clock:Nat) (hf:∀x∈es,kt.fits x.1=true) (hk:γ b=.own) (hb:w.heap[b]?=some (.map cs.toArray clock)) (hl:es.length=cs.length)
  (hr:∀(i:Nat) (x:AV×AV) (e:MapEntry),es[i]?=some x->cs[i]?=some e->UQ γ w x e):UR γ w b (.map kt es)
def zU(γ:Gh)(w:World)(H:zd):Prop:=∀b o,H b=some o->UR γ w b o
def UR.lt{γ:Gh}{w:World}{b:Nat}{o:Yr}(h:UR γ w b o):b<w.heap.size:=by
 cases h with
 | cells p G E g f j z v=>exact(TQ.1 f).1
 | tip n C arr E g f j=>exact(TQ.1 f).1
 | map A y p clock hf g f j v=>exact(TQ.1 f).1
structure U9 (F:Nat->Prop) (γ:Gh) (w:World) (γ':Gh) (w':World):Prop where
 mono:Rf γ w γ' w'
 os:w'.os=w.os
 output:w'.output=w.output
 frozen:∀a,a.block<w.heap.size->w'.frozen? a=w.frozen? a
 frame:∀b,b<w.heap.size->¬ F b->γ' b=γ b/\w'.heap[b]?=w.heap[b]?
def U9.refl(F:Nat->Prop)(γ:Gh)(w:World):U9 F γ w γ w:=⟨.refl γ w,rfl,rfl,λ_ _=>rfl,λ_ _ _=>⟨rfl,rfl⟩⟩
def U9.trans{F g:Nat->Prop}{γ γ' y:Gh}{w w' v:World}(h:U9 F γ w γ' w')(h':U9 g γ' w' y v)(A:∀b,b<w.heap.size->g b->F b):U9 F γ w y v :=⟨h.mono.trans h'.mono,h'.os.trans h.os,h'.output.trans h.output,λa j=>(h'.frozen a (Nat.lt_of_lt_of_le j h.mono.size)).trans (h.frozen a j),λb f p=>let ⟨g1,e1⟩:=h.frame b f p;let ⟨g2,e2⟩:=h'.frame b (Nat.lt_of_lt_of_le f h.mono.size) (λz=>p (A b f z));⟨g2.trans g1,e2.trans e1⟩⟩
def U9.weaken{F f:Nat->Prop}{γ γ':Gh}{w w':World}(h:U9 F γ w γ' w')(j:∀b,F b->f b):U9 f γ w γ' w' :=⟨h.mono,h.os,h.output,h.frozen,λb p v=>h.frame b p (λg=>v (j b g))⟩
def UQ.mono{γ γ':Gh}{w w':World}(m:Rf γ w γ' w'){x:AV×AV}{e:MapEntry}(h:UQ γ w x e):UQ γ' w' x e:=⟨h.key,h.val.mono m⟩
def UR.kept{γ γ':Gh}{w w':World}{b:Nat}{o:Yr}(m:Rf γ w γ' w')(h:UR γ w b o)(y:γ' b=γ b)(v:w'.heap[b]?=w.heap[b]?):UR γ' w' b o:=by
 cases h with
 | cells p U E g f j C z=>exact .cells p U E (y.trans g) (v.trans f) j C λi c O G J=>(z i c O G J).mono m
 | tip n M arr E g f j=>exact .tip n M arr E (y.trans g) (v.trans f) j
 | map L A p clock hf g f j z=>exact .map L A p clock hf (y.trans g) (v.trans f) j λi x e K I=>(z i x e K I).mono m
def zU.kept{F:Nat->Prop}{γ γ':Gh}{w w':World}{H:zd}(e:U9 F γ w γ' w')(h:zU γ w H)(j:∀b o,H b=some o->¬ F b):zU γ' w' H :=λb o f=>let ho:=h b o f;let ⟨g,k⟩:=e.frame b ho.lt (j b o f);ho.kept e.mono g k
inductive Tf where
 | ret (v:AV)
 | pan (v:AV)
def zdW(γ:Gh)(w:World):Ending->Tf->Prop
 | .returned v,.ret c=>Rep γ w c v
 | .panicked ch,.pan c=>∃v,ch=[{ v,recovered:=false }]/\Rep γ w c v
 | _,_=>False
def Ze(γ:Gh)(w:World)(f:List AV)(vs:List Value):Prop :=f.length=vs.length/\∀(i:Nat) (c:AV) (g:Value),f[i]?=some c->vs[i]?=some g->Rep γ w c g
def Ze.mono{γ γ':Gh}{w w':World}(m:Rf γ w γ' w'){f:List AV}{vs:List Value}(h:Ze γ w f vs):Ze γ' w' f vs :=⟨h.1,λi c p g j=>(h.2 i c p g j).mono m⟩
def Ze.nil{γ:Gh}{w:World}:Ze γ w [] []:=⟨rfl,λi c g f=>by simp at f⟩
def Ze.cons{γ:Gh}{w:World}{c:AV}{v:Value}{j:List AV}{vs:List Value}(h:Rep γ w c v)(p:Ze γ w j vs):Ze γ w (c::j) (v::vs) :=
 ⟨by simp[p.1],λi d u f g=>by
  cases i with
  | zero=>simp only[List.getElem?_cons_zero,Y1]at f g;subst f;subst g;exact h
  | succ i=>simp only[List.getElem?_cons_succ]at f g;exact p.2 i d u f g⟩
def Ze.append{γ:Gh}{w:World}{j ds:List AV}{vs us:List Value}(h:Ze γ w j vs)(h':Ze γ w ds us):Ze γ w (j++ds) (vs++us) :=
 ⟨by simp[h.1,h'.1],λi d u f g=>by
  rcases Nat.lt_or_ge i j.length with hi|hi
  ·rw[SA hi]at f;rw[SA (by rw[<-h.1];exact hi)]at g;exact h.2 i d u f g
  ·rw[Ow hi]at f;rw[Ow (by rw[<-h.1];exact hi),<-h.1]at g;exact h'.2 _ d u f g⟩
def ziu:List (Nat×List (Value->Prop)):=[(0,Go.Pinned.utf8FirstZ.map λ(n:Nat) (f:Value)=>f=.int .u8 n),
 (1,([128,191,160,191,128,159,144,191,128,143,0,0,0,0,0,0,0,0,0,0,0,0,0,0,0,0,0,0,0,0,0,0]:List Nat).map λ(n:Nat) (f:Value)=>f=.int .u8 n),
 (2,([1,10,100,1000,10000,100000,1000000,10000000,100000000,1000000000,10000000000,100000000000,1000000000000,10000000000000,100000000000000,1000000000000000,10000000000000000,100000000000000000,1000000000000000000,10000000000000000000]:List Nat).map λ(n:Nat) (f:Value)=>f=.int .u64 n),
 (3,[λf=>∃h g,f=.iface h g]),
 (4,[λf=>∃h g,f=.iface h g]),
 (5,([0,1,28,2,29,14,24,3,30,22,20,15,25,17,4,8,31,27,13,23,21,19,16,7,26,12,18,6,11,5,10,9]:List Nat).map λ(n:Nat) (f:Value)=>f=.int .u8 n),
 (6,([0,1,56,2,57,49,28,3,61,58,42,50,38,29,17,4,62,47,59,36,45,43,51,22,53,39,33,30,24,18,12,5,63,55,48,27,60,41,37,16,46,35,44,21,52,32,23,11,54,26,40,15,34,20,31,10,25,14,19,9,13,8,7,6]:List Nat).map λ(n:Nat) (f:Value)=>f=.int .u8 n)]
def UO(γ:Gh)(w:World):Prop:=∀x∈ziu,(∃(arr:Array Value) (E:TypeId) (fr:Nat×Nat),w.heap[x.1]?=some (.cells arr E fr)/\arr.size=x.2.length) /\ ∀(f:Nat) (g:Value->Prop),x.2[f]?=some g->∃h,CellIs γ w x.1 f h/\g h
def UO.mono{γ γ':Gh}{w w':World}(m:Rf γ w γ' w')(h:UO γ w):UO γ' w':=λx f =>⟨let ⟨arr,E,fr,h1,h2⟩:=(h x f).1;let ⟨arr',h3,h4⟩:=m.shape _ arr E fr h1;⟨arr',E,fr,h3,h4.trans h2⟩,λj p g=>let ⟨v,h1,h2⟩:=(h x f).2 j p g;⟨v,h1.mono m,h2⟩⟩
def zY(P:Program)(f:FuncId)(args:List AV)(H:zd)(Q:Tf->zd->Prop):Prop :=∀(γ:Gh) (w:World) (g:List Value),UO γ w->zU γ w H->Ze γ w args g -> Calls P f g.toArray w λe w'=>∃γ' H' r,U9 (λb=>(H b).isSome=true) γ w γ' w'/\zU γ' w' H' /\ (∀b,(H' b).isSome=true->(H b).isSome=true∨w.heap.size<=b)/\zdW γ' w' e r/\Q r H'
def zY.mono{P:Program}{f:FuncId}{args:List AV}{H:zd}{Q g:Tf->zd->Prop}(h:zY P f args H Q)(j:∀r H',Q r H'->g r H'):zY P f args H g :=λγ w z v p y=>(h γ w z v p y).mono λ_ _ ⟨γ',H',r,a,b,c,d,e⟩=>⟨γ',H',r,a,b,c,d,j _ _ e⟩
def zd.union_some{f B:zd}{b:Nat}{o:Yr}(h:zd.union f B b=some o):f b=some o∨(f b=none/\B b=some o):=by
 unfold zd.union at h;cases g:f b with
 | none=>right;simpa[g]using h
 | some x=>left;simpa[g]using h
def zU.sub{γ:Gh}{w:World}{H H':zd}(h:zU γ w H)(g:∀b o,H' b=some o->H b=some o):zU γ w H' :=λb o f=>h b o (g b o f)
def zY.frame{P:Program}{f:FuncId}{args:List AV}{v B:zd}{Q:Tf->zd->Prop}(C:zd.Disj v B)(h:zY P f args v Q):
  zY P f args (zd.union v B) λr H'=>∃p,Q r p/\zd.Disj p B/\H'=zd.union p B:=by
 intro γ w ac aa L ab;have M:zU γ w v:=L.sub λb o g=>by simp[zd.union,g]
 have I:zU γ w B:=L.sub λb o g=>by
  rcases C b with h|h
  ·simp[zd.union,h,g]
  ·rw[h]at g;cases g
 refine(h γ w ac aa M ab).mono λe w' ⟨γ',p,r,J,Z,K,X,Y⟩=>?_;have W:zd.Disj p B:=λc=>by
  cases U:p c with
  | none=>exact .inl rfl
  | some x =>
   right;rcases K c (by simp[U])with j|j
   ·rcases C c with A|A
    ·simp[A]at j
    ·exact A
   ·cases g:B c with
    | none=>rfl
    | some G=>have:=(I c G g).lt;omega
 have O:zU γ' w' B:=I.kept J λb o g hf=>by
  rcases C b with j|j
  ·simp[j]at hf
  ·rw[j]at g;cases g
 refine⟨γ',zd.union p B,r,J.weaken λb g=>?_,λb o g=>?_,λb g=>?_,X,p,Y,W,rfl⟩
 ·cases y:v b with
  | none=>simp[y]at g
  | some x=>simp[zd.union,y]
 ·rcases zd.union_some g with j|⟨_,j⟩
  ·exact Z b o j
  ·exact O b o j
 ·cases y:p b with
  | some x =>
   rcases K b (by simp[y])with j|j
   ·left;cases z:v b with
    | none=>simp[z]at j
    | some G=>simp[zd.union,z]
   ·exact .inr j
  | none =>
   simp only[zd.union,y,Option.none_or]at g;left;cases z:v b with
   | some G=>simp[zd.union,z]
   | none=>simp[zd.union,z,g]
inductive yY where
 | t (n:Nat)
 | k (c:AV)
abbrev Env:=Nat->AV
def Env.set(ρ:Env)(d:Option Nat)(c:AV):Env :=
 match d with
 | some d=>λn=>if n=d then c else ρ n
 | none=>ρ
def yY.ev(ρ:Env):yY->AV
 | .t n=>ρ n
 | .k c=>c
def Own.cut:Own->Nat->Own
 | .tip b d,l=>.tip b (d+l)
 | o,_=>o
inductive XQ where
 | mv (x:yY)
 | pick (c a b:yY)
 | nilchk (x:yY)
 | bi (op:BinOp) (k:IntKind) (x y:yY)
 | shf (op:BinOp) (x y:yY)
 | bs (op:BinOp) (x y:yY)
 | bb (neg:Bool) (x y:yY)
 | eqa (neg:Bool) (ks:List K1) (x y:yY)
 | not (x:yY)
 | ineg (x:yY)
 | cvi (k:IntKind) (x:yY)
 | bld (zero:List AV) (parts:List (Nat×Nat×yY))
 | bls (sz len:Nat) (zero:List AV) (parts:List (Nat×yY))
 | mkfn (f:FuncId) (first caps:List yY)
 | ext (x:yY) (i:Nat)
 | fa (off:Nat) (x:yY)
 | ia (sz:Nat) (x i:yY)
 | ixs (x i:yY)
 | sls (x:yY) (lo hi:Option yY)
 | sll (sz:Nat) (x:yY) (lo hi mx:Option yY)
 | len (x:yY)
 | lens (x:yY)
 | mm (mx:Bool) (x:yY) (ys:List yY)
 | boxv (x:yY)
 | ifnil (neg:Bool) (x:yY)
 | ld (n:Nat) (ag:Bool) (x:yY)
 | lkp (kt:KT) (zero:AV) (ok:Bool) (m k:yY)
 | alloc (zero:List AV)
 | box (x:yY)
 | mkm (kt:KT)
 | st (n:Nat) (x y:yY)
 | mup (kt:KT) (m k v:yY)
 | app (sz bytes:Nat) (x y:yY)
 | blsm (sz len:Nat) (zero:List AV) (parts:List (Nat×yY))
 | appm (sz bytes:Nat) (zero:List AV) (x y:yY)
 | call (f:FuncId) (args:List yY)
 | callv (g:yY) (args:List yY)
 | pan (x:yY)
def mk(g:Bool)(f:List AV):AV:=if g then .agg f else f.headD .any
def Yi(op:BinOp)(k:IntKind)(a b:Int):Option AV :=
 match op with
 | .add=>some (.int k (k.wrap (a+b)))
 | .sub=>some (.int k (k.wrap (a-b)))
 | .mul=>some (.int k (k.wrap (a*b)))
 | .quo=>if b=0 then none else some (.int k (k.wrap (a.tdiv b)))
 | .rem=>if b=0 then none else some (.int k (a.tmod b))
 | .and=>some (.int k (k.wrap (BitVec.ofInt k.bits a &&& BitVec.ofInt k.bits b).toNat))
 | .or=>some (.int k (k.wrap (BitVec.ofInt k.bits a ||| BitVec.ofInt k.bits b).toNat))
 | .xor=>some (.int k (k.wrap (BitVec.ofInt k.bits a ^^^ BitVec.ofInt k.bits b).toNat))
 | .andNot=>some (.int k (k.wrap (BitVec.ofInt k.bits a &&& ~~~ BitVec.ofInt k.bits b).toNat))
 | .eql=>some (.bool (a==b))
 | .neq=>some (.bool (a != b))
 | .lss=>some (.bool (decide (a<b)))
 | .leq=>some (.bool (decide (a<=b)))
 | .gtr=>some (.bool (decide (b<a)))
 | .geq=>some (.bool (decide (b<=a)))
 | .shl|.shr=>none
def YP(op:BinOp)(k:IntKind)(a b:Int):Option AV :=
 match op with
 | .shl=>if b<0 then none else some (.int k (k.wrap (a*2 ^ (min b.toNat k.bits))))
 | .shr=>if b<0 then none else some (.int k (a.fdiv (2 ^ (min b.toNat k.bits))))
 | _=>none
def YO(op:BinOp)(a b:List UInt8):Option AV :=
 match op with
 | .add=>if a.length+b.length<=9223372036854775807 then some (.str (a++b))else none
 | .eql=>some (.bool (a==b))
 | .neq=>some (.bool !(a==b))
 | .lss=>some (.bool (Op.bytesLess a b))
 | .leq=>some (.bool (Op.bytesLess a b||a==b))
 | .gtr=>some (.bool !(Op.bytesLess a b||a==b))
 | .geq=>some (.bool !(Op.bytesLess a b))
 | _=>none
def splice(f:List AV)(g:Nat)(v:List AV):List AV:=f.take g++v++f.drop (g+v.length)
def Zb(ρ:Env):List AV->List (Nat×Nat×yY)->Option (List AV)
 | cs,[]=>some cs
 | cs,(off,n,x)::r=>if (x.ev ρ).cells.length=n/\off+n<=cs.length/\(x.ev ρ).boxable=true then Zb ρ (splice cs off (x.ev ρ).cells) r else none
def y7(S:AV->AV)(ρ:Env)(sz:Nat):List (List AV)->List (Nat×yY)->Option (List (List AV))
 | xs,[]=>some xs
 | xs,(i,x)::r=>if (x.ev ρ).cells.length=sz/\i<xs.length/\(x.ev ρ).boxable=true then y7 S ρ sz (xs.set i ((x.ev ρ).cells.map S)) r else none
def bound(f:Nat)(ρ:Env):Option yY->Option Int
 | none=>some f
 | some x=>match x.ev ρ with
  | .int _ n=>some n
  | _=>none
def WJ(mx:Bool)(a b:Int):Int:=if mx then (if b > a then b else a)else (if b<a then b else a)
def Zc(mx:Bool)(k:IntKind)(ρ:Env):Int->List yY->Option Int
 | a,[]=>some a
 | a,y::r=>match y.ev ρ with
  | .int k' b=>if k=k' then Zc mx k ρ (WJ mx a b) r else none
  | _=>none
def zfx(sz b f g cap:Nat):Option Int->Option Int->Option AV
 | some l,some h=>if 0<=l/\l<=h/\h<=g then some (.ms b (if cap=l.toNat then f else f+l.toNat*sz) (h.toNat-l.toNat) (cap-l.toNat))else none
 | _,_=>none
def Yy(ρ:Env):XQ->Option AV
 | .mv x=>some (x.ev ρ)
 | .pick c a b=>match c.ev ρ with
  | .bool t=>some (if t then a.ev ρ else b.ev ρ)
  | _=>none
 | .nilchk x=>match x.ev ρ with
  | .ptr b o=>some (.ptr b o)
  | .view cs=>some (.view cs)
  | .clo f a b=>some (.clo f a b)
  | _=>none
 | .bi op k x y=>match x.ev ρ,y.ev ρ with
  | .int k1 a,.int k2 b=>if k1=k/\k2=k then Yi op k a b else none
  | _,_=>none
 | .shf op x y=>match x.ev ρ,y.ev ρ with
  | .int k a,.int _ b=>YP op k a b
  | _,_=>none
 | .bs op x y=>match x.ev ρ,y.ev ρ with
  | .str a,.str b=>YO op a b
  | _,_=>none
 | .bb neg x y=>match x.ev ρ,y.ev ρ with
  | .bool a,.bool b=>some (.bool (if neg then !(a==b)else a==b))
  | _,_=>none
 | .eqa neg ks x y=>match x.ev ρ,y.ev ρ with
  | .agg as,.agg bs=>if yj ks as=true/\yj ks bs=true then some (.bool (if neg then !(VV as bs)else VV as bs))else none
  | _,_=>none
 | .not x=>match x.ev ρ with
  | .bool t=>some (.bool !t)
  | _=>none
 | .ineg x=>match x.ev ρ with
  | .int k n=>some (.int k (k.wrap (0-n)))
  | _=>none
 | .cvi k x=>match x.ev ρ with
  | .int _ n=>some (.int k (k.wrap n))
  | _=>none
 | .bld zero parts=>(Zb ρ zero parts).map .agg
 | .bls sz n zero parts=>if zero.length=sz then (y7 AV.strip1 ρ sz (List.replicate n zero) parts).map (.sl .full sz)else none
 | .mkfn f first caps=>some (.clo f (first.map (yY.ev ρ)) (caps.map (yY.ev ρ)))
 | .ext x i=>match x.ev ρ with
  | .tup vs=>vs[i]?
  | _=>none
 | .fa off x=>match x.ev ρ with
  | .ptr b o=>some (.ptr b (o+off))
  | .view cs=>some (.view (cs.drop off))
  | _=>none
 | .ia sz x i=>match x.ev ρ,i.ev ρ with
  | .sl _ sz' xs,.int _ n=>if sz'=sz/\0<=n/\n<xs.length then some (.view (xs.getD n.toNat []))else none
  | .ms b off len _,.int _ n=>if 0<=n/\n<len then some (.ptr b (off+n.toNat*sz))else none
  | _,_=>none
 | .ixs x i=>match x.ev ρ,i.ev ρ with
  | .str s,.int _ n=>if 0<=n/\n<s.length then some (.int .u8 (s.getD n.toNat 0).toNat)else none
  | _,_=>none
 | .sls x lo hi=>match x.ev ρ with
  | .str s=>match bound 0 ρ lo,bound s.length ρ hi with
   | some l,some h=>if 0<=l/\l<=h/\h<=s.length then some (.str ((s.take h.toNat).drop l.toNat))else none
   | _,_=>none
  | _=>none
 | .sll sz x lo hi mx=>match x.ev ρ with
  | .sl o sz' xs=>match bound 0 ρ lo,bound xs.length ρ hi,mx with
   | some l,some h,none=>if sz'=sz/\0<=l/\l<=h/\h<=xs.length then some (.sl (if hi.isNone then o.cut l.toNat else .no) sz ((xs.take h.toNat).drop l.toNat))else none
   | some l,some h,some m=>match m.ev ρ with
    | .int _ m=>if sz'=sz/\0<=l/\l<=h/\h<=m/\m<=xs.length then some (.sl (if m=h then .full else .no) sz ((xs.take h.toNat).drop l.toNat))else none
    | _=>none
   | _,_,_=>none
  | .ms b off len cap=>match mx with
   | none=>zfx sz b off len cap (bound 0 ρ lo) (bound len ρ hi)
   | some _=>none
  | _=>none
 | .lens x=>match x.ev ρ with
  | .str s=>some (.int .i64 s.length)
  | _=>none
 | .len x=>match x.ev ρ with
  | .sl _ _ xs=>some (.int .i64 xs.length)
  | .slx _ xs _=>some (.int .i64 xs.length)
  | .ms _ _ n _=>some (.int .i64 n)
  | _=>none
 | .mm mx x ys=>match x.ev ρ with
  | .int k a=>(Zc mx k ρ a ys).map (.int k)
  | _=>none
 | .ifnil neg x=>match x.ev ρ with
  | .oth .nilIface=>some (.bool !neg)
  | .ifc _ _=>some (.bool neg)
  | _=>none
 | .boxv x=>if (x.ev ρ).boxable=true then some (.view (x.ev ρ).cells)else none
 | _=>none
def Ud(es:List (AV×AV))(k:AV):Option AV :=
 match es with
 | []=>none
 | (a,v)::r=>if k.keq a then some v else Ud r k
def Ti(es:List (AV×AV))(k v:AV):List (AV×AV) :=
 match es with
 | []=>[(k,v)]
 | (a,u)::r=>if k.keq a then (k,v)::r else (a,u)::Ti r k v
def W1(zero:AV)(ok:Bool)(r:Option AV):AV:=if ok then .tup [r.getD zero,.bool r.isSome]else r.getD zero
def rev(ρ:Env)(H:zd):XQ->Option AV
 | .ld n ag x=>match x.ev ρ with
  | .view cs=>if n<=cs.length then some (mk ag (cs.take n))else none
  | .ptr b off=>match H b with
   | some (.cells cs)=>if off+n<=cs.length then some (mk ag ((cs.drop off).take n))else none
   | _=>none
  | _=>none
 | .lkp kt zero ok m k=>if kt.fits (k.ev ρ)then match m.ev ρ with
  | .nilm=>some (W1 zero ok none)
  | .mp b=>match H b with
   | some (.map kt' es)=>if kt'=kt then some (W1 zero ok (Ud es (k.ev ρ)))else none
   | _=>none
  | _=>none
  else none
 | _=>none
inductive Cls where
 | pure|read|alloc|eff
 deriving DecidableEq
def XQ.cls:XQ->Cls
 | .ld ..|.lkp ..=>.read
 | .alloc ..|.box ..|.mkm ..|.blsm ..=>.alloc
 | .appm ..|.st ..|.mup ..|.app ..|.call ..|.callv ..|.pan ..=>.eff
 | _=>.pure
def Ta(zero:List AV):Nat->List AV
 | 0=>[]
 | n+1=>zero++Ta zero n
def X8(ρ:Env):XQ->Option Yr
 | .alloc zero=>some (.cells zero)
 | .box x=>if (x.ev ρ).boxable=true then some (.cells (x.ev ρ).cells)else none
 | .mkm kt=>some (.map kt [])
 | .blsm sz n zero parts=>if zero.length=sz then (y7 AV.strip1 ρ sz (List.replicate n zero) parts).map λf=>.cells f.flatten else none
 | _=>none
def Z9(ρ:Env)(b:Nat):XQ->AV
 | .mkm _=>.mp b
 | .blsm _ n _ _=>.ms b 0 n n
 | _=>.ptr b 0
def Xd(K KP:AV->zd->Prop):Tf->zd->Prop
 | .ret v,H=>K v H
 | .pan v,H=>KP v H
def Program.callable (P:Program) (f:FuncId):Bool :=
 match P.funcs[f]? with
 | some fn => fn.body.isSome && fn.name != "runtime.NumGoroutine"
 | none=>false
def zeq(sz bytes:Nat)(x y:AV)(H:zd)(K:AV->zd->Prop):Prop :=
 match x,y with
 | .sl o s1 xs,.sl _ s2 ys =>
  s1=sz/\s2=sz/\(xs.length+ys.length)*bytes<=140737488355328/\xs.length+ys.length<=maxLen /\
  match o with
  | .no=>False
  | .nil|.full=>(ys=[]->K (.sl o sz xs) H) /\ (ys≠[]->∀b,H b=none->K (.sl (.tip b 0) sz (xs++ys.map (·.map AV.strip1))) (H.upd b (.tip (xs.length+ys.length) sz)))
  | .tip b d=>H b=some (.tip (d+xs.length) sz) /\ ∀f g,(H.del b) f=none->K (.sl (.tip f g) sz (xs++ys.map (·.map AV.strip1))) ((H.del b).upd f (.tip (g+(xs.length+ys.length)) sz))
 | _,_=>False
def Kr(S:AV->AV)(sz bytes:Nat)(zero:List AV)(x y:AV)(H:zd)(K:AV->zd->Prop):Prop :=
 match y with
 | .sl _ s2 ys=>s2=sz/\zero.length=sz/\match x with
  | .sl .nil s1 xs=>xs=[]/\s1=sz/\ys.length*bytes<=140737488355328/\ys.length<=maxLen/\(ys=[]->K (.sl .nil sz []) H) /\ (ys≠[]->∀b cap,H b=none->ys.length<=cap->cap<=maxLen->K (.ms b 0 ys.length cap) (H.upd b (.cells (ys.flatten.map S++Ta zero (cap-ys.length)))))
  | .ms b off len cap=>(len+ys.length)*bytes<=140737488355328/\len+ys.length<=maxLen/\match H b with
   | some (.cells cs)=>(len+ys.length<=cap->off+(len+ys.length)*sz<=cs.length/\K (.ms b off (len+ys.length) cap) (H.upd b (.cells (splice cs (off+len*sz) (ys.flatten.map S))))) /\ (cap<len+ys.length->off+len*sz<=cs.length/\∀g f,H g=none->len+ys.length<=f->f<=maxLen->K (.ms g 0 (len+ys.length) f) (H.upd g (.cells ((cs.drop off).take (len*sz)++ys.flatten.map S++Ta zero (f-(len+ys.length))))))
   | _=>False
  | _=>False
 | _=>False
def eff(P:Program)(KP:AV->zd->Prop)(ρ:Env)(H:zd)(K:AV->zd->Prop):XQ->Prop
 | .st n x y=>match x.ev ρ with
  | .ptr b off=>match H b with
   | some (.cells cs)=>(y.ev ρ).cells.length=n/\off+n<=cs.length/\(y.ev ρ).boxable=true/\K (.tup []) (H.upd b (.cells (splice cs off (y.ev ρ).cells)))
   | _=>False
  | _=>False
 | .mup kt m k v=>match m.ev ρ with
  | .mp b=>match H b with
   | some (.map kt' es)=>kt'=kt/\kt.fits (k.ev ρ)=true/\K (.tup []) (H.upd b (.map kt (Ti es (k.ev ρ) (v.ev ρ))))
   | _=>False
  | _=>False
 | .app sz bytes x y=>zeq sz bytes (x.ev ρ) (y.ev ρ) H K
 | .appm sz bytes zero x y=>Kr AV.strip1 sz bytes zero (x.ev ρ) (y.ev ρ) H K
 | .call f args=>zY P f (args.map (yY.ev ρ)) H (Xd K KP)
 | .callv g args=>match g.ev ρ with
  | .clo f first caps=>Program.callable P f=true/\zY P f (first++args.map (yY.ev ρ)++caps) H (Xd K KP)
  | _=>False
 | .pan x=>match x.ev ρ with
  | .ifc t y=>KP (.ifc t y) H
  | _=>False
 | _=>False
def Sd(H:zd):Prop:=∃n,∀b,n<=b->H b≠none
def TZ(P:Program)(KP:AV->zd->Prop)(o:XQ)(ρ:Env)(H:zd)(K:AV->zd->Prop):Prop :=
 match o.cls with
 | .pure=>match Yy ρ o with
  | some f=>K f H
  | none=>False
 | .read=>match rev ρ H o with
  | some f=>K f H
  | none=>False
 | .alloc=>match X8 ρ o with
  | some x=>∀b,H b=none->K (Z9 ρ b o) (H.upd b x)
  | none=>Sd H
 | .eff=>eff P KP ρ H K o
structure Xg (γ:Gh) (w:World) (ρ:Env) (tmps:Array Value):Prop where
 tab:UO γ w
 rep:∀n,Rep γ w (ρ n) (tmps.getD n undef)
def Xg.mono{γ γ':Gh}{w w':World}(m:Rf γ w γ' w'){ρ:Env}{tmps:Array Value}(h:Xg γ w ρ tmps):Xg γ' w' ρ tmps:=⟨h.tab.mono m,λn=>(h.rep n).mono m⟩
def Ky:Value->AV->Bool
 | .bool b,.bool b'=>b==b'
 | .int k n,.int k' n'=>decide (k=k')&&decide (n=n')
 | .string s,.str l=>s.data.toList==l
 | .slice none 0 0,.sl .nil _ []=>true
 | .pointer none,.nilp=>true
 | .map none,.nilm=>true
 | .nilFunc,.oth .nilFunc=>true
 | .nilIface,.oth .nilIface=>true
 | _,_=>false
def Vs:List Value->List AV->Bool
 | [],[]=>true
 | v::vs,c::cs=>Ky v c&&Vs vs cs
 | _,_=>false
def zkx:Value->AV->Bool
 | .agg vs,.agg cs=>Vs vs.toList cs
 | v,c=>Ky v c
def yG:Operand->yY->Bool
 | .tmp t,.t n=>t==n
 | .const v,.k c=>zkx v c
 | .func f,.k (.clo f' [] [])=>f==f'
 | _,_=>false
def zgQ{v:Value}{c:AV}(h:Ky v c=true):v.oneCell'=true:=by unfold Ky at h;split at h<;>first|rfl|cases h
def L1{v:Value}{c:AV}(h:Ky v c=true)(γ:Gh)(w:World):Rep γ w c v:=by
 unfold Ky at h;split at h
 ·simp at h;subst h;exact .bool _
 ·simp at h;obtain⟨rfl,rfl⟩:=h;exact .int _ _
 ·rename_i s l;simp at h;subst h;exact .str s.data.toList
 ·exact .slnil .nil _ (by simp)
 ·exact .nilp
 ·exact .nilm
 ·exact .oth _
 ·exact .oth _
 ·cases h
def TV:∀ {vs:List Value} {g:List AV},Vs vs g=true->∀(γ:Gh) (w:World),
  g.length=vs.length/\(∀(i:Nat) (v:Value),vs[i]?=some v->v.oneCell'=true)/\∀(i:Nat) (c:AV) (v:Value),g[i]?=some c->vs[i]?=some v->Rep γ w c v
 | [],[],_,γ,w=>by simp
 | [],_::_,h,_,_=>by simp[Vs]at h
 | _::_,[],h,_,_=>by simp[Vs]at h
 | v::vs,c::g,h,γ,w=>by
  simp only[Vs,yu]at h;obtain⟨p,y,z⟩:=TV h.2 γ w;refine⟨by simp[p],λi u f=>?_,λi d u j f=>?_⟩
  ·cases i with
   | zero=>simp at f;subst f;exact zgQ h.1
   | succ i=>simp at f;exact y i u f
  ·cases i with
   | zero=>simp at j f;subst j;subst f;exact L1 h.1 γ w
   | succ i=>simp at j f;exact z i d u j f
def zb6{v:Value}{c:AV}(h:zkx v c=true)(γ:Gh)(w:World):Rep γ w c v:=by
 unfold zkx at h;split at h
 ·rename_i y f;obtain⟨g,j,p⟩:=TV h γ w;exact .agg f y.toList g j p
 ·exact L1 h γ w
def zP{x:Operand}{y:yY}(h:yG x y=true){γ:Gh}{w:World}{ρ:Env}{a:Act}(f:Xg γ w ρ a.tmps):Rep γ w (y.ev ρ) (a.eval x):=by
 unfold yG at h;split at h
 ·simp at h;subst h;exact f.rep _
 ·exact zb6 h γ w
 ·simp at h;subst h;exact .clo _ [] [] [] [] rfl rfl (by simp) (by simp)
 ·cases h
def W7:List Operand->List yY->Bool
 | [],[]=>true
 | x::xs,y::ys=>yG x y&&W7 xs ys
 | _,_=>false
def TL:∀ {xs:List Operand} {f:List yY},W7 xs f=true->∀ {γ:Gh} {w:World} {ρ:Env} {a:Act},Xg γ w ρ a.tmps ->
  Ze γ w (f.map (yY.ev ρ)) (xs.map a.eval)
 | [],[],_,_,_,_,_,_=>Ze.nil
 | [],_::_,h,_,_,_,_,_=>by simp[W7]at h
 | _::_,[],h,_,_,_,_,_=>by simp[W7]at h
 | x::xs,y::f,h,_,_,_,_,he=>by simp only[W7,yu]at h;exact Ze.cons (zP h.1 he) (TL h.2 he)
def YF(P:Program)(o:Oper)(g:XQ):Prop :=∀(γ:Gh) (w:World) (ρ:Env) (a:Act) (c:AV),Xg γ w ρ a.tmps->Yy ρ g=some c -> ∃f γ' w',(execOp a.eval o).run P w=.ok (.value f) w'/\U9 (λ_=>False) γ w γ' w'/\Rep γ' w' c f
def yH{P:Program}{o:Oper}{a:Act}{γ:Gh}{w:World}{c:AV}{v:Value}(h:(execOp a.eval o).run P w=.ok (.value v) w)(f:Rep γ w c v):
  ∃v γ' w',(execOp a.eval o).run P w=.ok (.value v) w'/\U9 (λ_=>False) γ w γ' w'/\Rep γ' w' c v :=
 ⟨v,γ,w,h,.refl _ _ _,f⟩
def zn4{P:Program}{o:Oper}{x:Operand}{y:yY}(ho:o.op=.move x∨o.op=.assign x)(h:yG x y=true):YF P o (.mv y):=by intro γ w ρ a c g f;simp only[Yy,Y1]at f;subst f;exact yH (by rcases ho with ho|ho<;>simp[execOp,ho]) (zP h g)
def zll{P:Program}{o:Oper}{x y p:Operand}{x' A C:yY}(ho:o.op=.pick x y p)(h:yG x x'=true)(G:yG y A=true)(I:yG p C=true):YF P o (.pick x' A C):=by
 intro γ w ρ a c g f;have j:=zP h g;have K:=zP G g;have L:=zP I g;simp only[Yy]at f;cases J:x'.ev ρ<;>simp only[J]at f j<;>try (cases f;done)
 rename_i t;simp only[Y1]at f;subst f;generalize z:a.eval x=v at j;cases j;cases t
 ·exact yH (v:=a.eval p) (by simp[execOp,ho,z,asBool]) (by simpa using L)
 ·exact yH (v:=a.eval y) (by simp[execOp,ho,z,asBool]) (by simpa using K)
def zga{P:Program}{o:Oper}{x:Operand}{x':yY}(ho:o.op=.nilCheck x)(h:yG x x'=true):YF P o (.nilchk x'):=by
 intro γ w ρ a c j f;have g:=zP h j;simp only[Yy]at f;cases v:x'.ev ρ<;>simp only[v]at f g<;>try (cases f;done)
 all_goals simp only[Y1]at f;subst f;generalize p:a.eval x=z at g;have y:=g;cases g;exact yH (by simp[execOp,ho,p]) y
def KX{P:Program}{w:World}(op:BinOp)(k:IntKind)(a b:Int){c:AV}(h:Yi op k a b=some c)(j:op≠.shl)(p:op≠.shr)(t:TypeId)(γ:Gh):
  ∃g,(binOp op t (.int k a) (.int k b)).run P w=.ok g w/\Rep γ w c g:=by
 cases op
 case shl=>exact absurd rfl j
 case shr=>exact absurd rfl p
 case quo =>
  simp only[Yi]at h;split at h
  ·cases h
  ·rename_i f;simp only[Y1]at h;subst h;exact⟨.int k _,by simp[binOp,Op.intDiv,f];done,.int _ _⟩
 case rem =>
  simp only[Yi]at h;split at h
  ·cases h
  ·rename_i f;simp only[Y1]at h;subst h;exact⟨.int k _,by simp[binOp,Op.intDiv,f];done,.int _ _⟩
 case add=>simp only[Yi,Y1]at h;subst h;exact⟨.int k _,by simp[binOp,Op.intArith];done,.int _ _⟩
 case sub=>simp only[Yi,Y1]at h;subst h;exact⟨.int k _,by simp[binOp,Op.intArith];done,.int _ _⟩
 case mul=>simp only[Yi,Y1]at h;subst h;exact⟨.int k _,by simp[binOp,Op.intArith];done,.int _ _⟩
 case and=>simp only[Yi,Y1]at h;subst h;exact⟨.int k _,by simp[binOp,Op.intBits];done,.int _ _⟩
 case or=>simp only[Yi,Y1]at h;subst h;exact⟨.int k _,by simp[binOp,Op.intBits];done,.int _ _⟩
 case xor=>simp only[Yi,Y1]at h;subst h;exact⟨.int k _,by simp[binOp,Op.intBits];done,.int _ _⟩
 case andNot=>simp only[Yi,Y1]at h;subst h;exact⟨.int k _,by simp[binOp,Op.intBits];done,.int _ _⟩
 all_goals (simp only[Yi,Y1]at h;subst h;exact⟨.bool _,by simp[binOp,Op.intCmp];done,.bool _⟩)
def VK{P:Program}{w:World}(op:BinOp)(t:TypeId)(x y:Operand)(u v:Value)(h:∀f,u≠.agg f)(h':u≠.nilIface):(eqGuard op t x y u v).run P w=.ok () w:=by unfold eqGuard;split<;>first|rfl|(cases u<;>first|rfl|(simp at h';done)|(exact absurd rfl (h _))|(simp;done))
def zrs{P:Program}{o:Oper}{op:BinOp}{t u:TypeId}{k:IntKind}{x y:Operand}{x' p:yY}(ho:o.op=.binOp op t x y u)(h:yG x x'=true)(z:yG y p=true)(A:op≠.shl)(C:op≠.shr):YF P o (.bi op k x' p):=by
 intro γ w ρ a c v f;have g:=zP h v;have j:=zP z v;simp only[Yy]at f;cases M:x'.ev ρ<;>simp only[M]at f g<;>try (cases f;done)
 cases O:p.ev ρ<;>simp only[O]at f j<;>try (cases f;done)
 rename_i W Y X Z;split at f
 ·rename_i G;obtain⟨rfl,rfl⟩:=G;generalize L:a.eval x=U at g;generalize K:a.eval y=aa at j;cases g;cases j;obtain⟨U,I,J⟩:=KX (P:=P) (w:=w) op _ _ _ f A C t γ;refine yH ?_ J;simp only[execOp,ho,L,K,Sem.run_bind,VK op t x y (.int _ _) _ (by simp) (by simp),Result.andThen_ok,I,Sem.run_pure]
 ·cases f
def zqr{P:Program}{o:Oper}{op:BinOp}{t u:TypeId}{x y:Operand}{x' p:yY}(ho:o.op=.binOp op t x y u)(h:yG x x'=true)(z:yG y p=true):YF P o (.shf op x' p):=by
 intro γ w ρ a c v f;have g:=zP h v;have j:=zP z v;simp only[Yy]at f;cases I:x'.ev ρ<;>simp only[I]at f g<;>try (cases f;done)
 cases J:p.ev ρ<;>simp only[J]at f j<;>try (cases f;done)
 generalize G:a.eval x=K at g;generalize C:a.eval y=L at j;cases g;cases j;cases op<;>simp only[YP]at f<;>try (cases f;done)
 all_goals
  split at f
  ·cases f
  ·rename_i A;simp only[Y1]at f;subst f;refine yH ?_ (.int _ _);simp only[execOp,ho,G,C,Sem.run_bind,VK _ t x y (.int _ _) _ (by simp) (by simp),Result.andThen_ok,binOp,Op.shift,A,if_false,Sem.run_pure]
def Qb(s:List UInt8):(ByteArray.mk s.toArray).toList=s:=by rw[ByteArray.toList_eq]
def PO(s:List UInt8):(ByteArray.mk s.toArray).size=s.length:=by show s.toArray.size=s.length;simp
def zgs(a b:List UInt8):(ByteArray.mk a.toArray)++(ByteArray.mk b.toArray)=ByteArray.mk (a++b).toArray:=by apply ByteArray.ext;simp
def zqw{P:Program}{o:Oper}{op:BinOp}{t u:TypeId}{x y:Operand}{x' A:yY}(ho:o.op=.binOp op t x y u)(h:yG x x'=true)(G:yG y A=true):YF P o (.bs op x' A):=by
 intro γ w ρ a c C f;have v:=zP h C;have z:=zP G C;simp only[Yy]at f;cases U:x'.ev ρ<;>simp only[U]at f v<;>try (cases f;done)
 cases W:A.ev ρ<;>simp only[W]at f z<;>try (cases f;done)
 rename_i g j;generalize O:a.eval x=p at v;generalize M:a.eval y=Z at z;cases v;cases z;have X:∃p,(Op.stringOp op ⟨g.toArray⟩ ⟨j.toArray⟩).run P w=.ok p w/\Rep γ w c p:=by
  unfold YO at f;unfold Op.stringOp;rw[Qb,Qb,PO,PO,zgs];cases op<;>simp only[]at f ⊢<;>try (cases f;done)
  case add =>
   split at f
   ·rename_i Y;simp only[Y1]at f;subst f;refine⟨.string ⟨(g++j).toArray⟩,?_,.str _⟩;have J:¬ (((g.length+j.length:Nat):Int) > IntKind.i64.max):=by simp only[IntKind.max,IntKind.signed,IntKind.bits,if_true];omega
    rw[if_neg J];rfl
   ·cases f
  all_goals (simp only[Y1]at f;subst f;exact⟨.bool _,rfl,.bool _⟩)
 obtain⟨p,K,L⟩:=X;refine yH ?_ L;have I:binOp op t (.string ⟨g.toArray⟩) (.string ⟨j.toArray⟩)=Op.stringOp op ⟨g.toArray⟩ ⟨j.toArray⟩:=by cases op<;>rfl
 simp only[execOp,ho,O,M,Sem.run_bind,VK op t x y (.string _) _ (by simp) (by simp),Result.andThen_ok,I,K,Sem.run_pure]
def zrc{P:Program}{o:Oper}{op:BinOp}{neg:Bool}{t u:TypeId}{x y:Operand}{x' C:yY}(ho:o.op=.binOp op t x y u)(h:yG x x'=true)(I:yG y C=true)(G:op=if neg then .neq else .eql)(J:P.underlying t=some .bool):YF P o (.bb neg x' C):=by
 intro γ w ρ a c p f;have z:=zP h p;have A:=zP I p;simp only[Yy]at f;cases M:x'.ev ρ<;>simp only[M]at f z<;>try (cases f;done)
 cases O:C.ev ρ<;>simp only[O]at f A<;>try (cases f;done)
 rename_i g j;generalize L:a.eval x=v at z;generalize K:a.eval y=U at A;cases z;cases A;simp only[Y1]at f;subst f;have p:(Op.equal t (.bool g) (.bool j)).run P w=.ok (g==j) w:=by unfold Op.equal Op.maxDepth;rw[Op.equalIn];simp[run_underlying J]
 refine yH (v:=.bool (if neg=true then !(g==j)else g==j)) ?_ (.bool _);cases neg<;>simp only[Ql,if_false,if_true]at G ⊢<;>subst G <;> simp only[execOp,ho,L,K,Sem.run_bind,VK _ t x y (.bool _) _ (by simp) (by simp),Result.andThen_ok,binOp,p,Sem.run_pure]
def zp9{P:Program}{o:Oper}{t:TypeId}{x:Operand}{x':yY}(ho:o.op=.unOp .not t x)(h:yG x x'=true):YF P o (.not x'):=by
 intro γ w ρ a c j f;have g:=zP h j;simp only[Yy]at f;cases y:x'.ev ρ<;>simp only[y]at f g<;>try (cases f;done)
 simp only[Y1]at f;subst f;generalize p:a.eval x=v at g;cases g;exact yH (v:=.bool _) (by simp[execOp,ho,p,Op.unary];done) (.bool _)
def zmO{P:Program}{o:Oper}{t:TypeId}{x:Operand}{x':yY}(ho:o.op=.unOp .neg t x)(h:yG x x'=true):YF P o (.ineg x'):=by
 intro γ w ρ a c j f;have g:=zP h j;simp only[Yy]at f;cases y:x'.ev ρ<;>simp only[y]at f g<;>try (cases f;done)
 rename_i k n;simp only[Y1]at f;subst f;generalize p:a.eval x=v at g;cases g;exact yH (v:=.int k (k.wrap (0-n))) (by simp[execOp,ho,p,Op.unary,Op.intArith];done) (.int _ _)
def zph{P:Program}{o:Oper}{s d:TypeId}{k:IntKind}{x:Operand}{x':yY}{ds:TypeDesc}(ho:o.op=.convert s d x)(h:yG x x'=true)(y:P.underlying s=some ds)(j:P.underlying d=some (.int k)):
  YF P o (.cvi k x'):=by
 intro γ w ρ a c p f;have g:=zP h p;simp only[Yy]at f;cases A:x'.ev ρ<;>simp only[A]at f g<;>try (cases f;done)
 simp only[Y1]at f;subst f;generalize z:a.eval x=v at g;cases g;refine yH (v:=.int k _) ?_ (.int _ _);simp[execOp,ho,z,convert,run_underlying y,run_underlying j,Conv.intToInt]
def zlA{P:Program}{o:Oper}{f:FuncId}{first g:Array Operand}{p j:List yY}(ho:o.op=.makeFunc (.func f) first g)(h:W7 first.toList p=true)(h':W7 g.toList j=true):
  YF P o (.mkfn f p j):=by
 intro γ w ρ a c z y;have A:=TL h z;have C:=TL h' z;simp only[Yy,Y1]at y;subst y;refine yH (v:=.func (.func f) (first.toList.map a.eval).toArray (g.toList.map a.eval).toArray) ?_ (.clo f _ _ _ _ A.1 C.1 A.2 C.2);have e:∀l:Array Operand,l.map a.eval=(l.toList.map a.eval).toArray:=λl=>by apply Array.ext';simp
 simp only[execOp,ho,Instr.makeFunc,Sem.run_bind,Sem.run_pure,Result.andThen_ok,e]
def zoC{P:Program}{o:Oper}{i:Nat}{x:Operand}{x':yY}(ho:o.op=.extract x i)(h:yG x x'=true):YF P o (.ext x' i):=by
 intro γ w ρ a c y f;have g:=zP h y;simp only[Yy]at f;cases G:x'.ev ρ<;>simp only[G]at f g<;>try (cases f;done)
 generalize C:a.eval x=v at g;cases g with
 | tup I p z A =>
  have j:i<p.length:=by rw[<-z];exact(Vj.1 f).1
  refine yH (v:=p[i]) ?_ (A i c _ f (Qh j));simp[execOp,ho,C,Instr.extract,j]
def addr_add(b o n:Nat):(⟨b,o,none⟩:Addr).add n=⟨b,o+n,none⟩:=by unfold Addr.add;split<;>simp_all
def isIface:Option TypeDesc->Bool
 | some (.interface _)=>true
 | _=>false
def zih{P:Program}{o:Oper}{op:BinOp}{neg:Bool}{t u:TypeId}{x y:Operand}{x':yY}(ho:o.op=.binOp op t x y u)(j:op=if neg then .neq else .eql)(h:yG x x'=true)(p:y=.const .nilIface)(z:isIface (P.underlying t)=true):YF P o (.ifnil neg x'):=by
 intro γ w ρ a c G f;have g:=zP h G;simp only[Yy]at f;obtain⟨ms,C⟩:∃ms,P.underlying t=some (.interface ms):=by
  unfold isIface at z;split at z
  ·rename_i ms I;exact⟨ms,I⟩
  ·cases z
 subst p;have p:a.eval (.const .nilIface)=.nilIface:=rfl;cases J:x'.ev ρ<;>simp only[J]at f g<;>try (cases f;done)
 ·rename_i L;cases L<;>simp only[]at f<;>try (cases f;done)
  simp only[Y1]at f;subst f;generalize A:a.eval x=v at g;cases g;refine yH (v:=.bool !neg) ?_ (.bool _);have e:(Op.equalIn 10000 t .nilIface .nilIface).run P w=.ok true w:=by rw[Op.equalIn];simp[run_underlying C]
  cases neg<;>simp only[Ql,if_false,if_true]at j<;>subst j <;> simp[execOp,ho,A,p,eqGuard,binOp,Op.equal,Op.maxDepth,Sem.run_bind,e,Sem.run_pure,Result.andThen]
 ·rename_i K O;simp only[Y1]at f;subst f;generalize A:a.eval x=v at g;cases g;rename_i M U;refine yH (v:=.bool neg) ?_ (.bool _);have e:(Op.equalIn 10000 t (.iface K M) .nilIface).run P w=.ok false w:=by
   rw[Op.equalIn];simp[run_underlying C]
  cases neg<;>simp only[Ql,if_false,if_true]at j<;>subst j <;> simp[execOp,ho,A,p,eqGuard,binOp,Op.equal,Op.maxDepth,Sem.run_bind,e,Sem.run_pure,Result.andThen]
def zrQ{P:Program}{o:Oper}{s:TypeId}{x:Operand}{x':yY}{i p:Nat}{G:Array Field}{f:Field}{C:TypeInfo}(ho:o.op=.fieldAddr s x i)(h:yG x x'=true)(X:P.underlying s=some (.struct G))(hf:G[i]?=some f)(U:f.offset=p)(hi:P.info? f.type=some C)(K:C.size≠0):YF P o (.fa p x'):=by
 intro γ w ρ a c M j;have z:=zP h M;simp only[Yy]at j;have I:∀b g,a.eval x=.pointer (some ⟨b,g,none⟩)->(execOp a.eval o).run P w=.ok (.value (.pointer (some ⟨b,g+p,none⟩))) w:=by intro b g v;simp[execOp,ho,v,Instr.fieldAt,run_underlying X,hf,Instr.sureAddr,fieldPlace,sizeOf,typeInfo,hi,K,U,addr_add]
 cases Y:x'.ev ρ<;>simp only[Y]at j z<;>try (cases j;done)
 ·rename_i b g;simp only[Y1]at j;subst j;generalize v:a.eval x=Z at z;cases z with
  | ptr _ _ O=>exact yH (I b g v) (.ptr b _ O)
 ·rename_i J;simp only[Y1]at j;subst j;generalize v:a.eval x=Z at z;cases z with
  | view J b g cv L W =>
   refine yH (I b g v) (.view _ b (g+p) (λy=>cv (p+y)) (λy A=>?_) (λy c A=>?_))
   ·have:=L (p+y) (by simp at A;omega)
    rwa [<-Nat.add_assoc]at this
   ·rw[List.getElem?_drop]at A;exact W (p+y) c A
def OG:Option TypeDesc->Bool
 | some (.struct _)|some (.array _ _)=>true
 | _=>false
def Kh{P:Program}{w:World}{t:TypeId}{d:TypeDesc}(h:P.underlying t=some d):(isAgg t).run P w=.ok (OG (P.underlying t)) w:=by unfold isAgg;rw[Sem.run_bind,run_underlying h w,h];cases d<;>rfl
def zr2{P:Program}{o:Oper}{t e:TypeId}{x y:Operand}{x' M:yY}{sz:Nat}{O:TypeInfo}(ho:o.op=.indexAddr t x y)(h:yG x x'=true)(aa:yG y M=true)(ai:P.underlying t=some (.slice e))(hi:P.info? e=some O)(hsz:O.size=sz):YF P o (.ia sz x' M):=by
 intro γ w ρ a c U f;have G:=zP h U;have I:=zP aa U;simp only[Yy]at f;have Y:∀b g p cap k (n:Int),a.eval x=.slice (some ⟨b,g,none⟩) p cap->a.eval y=.int k n->0<=n->n<p->(execOp a.eval o).run P w=.ok (.value (.pointer (some ⟨b,g+n.toNat*sz,none⟩))) w:=by intro b g p cap k n C A z j;have ae:0<=n/\n<(p:Int):=⟨z,j⟩;simp[execOp,ho,C,A,Instr.indexAt,asIntOf,run_underlying ai,ae,sizeOf,typeInfo,hi,hsz,addr_add]
 cases ak:x'.ev ρ<;>simp only[ak]at f G<;>try (cases f;done)
 all_goals (cases al:M.ev ρ<;>simp only[al]at f I<;>try (cases f;done))
 ·rename_i own Z v k n;split at f
  ·rename_i J;obtain⟨rfl,z,j⟩:=J;simp only[Y1]at f;subst f;generalize C:a.eval x=am at G;generalize A:a.eval y=an at I;cases I;cases G with
   | slnil _ _ _=>simp at j;omega
   | sl0 _ _ _ _=>simp at j;omega
   | sl _ _ _ b g cap cv ac ag aj ad ah ao =>
    have X:n.toNat<v.length:=by omega
    have K:v[n.toNat]?=some v[n.toNat]:=Qh X;have af:v.getD n.toNat []=v[n.toNat]:=by simp[List.getD,K]
    rw[af];have hlen:(v[n.toNat]).length=Z:=aj _ (List.getElem_mem X);refine yH (Y b g _ cap k n C A z j) (.view _ b (g+n.toNat*Z) (cv n.toNat) (λL W=>?_) (λL c W=>ah _ _ K L c W));have:=ad n.toNat _ K L (by omega)
    rwa [<-Nat.add_assoc]at this
  ·cases f
 ·rename_i b g p cap k n;split at f
  ·rename_i J;obtain⟨z,j⟩:=J;simp only[Y1]at f;subst f;generalize C:a.eval x=am at G;generalize A:a.eval y=an at I;cases I;cases G with
   | ms _ _ _ _ ab ac ag=>exact yH (Y b g p cap k n C A z j) (.ptr b _ ab)
  ·cases f
def zoc{P:Program}{o:Oper}{t:TypeId}{x y:Operand}{x' p:yY}(ho:o.op=.index t x y)(h:yG x x'=true)(G:yG y p=true)(L:P.underlying t=some .string):YF P o (.ixs x' p):=by
 intro γ w ρ a c z f;have g:=zP h z;have j:=zP G z;simp only[Yy]at f;cases U:x'.ev ρ<;>simp only[U]at f g<;>try (cases f;done)
 cases W:p.ev ρ<;>simp only[W]at f j<;>try (cases f;done)
 rename_i s k n;split at f
 ·rename_i K;obtain⟨C,X⟩:=K;simp only[Y1]at f;subst f;generalize O:a.eval x=v at g;generalize M:a.eval y=Y at j;cases g;cases j;have A:n.toNat<s.length:=by omega
  have I:(ByteArray.mk s.toArray)[n.toNat]?=some s[n.toNat]:=by rw[getElem?_pos _ _ (by rw[PO];exact A)];rfl
  have J:s.getD n.toNat 0=s[n.toNat]:=by simp[List.getD,A]
  rw[J];refine yH (v:=.int .u8 _) ?_ (.int _ _);simp[execOp,ho,O,M,Instr.index,asIntOf,run_underlying L,C,I]
 ·cases f
def zcD(s:List UInt8)(l h:Nat)(f:h<=s.length):(ByteArray.mk s.toArray).extract l h=ByteArray.mk ((s.take h).drop l).toArray:=by apply ByteArray.ext;apply Array.ext';simp[ByteArray.data_extract,List.extract_eq_take_drop,List.drop_take]
def T0{P:Program}{w:World}{γ:Gh}{ρ:Env}{a:Act}{x:Operand}{y:yY}{d:Nat}{n:Int}(f:Rep γ w (y.ev ρ) (a.eval x))(h:bound d ρ (some y)=some n):
  ∃k,a.eval x=.int k n:=by
 unfold bound at h;simp only at h;cases g:y.ev ρ<;>simp only[g]at h f<;>try (cases h;done)
 simp only[Y1]at h;subst h;generalize j:a.eval x=p at f;cases f;exact⟨_,rfl⟩
def Tb:Option Operand->Option yY->Bool
 | none,none=>true
 | some x,some y=>yG x y
 | _,_=>false
def Wj{P:Program}{w:World}(k:IntKind)(n:Int)(y:Nat)(code:BoundsCode)(f:0<=n)(g:n<=y):(Instr.sliceBound (.int k n) y code).run P w=.ok n.toNat w:=by have h:0<=n/\n<=(y:Int):=⟨f,g⟩;simp[Instr.sliceBound,asIntOf,h]
def S6{P:Program}{w:World}{γ:Gh}{ρ:Env}{a:Act}(isSlice:Bool)(p cap:Nat){lo hi:Option Operand}{y v:Option yY}(G:Tb lo y=true)(A:Tb hi v=true)(M:Xg γ w ρ a.tmps){l h:Int}(W:bound 0 ρ y=some l)(O:bound p ρ v=some h)(Z:0<=l)(aa:l<=h)(ab:h<=p)(ac:p<=cap):
  (Instr.sliceBounds isSlice p cap (lo.map a.eval) (hi.map a.eval) none).run P w=.ok (l.toNat,h.toNat,cap) w:=by
 have X:∀(g:Value),hi.map a.eval=some g->∃k,g=.int k h:=by
  intro g f;cases hi with
  | none=>cases f
  | some x =>
   cases v with
   | none=>cases A
   | some I =>simp only[VF,Y1]at f;obtain⟨k,C⟩:=T0 (P:=P) (zP A M) O;exact⟨k,f▸C⟩
 have K:∀(g:Value),lo.map a.eval=some g->∃k,g=.int k l:=by
  intro g f;cases lo with
  | none=>cases f
  | some x =>
   cases y with
   | none=>cases G
   | some I =>simp only[VF,Y1]at f;obtain⟨k,C⟩:=T0 (P:=P) (zP G M) W;exact⟨k,f▸C⟩
 have Y:hi.map a.eval=none->h=p:=by
  intro f;cases hi with
  | some x=>cases f
  | none =>
   cases v with
   | some I=>cases A
   | none=>simpa[bound]using O.symm
 have L:lo.map a.eval=none->l=0:=by
  intro f;cases lo with
  | some x=>cases f
  | none =>
   cases y with
   | some I=>cases G
   | none=>simpa[bound]using W.symm
 have J:∀k code,(Instr.sliceBound (.int k h) cap code).run P w=.ok h.toNat w:=λk code=>Wj k h cap code (by omega) (by omega);have z:∀k code,(Instr.sliceBound (.int k l) h.toNat code).run P w=.ok l.toNat w:=λk code=>Wj k l _ code Z (by omega);unfold Instr.sliceBounds;cases U:hi.map a.eval with
 | none =>
  have:=Y U;subst this;cases j:lo.map a.eval with
  | none=>have:=L j;subst this;simp
  | some g=>obtain⟨k,rfl⟩:=K g j;simp at z;simp[z]
 | some u =>
  obtain⟨ad,rfl⟩:=X u U;cases j:lo.map a.eval with
  | none=>have:=L j;subst this;simp[J]
  | some g=>obtain⟨k,rfl⟩:=K g j;simp[J,z]
def zpG{P:Program}{o:Oper}{t:TypeId}{x:Operand}{lo hi:Option Operand}{x':yY}{y p:Option yY}(ho:o.op=.slice t x lo hi none)(h:yG x x'=true)(O:Tb lo y=true)(L:Tb hi p=true)(U:P.underlying t=some .string):YF P o (.sls x' y p):=by
 intro γ w ρ a c A f;have z:=zP h A;simp only[Yy]at f;cases W:x'.ev ρ<;>simp only[W]at f z<;>try (cases f;done)
 rename_i s;cases g:bound 0 ρ y with
 | none=>simp only[g]at f;cases f
 | some l =>
  cases j:bound s.length ρ p with
  | none=>simp only[g,j]at f;cases f
  | some C =>
   simp only[g,j]at f;split at f
   ·rename_i M;obtain⟨G,I,J⟩:=M;simp only[Y1]at f;subst f;generalize C:a.eval x=v at z;cases z;refine yH (v:=.string _) ?_ (.str _);have K:=S6 (P:=P) false s.length s.length O L A g j G I J (ZG _);simp only[execOp,ho,C,Instr.sliceAt,Sem.run_bind,run_underlying U,Result.andThen_ok,Instr.slice,Option.map_none,Option.isSome_none,Ql,if_false,Sem.run_pure,PO,K];rw[zcD _ _ _ (by omega)]
   ·cases f
def zfI{P:Program}{w:World}{o:Oper}{a:Act}{ts:Array TypeId}{x:Operand}(ho:o.op=.call { callee:=.builtin .len,args:=#[x],argTypes:=ts }){v:Value}{n:Int}(g:a.eval x=v)(f:(Builtin.len_ ts o.type #[v]).run P w=.ok (.int .i64 n) w):(execOp a.eval o).run P w=.ok (.value (.int .i64 n)) w:=by
 simp[execOp,ho,resolve,invoke,builtin,g,f]
def zl2{P:Program}{o:Oper}{t:TypeId}{ts:Array TypeId}{x:Operand}{x':yY}(ho:o.op=.call { callee:=.builtin .len,args:=#[x],argTypes:=ts })(v:ts[0]?=some t)(h:yG x x'=true)(p:P.underlying t=some .string):YF P o (.lens x'):=by
 intro γ w ρ a c j f;have g:=zP h j;simp only[Yy]at f;cases z:x'.ev ρ<;>simp only[z]at f g<;>try (cases f;done)
 simp only[Y1]at f;subst f;generalize y:a.eval x=A at g;cases g;exact yH (zfI ho y (by simp[Builtin.len_,v,run_underlying p,goInt,PO])) (.int _ _)
def zoo{P:Program}{o:Oper}{t e:TypeId}{ts:Array TypeId}{x:Operand}{x':yY}(ho:o.op=.call { callee:=.builtin .len,args:=#[x],argTypes:=ts })(v:ts[0]?=some t)(h:yG x x'=true)(p:P.underlying t=some (.slice e)):YF P o (.len x'):=by
 intro γ w ρ a c j f;have g:=zP h j;simp only[Yy]at f;cases z:x'.ev ρ<;>simp only[z]at f g<;>try (cases f;done)
 all_goals simp only[Y1]at f
 all_goals subst f
 all_goals generalize y:a.eval x=A at g
 all_goals cases g
 all_goals exact yH (zfI ho y (by simp[Builtin.len_,v,run_underlying p,goInt])) (.int _ _)
def X5(F:Nat->Prop)(γ:Gh)(w:World)(k:BK)(c:Array Value)(t:TypeId):
  U9 F γ w (λb=>if b=w.heap.size then k else γ b) (w.alloc (.cells c t)):=by
 have j:∀b,b<w.heap.size->b≠w.heap.size:=λb p=>Nat.ne_of_lt p;refine⟨⟨by simp,λb o y h v=>?_,λb arr E fr f=>?_⟩,rfl,rfl,λa _=>RowKit.frozen?_alloc_cells w c t a,λb f _=>⟨by simp[j b f],heap_alloc_old w _ f⟩⟩
 ·have g:=World.block_lt_of_cell? w _ h;refine⟨by simpa[V0,j b g]using v,?_⟩;rw[World.cell?_alloc_lt _ _ _ g];exact h
 ·have g:=(TQ.1 f).1;exact⟨arr,by rw[heap_alloc_old w _ g];exact f,rfl⟩
def Wh(F:Nat->Prop)(γ:Gh)(w:World):U9 F γ w γ w.drew :=⟨⟨ZG _,λb o j g h=>⟨h,g⟩,λb arr E fr f=>⟨arr,f,rfl⟩⟩,rfl,rfl,λ_ _=>rfl,λb f _=>⟨rfl,rfl⟩⟩
def zlq{P:Program}{o:Oper}{t:TypeId}{x:Operand}{x':yY}(ho:o.op=.box t x)(h:yG x x'=true):YF P o (.boxv x'):=by
 intro γ w ρ a c I g;have K:=zP h I;simp only[Yy]at g;split at g
 ·rename_i G;simp only[Y1]at g;subst g;obtain⟨A,C,J⟩:=K.cells G;have z:=X5 (λ_=>False) γ w .imm (a.eval x).cells t;refine⟨.pointer (some ⟨w.heap.size,0,none⟩),_,_,?_,z,?_⟩
  ·simp[execOp,ho,Instr.box,newVar,newRow]
  ·refine .view _ w.heap.size 0 (λf=>(a.eval x).cells.toList.getD f undef) (λf p=>?_) (λf d y=>?_)
   ·rw[A]at p;have j:(a.eval x).cells.toList[f]?=some (a.eval x).cells.toList[f]:=Qh p;have v:(a.eval x).cells.toList.getD f undef=(a.eval x).cells.toList[f]:=by simp[List.getD,j]
    rw[v];refine⟨?_,by simp[V0],C f _ j⟩;rw[World.cell?_alloc_new];simp
   ·have p:f<(a.eval x).cells.toList.length:=by rw[<-A];exact(Vj.1 y).1
    have j:(a.eval x).cells.toList[f]?=some (a.eval x).cells.toList[f]:=Qh p;have v:(a.eval x).cells.toList.getD f undef=(a.eval x).cells.toList[f]:=by simp[List.getD,j]
    rw[v];exact(J f d _ y j).mono z.mono
 ·cases g
def zjb{P:Program}{w:World}{γ:Gh}{ρ:Env}{a:Act}{mx:Bool}{k:IntKind}(p:Xg γ w ρ a.tmps):∀(g:List Operand) (j:List yY) (n m:Int),W7 g j=true->Zc mx k ρ n j=some m ->
  ((g.map a.eval).foldlM (if mx then Builtin.max2 else Builtin.min2) (.int k n)).run P w=.ok (.int k m) w
 | [],[],n,m,_,hm=>by simp only[Zc,Y1]at hm;subst hm;rfl
 | [],_::_,_,_,h,_=>by simp[W7]at h
 | _::_,[],_,_,h,_=>by simp[W7]at h
 | y::g,y'::j,n,m,h,hm=>by
  simp only[W7,yu]at h;have r:=zP h.1 p;simp only[Zc]at hm;cases A:y'.ev ρ<;>simp only[A]at hm r<;>try (cases hm;done)
  rename_i C b;split at hm
  ·rename_i v;subst v;generalize z:a.eval y=G at r;cases r;have f:=zjb (P:=P) p g j _ m h.2 hm;simp only[List.map_cons,List.foldlM_cons,z];cases mx
   ·simp only[Ql,if_false]at f ⊢;simp only[Sem.run_bind,Builtin.min2,Sem.run_pure,Result.andThen_ok];simpa[WJ]using f
   ·simp only[if_true]at f ⊢;simp only[Sem.run_bind,Builtin.max2,Sem.run_pure,Result.andThen_ok];simpa[WJ]using f
  ·cases hm
def zrn{P:Program}{o:Oper}{ts:Array TypeId}{mx:Bool}{x:Operand}{j:List Operand}{x':yY}{p:List yY}{args:Array Operand}(ho:o.op=.call { callee:=.builtin (if mx then .max else .min),args:=args,argTypes:=ts })(I:args.toList=x::j)(h:yG x x'=true)(G:W7 j p=true):YF P o (.mm mx x' p):=by
 intro γ w ρ a c C f;have z:=zP h C;simp only[Yy]at f;cases K:x'.ev ρ<;>simp only[K]at f z<;>try (cases f;done)
 rename_i k n;generalize J:a.eval x=v at z;cases z;cases y:Zc mx k ρ n p with
 | none=>simp[y]at f
 | some m =>
  simp only[y,VF,Y1]at f;subst f;refine yH (v:=.int k m) ?_ (.int _ _);have g:=zjb (P:=P) (mx:=mx) C j p n m G y;have A:args.toList.map a.eval=.int k n::j.map a.eval:=by rw[I];simp[J]
  cases mx
  ·simp only[Ql,if_false]at ho g;simp[execOp,ho,resolve,invoke,builtin,Builtin.min_,A,g]
  ·simp only[if_true]at ho g;simp[execOp,ho,resolve,invoke,builtin,Builtin.max_,A,g]
def K1.isTy(P:Program)(k:K1)(t:TypeId):Bool :=
 match k,P.underlying t with
 | .b,some .bool=>true
 | .s,some .string=>true
 | .i k,some (.int k')=>decide (k=k')
 | _,_=>false
def UV (P:Program):List Field->Nat->List K1->Bool
 | [],_,[]=>true
 | f :: fs, off, k :: ks => f.name != "_" && f.offset == off && k.isTy P f.type && UV P fs (off + 1) ks
 | _,_,_=>false
def XT{P:Program}{k:K1}{t:TypeId}(h:k.isTy P t=true)(w:World):(isAgg t).run P w=.ok false w:=by
 cases f:P.underlying t with
 | none=>cases k<;>simp[K1.isTy,f]at h
 | some d =>rw[Kh f,f];cases k<;>cases d<;>simp_all [K1.isTy,OG]
def PJ{P:Program}{w:World}{γ:Gh}{k:K1}{t:TypeId}{c d:AV}{u v:Value}(p:k.isTy P t=true)(h:k.fits c=true)(j:k.fits d=true)(y:Rep γ w c u)(rd:Rep γ w d v)(n:Nat):
  (Op.equalIn (n+1) t u v).run P w=.ok (c.keq1 d) w:=by
 cases k with
 | b =>
  have f:P.underlying t=some .bool:=by
   cases g:P.underlying t with
   | none=>simp[K1.isTy,g]at p
   | some x=>cases x<;>simp_all [K1.isTy]
  cases c<;>simp[K1.fits]at h;cases d<;>simp[K1.fits]at j;cases y;cases rd;rw[run_equalIn_bool' w n t _ _ f];rfl
 | s =>
  have f:P.underlying t=some .string:=by
   cases g:P.underlying t with
   | none=>simp[K1.isTy,g]at p
   | some x=>cases x<;>simp_all [K1.isTy]
  cases c<;>simp[K1.fits]at h;cases d<;>simp[K1.fits]at j;cases y;cases rd;rw[run_equalIn_string w n t _ _ f,Qb,Qb];rfl
 | i k =>
  have f:P.underlying t=some (.int k):=by
   cases g:P.underlying t with
   | none=>simp[K1.isTy,g]at p
   | some x=>cases x<;>simp_all [K1.isTy]
  cases c<;>simp[K1.fits]at h;cases d<;>simp[K1.fits]at j;subst h;subst j;cases y;cases rd;rw[run_equalIn_int w n t _ _ _ _ f];rfl
def Sg{P:Program}{w:World}{γ:Gh}(n:Nat)(xs y:Array Value):∀(v:List Field) (g:Nat) (p:List K1) (as bs:List AV),UV P v g p=true->yj p as=true->yj p bs=true ->
  (∀i c,as[i]?=some c->∃j,xs[g+i]?=some j/\Rep γ w c j)->(∀i c,bs[i]?=some c->∃j,y[g+i]?=some j/\Rep γ w c j) ->
  (Op.eqFields (n+1) xs y v).run P w=.ok (VV as bs) w
 | [],_,[],[],[],_,_,_,_,_=>rfl
 | [],_,[],_::_,_,_,h,_,_,_=>by simp[yj]at h
 | [],_,[],[],_::_,_,_,h,_,_=>by simp[yj]at h
 | [],_,_::_,_,_,h,_,_,_,_=>by simp[UV]at h
 | _::_,_,[],_,_,h,_,_,_,_=>by simp[UV]at h
 | _::_,_,_::_,[],_,_,h,_,_,_=>by simp[yj]at h
 | _::_,_,_::_,_::_,[],_,_,h,_,_=>by simp[yj]at h
 | f::v,g,k::p,a::as,b::bs,hf,ha,hb,hx,hy=>by
  simp only[UV,yu,bne_iff_ne,ne_eq,beq_iff_eq]at hf;obtain⟨⟨⟨K,C⟩,hty⟩,L⟩:=hf;simp only[yj,yu]at ha hb;obtain⟨u,G,W⟩:=hx 0 a rfl;obtain⟨j,I,X⟩:=hy 0 b rfl;simp only[Nat.add_zero]at G I;have M:=Sg n xs y v (g+1) p as bs L ha.2 hb.2
   (λi c z=>by have:=hx (i+1) c (by simpa using z);rwa [show g+(i+1)=g+1+i by omega]at this)
   (λi c z=>by have:=hy (i+1) c (by simpa using z);rwa [show g+(i+1)=g+1+i by omega]at this)
  have O:(part f.type xs f.offset).run P w=.ok u w:=by simp[part,XT hty,C,G]
  have U:(part f.type y f.offset).run P w=.ok j w:=by simp[part,XT hty,C,I]
  have J:=PJ hty ha.1 hb.1 W X n;simp only[Op.eqFields,K,not_false_eq_true,ne_eq,if_true,Sem.run_bind,O,U,J,Result.andThen_ok];cases A:a.keq1 b
  ·simp[VV,A]
  ·simp[VV,A,M]
def zpj{P:Program}{o:Oper}{op:BinOp}{neg:Bool}{t u:TypeId}{x y:Operand}{x' C:yY}{j:List K1}{g:Array Field}(ho:o.op=.binOp op t x y u)(h:yG x x'=true)(L:yG y C=true)(J:op=if neg then .neq else .eql)(K:P.underlying t=some (.struct g))(X:UV P g.toList 0 j=true)(aa:P.stoodInHeld t=false)(M:P.eqGuardType P.depth t=false):YF P o (.eqa neg j x' C):=by
 intro γ w ρ a c G f;have p:=zP h G;have z:=zP L G;simp only[Yy]at f;cases ag:x'.ev ρ<;>simp only[ag]at f p<;>try (cases f;done)
 cases ah:C.ev ρ<;>simp only[ah]at f z<;>try (cases f;done)
 rename_i as bs;split at f
 ·rename_i O;obtain⟨U,W⟩:=O;simp only[Y1]at f;subst f;generalize af:a.eval x=v at p;generalize ae:a.eval y=ak at z;cases p with
  | agg _ A Y ai ab =>
   cases z with
   | agg _ us Z aj ac =>
    have I:P.fieldsOf t=g:=by simp[Program.fieldsOf,K]
    have ad:(Op.equalIn 10000 t (.agg A.toArray) (.agg us.toArray)).run P w=.ok (VV as bs) w:=by
     rw[run_equalIn_struct w 9999 t _ _ (by rw[I];exact K) aa,I];refine Sg (γ:=γ) 9998 _ _ g.toList 0 j as bs X U W (λi c f=>?_) (λi c f=>?_)
     ·have hi:i<A.length:=by rw[<-Y];exact(Vj.1 f).1
      exact⟨A[i],by simp[hi],ab i c _ f (Qh hi)⟩
     ·have hi:i<us.length:=by rw[<-Z];exact(Vj.1 f).1
      exact⟨us[i],by simp[hi],ac i c _ f (Qh hi)⟩
    refine yH (v:=.bool (if neg=true then !VV as bs else VV as bs)) ?_ (.bool _);cases neg<;>simp only[Ql,if_false,if_true]at J ⊢<;>subst J <;> simp only[execOp,ho,af,ae,Sem.run_bind,run_eqGuard_agg w _ t x y _ _ M,Result.andThen_ok,run_eql_struct,run_neq_struct,ad,Sem.run_pure]
 ·cases f
def PA(vs:Array Value):∀(f:Nat) (g:List Value),f+vs.size<=g.length ->
  (vs.zipIdx.foldl (λg (c,z)=>g.setIfInBounds (f+z) c) g.toArray)=(g.take f++vs.toList++g.drop (f+vs.size)).toArray:=by
 obtain⟨l⟩:=vs;intro f g h;simp only[List.size_toArray]at h;have A:∀(l:List Value) (k f:Nat) (g:List Value),f+k+l.length<=g.length ->
   ((l.zipIdx k).foldl (λ(g:Array Value) (x:Value×Nat)=>g.setIfInBounds (f+x.2) x.1) g.toArray)=(g.take (f+k)++l++g.drop (f+k+l.length)).toArray:=by
  intro l;induction l with
  | nil=>intro k f g h;simp
  | cons x l y =>
   intro k f g h;simp only[yg]at h;simp only[List.zipIdx_cons,List.foldl_cons,List.setIfInBounds_toArray];rw[y (k+1) f _ (by simp;omega)]
   congr 1
   have j:(g.set (f+k) x).take (f+(k+1))=g.take (f+k)++[x]:=by rw[show f+(k+1)=f+k+1 by omega,List.take_succ_eq_append_getElem (by simp;omega)];rw[List.take_set_of_le (by omega)];simp
   have p:(g.set (f+k) x).drop (f+(k+1)+l.length)=g.drop (f+k+(l.length+1)):=by
    rw[List.drop_set_of_lt (by omega)]
    congr 1
    omega
   rw[j,p];simp
 have:=A l 0 f g (by omega);have v:(l.toArray.zipIdx)=(l.zipIdx 0).toArray:=by simp
 rw[v,List.foldl_toArray']
 ·simpa using this
 ·simp
def zN(γ:Gh)(w:World)(g:List AV)(vs:List Value):Prop :=g.length=vs.length/\(∀(i:Nat) (f:Value),vs[i]?=some f->f.oneCell'=true)/\∀(i:Nat) (c:AV) (f:Value),g[i]?=some c->vs[i]?=some f->Rep γ w c f
def zN.append{γ:Gh}{w:World}{j ds:List AV}{vs us:List Value}(h:zN γ w j vs)(h':zN γ w ds us):zN γ w (j++ds) (vs++us) :=
 ⟨by simp[h.1,h'.1],λi u f=>by
   rcases Nat.lt_or_ge i vs.length with hi|hi
   ·rw[SA hi]at f;exact h.2.1 i u f
   ·rw[Ow hi]at f;exact h'.2.1 _ u f,
  λi d u g f=>by
   rcases Nat.lt_or_ge i j.length with hi|hi
   ·rw[SA hi]at g;rw[SA (by rw[<-h.1];exact hi)]at f;exact h.2.2 i d u g f
   ·rw[Ow hi]at g;rw[Ow (by rw[<-h.1];exact hi),<-h.1]at f;exact h'.2.2 _ d u g f⟩
def zN.take{γ:Gh}{w:World}{j:List AV}{vs:List Value}(h:zN γ w j vs)(n:Nat):zN γ w (j.take n) (vs.take n) :=
 ⟨by simp[h.1],λi u f=>(by
   rw[zaV]at f;split at f
   ·exact h.2.1 i u f
   ·cases f),
  λi d u g f=>by
   rw[zaV]at g f;split at g
   ·rename_i hi;rw[if_pos hi]at f;exact h.2.2 i d u g f
   ·cases g⟩
def zN.drop{γ:Gh}{w:World}{g:List AV}{vs:List Value}(h:zN γ w g vs)(n:Nat):zN γ w (g.drop n) (vs.drop n) :=⟨by simp[h.1],λi u f=>by rw[List.getElem?_drop]at f;exact h.2.1 _ u f,λi d u j f=>by rw[List.getElem?_drop]at j f;exact h.2.2 _ d u j f⟩
def zN.splice{γ:Gh}{w:World}{g ds:List AV}{vs us:List Value}(h:zN γ w g vs)(h':zN γ w ds us)(f:Nat):
  zN γ w (splice g f ds) (vs.take f++us++vs.drop (f+us.length)):=by
 unfold Ab.splice;rw[h'.1];exact((h.take f).append h').append (h.drop _)
def U5(place:Nat->Option (Nat×Nat)):List (Nat×Operand)->List (Nat×Nat×yY)->Bool
 | [],[]=>true
 | (i,x)::r,(off,n,y)::s=>decide (place i=some (off,n))&&yG x y&&U5 place r s
 | _,_=>false
def zcP{γ:Gh}{w:World}{ρ:Env}{a:Act}(place:Nat->Option (Nat×Nat))(p:Xg γ w ρ a.tmps):∀(g:List (Nat×Operand)) (j:List (Nat×Nat×yY)) (f:List AV) (vs:List Value) (ds:List AV),
  U5 place g j=true->Zb ρ f j=some ds->zN γ w f vs ->
  ∃us,Instr.fill place vs.toArray (g.map λ(i,x)=>(i,a.eval x))=some us.toArray/\zN γ w ds us
 | [],[],f,vs,ds,_,hd,hr=>by simp only[Zb,Y1]at hd;subst hd;exact⟨vs,rfl,hr⟩
 | [],_::_,_,_,_,h,_,_=>by simp[U5]at h
 | _::_,[],_,_,_,h,_,_=>by simp[U5]at h
 | (i,x)::g,(off,n,y)::j,f,vs,ds,h,hd,hr=>by
  simp only[U5,yu,Zh]at h;obtain⟨⟨J,O⟩,K⟩:=h;simp only[Zb]at hd;split at hd
  ·rename_i G;obtain⟨hlen,U,C⟩:=G;obtain⟨v,z,A⟩:=(zP O p).cells C;have hsz:(a.eval x).cells.size=n:=by rw[<-hlen,v];simp
   obtain⟨us,M,L⟩:=zcP place p g j _ _ ds K hd (hr.splice ⟨v,z,A⟩ off);refine⟨us,?_,L⟩;simp only[List.map_cons,Instr.fill,J];have I:¬ ((decide ((a.eval x).cells.size≠n)||decide (off+(a.eval x).cells.size > vs.toArray.size))=true):=by simp[hsz,<-hr.1];omega
   rw[if_neg I,PA _ off vs (by rw[hsz,<-hr.1];omega)];simpa using M
  ·cases hd
def Yn(sz:Nat):∀(xs:List (List AV)),(∀x∈xs,x.length=sz)->xs.flatten.length=xs.length*sz
 | [],_=>by simp
 | x::xs,h=>by have j:=Yn sz xs λp g=>h p (YN _ g);have f:=h x (YS ..);simp only[List.flatten_cons,ZX,j,f,yg,Nat.add_mul];omega
def SW(sz:Nat):∀(xs:List (List AV)) (i j:Nat),(∀x∈xs,x.length=sz)->j<sz->xs.flatten[i*sz+j]?=(xs[i]?).bind (·[j]?)
 | [],i,j,_,_=>by simp
 | x::xs,0,j,h,hj=>by have f:=h x (YS ..);simp only[Nat.zero_mul,Nat.zero_add,List.flatten_cons,List.getElem?_cons_zero,Option.bind_some];rw[SA (by omega)]
 | x::xs,i+1,j,h,hj=>by
  have f:=h x (YS ..);have p:=SW sz xs i j (λv g=>h v (YN _ g)) hj;simp only[List.flatten_cons,List.getElem?_cons_succ];rw[Ow (by rw[f,Nat.add_mul];omega),f,<-p]
  congr 1
  rw[Nat.add_mul];omega
def Rep.sl_flat{γ:Gh}{w:World}{o:Own}{sz:Nat}{xs:List (List AV)}{us:List Value}{b v cap:Nat}(p:∀x∈xs,x.length=sz)(G:xs.flatten.length=us.length)(K:∀(k:Nat) (u:Value),us[k]?=some u->CellIs γ w b (v+k) u)(J:∀(k:Nat) (c:AV) (u:Value),xs.flatten[k]?=some c->us[k]?=some u->Rep γ w c u)(C:xs.length<=cap)(I:cap<=maxLen)(ho:Rg w o ⟨b,v,none⟩ xs.length cap sz):Rep γ w (.sl o sz xs) (.slice (some ⟨b,v,none⟩) xs.length cap):=by
 have hlen:=Yn sz xs p;have y:∀i x,xs[i]?=some x->∀f,f<sz->∃u,us[i*sz+f]?=some u:=by
  intro i x g f h;have hi:i<xs.length:=(Vj.1 g).1;have A:i*sz+f<us.length:=by rw[<-G,hlen];have:(i+1)*sz<=xs.length*sz:=Nat.mul_le_mul_right _ hi;rw[Nat.add_mul]at this;omega
  exact⟨us[i*sz+f],Qh A⟩
 refine .sl o sz xs b v cap (λi f=>us.getD (i*sz+f) undef) C I p (λi x g f h=>?_) (λi x g f c h=>?_) ho
 ·obtain⟨u,j⟩:=y i x g f h;have:=K _ u j;simpa[List.getD,j]using this
 ·have z:f<sz:=by
   have:=(Vj.1 h).1;rw[p x (List.mem_of_getElem? g)]at this;exact this
  obtain⟨u,j⟩:=y i x g f z;have:=J _ c u (by rw[SW sz xs i f p z,g];exact h) j;simpa[List.getD,j]using this
def Rep.flat{γ:Gh}{w:World}{o:Own}{sz:Nat}{xs:List (List AV)}{b C n cap:Nat}(h:Rep γ w (.sl o sz xs) (.slice (some ⟨b,C,none⟩) n cap)):
  n=xs.length/\(∀x∈xs,x.length=sz)/\xs.length<=cap/\cap<=maxLen/\Rg w o ⟨b,C,none⟩ xs.length cap sz /\
  ∃us:List Value,xs.flatten.length=us.length/\(∀(k:Nat) (u:Value),us[k]?=some u->CellIs γ w b (C+k) u) /\ ∀(k:Nat) (c:AV) (u:Value),xs.flatten[k]?=some c->us[k]?=some u->Rep γ w c u:=by
 cases h with
 | sl0 _ _ _ ho=>exact⟨rfl,by simp,ZG _,Nat.zero_le _,by rcases ho with rfl|rfl<;>simp[Rg],[],rfl,by simp,by simp⟩
 | sl _ _ _ _ _ _ cv I L z J M ho =>
  have hlen:=Yn sz xs z;refine⟨rfl,z,I,L,ho,(List.range (xs.length*sz)).map (λk=>cv (k / sz) (k % sz)),by simp[hlen],λk u j=>?_,λk c u K j=>?_⟩
  ·simp only[W5,SV]at j;obtain⟨A,y,rfl⟩:=j;obtain⟨p,rfl⟩:k<xs.length*sz/\k=A:=by
    obtain⟨f,g⟩:=Vj.1 y;simp at f g;exact⟨f,g⟩
   have hsz:0<sz:=by
    rcases Nat.eq_zero_or_pos sz with h|h;· simp[h]at p
    ·exact h
   have v:k / sz<xs.length:=(Nat.div_lt_iff_lt_mul hsz).2 p;have:=J (k / sz) _ (Qh v) (k % sz) (Nat.mod_lt _ hsz)
   rwa [Nat.mul_comm,Nat.div_add_mod]at this
  ·simp only[W5,SV]at j;obtain⟨A,y,rfl⟩:=j;obtain⟨p,rfl⟩:k<xs.length*sz/\k=A:=by
    obtain⟨f,g⟩:=Vj.1 y;simp at f g;exact⟨f,g⟩
   have hsz:0<sz:=by
    rcases Nat.eq_zero_or_pos sz with h|h;· simp[h]at p
    ·exact h
   have v:k / sz<xs.length:=(Nat.div_lt_iff_lt_mul hsz).2 p;have G:=SW sz xs (k / sz) (k % sz) z (Nat.mod_lt _ hsz);rw[Nat.mul_comm,Nat.div_add_mod,K,Qh v]at G;exact M (k / sz) _ (Qh v) (k % sz) c G.symm
def Wo:List (Nat×Operand)->List (Nat×yY)->Bool
 | [],[]=>true
 | (i,x)::r,(k,y)::s=>i==k&&yG x y&&Wo r s
 | _,_=>false
def S9(sz:Nat)(c:List AV)(g:c.length=sz):∀(xs:List (List AV)) (i:Nat),(∀x∈xs,x.length=sz)->i<xs.length->splice xs.flatten (i*sz) c=(xs.set i c).flatten
 | [],_,_,h=>by simp at h
 | x::xs,0,h,_=>by have f:=h x (YS ..);simp[splice,g,<-f]
 | x::xs,i+1,h,hi=>by
  have f:=h x (YS ..);have v:=S9 sz c g xs i (λy p=>h y (YN _ p)) (by simpa using hi);simp only[List.flatten_cons,List.set_cons_succ];rw[<-v];unfold splice;have j:(i+1)*sz=x.length+i*sz:=by rw[Nat.add_mul,f];omega
  rw[j,List.take_length_add_append,show x.length+i*sz+c.length=x.length+(i*sz+c.length) by omega,List.drop_length_add_append];simp
def Sa{γ:Gh}{w:World}{g:List AV}{vs:List Value}(h:zN γ w g vs):zN γ w (g.map AV.strip1) vs :=
 ⟨by simpa using h.1,h.2.1,λi c v f p=>by
  rw[W5]at f;cases j:g[i]? with
  | none=>simp[j]at f
  | some x=>simp only[j,VF,Y1]at f;subst f;exact(h.2.2 i x v j p).strip1⟩
def Om{S:AV->AV}(A:∀ {γ:Gh} {w:World} {z:List AV} {vs:List Value},zN γ w z vs->zN γ w (z.map S) vs){γ:Gh}{w:World}{ρ:Env}{a:Act}{sz:Nat}(G:Xg γ w ρ a.tmps):∀(j:List (Nat×Operand)) (p:List (Nat×yY)) (xs:List (List AV)) (vs:List Value) (f:List (List AV)),
  Wo j p=true->y7 S ρ sz xs p=some f->(∀x∈xs,x.length=sz)->zN γ w xs.flatten vs ->
  ∃us:List Value,Instr.fill (λi=>some (i*sz,sz)) vs.toArray (j.map λ(i,x)=>(i,a.eval x))=some us.toArray/\zN γ w f.flatten us/\(∀v∈f,v.length=sz)/\f.length=xs.length
 | [],[],xs,vs,f,_,hd,hu,hr=>by simp only[y7,Y1]at hd;subst hd;exact⟨vs,rfl,hr,hu,rfl⟩
 | [],_::_,_,_,_,h,_,_,_=>by simp[Wo]at h
 | _::_,[],_,_,_,h,_,_,_=>by simp[Wo]at h
 | (i,x)::j,(k,v)::p,xs,vs,f,h,hd,hu,hr=>by
  simp only[Wo,yu,beq_iff_eq]at h;obtain⟨⟨rfl,ab⟩,X⟩:=h;simp only[y7]at hd;split at hd
  ·rename_i L;obtain⟨hlen,I,K⟩:=L;have C:zN γ w ((v.ev ρ).cells.map S) (a.eval x).cells.toList:=A ((zP ab G).cells K);have y:((v.ev ρ).cells.map S).length=sz:=by simpa using hlen
   have hsz:(a.eval x).cells.size=sz:=by rw[<-y,C.1];simp
   have U:=Yn sz xs hu;have O:i*sz+sz<=vs.length:=by rw[<-hr.1,U,<-Nat.succ_mul];exact Nat.mul_le_mul_right _ I
   have J:=hr.splice C (i*sz);rw[S9 sz _ y xs i hu I]at J;obtain⟨us,Z,Y,aa,W⟩:=Om A G j p _ _ f X hd (λac g=>by
    rcases List.mem_or_eq_of_mem_set g with g|g
    ·exact hu ac g
    ·rw[g];exact y) J
   refine⟨us,?_,Y,aa,by rw[W];simp⟩;simp only[List.map_cons,Instr.fill];have M:¬ ((decide ((a.eval x).cells.size≠sz)||decide (i*sz+(a.eval x).cells.size > vs.toArray.size))=true):=by simp[hsz];omega
   rw[if_neg M,PA _ (i*sz) vs (by rw[hsz];exact O)];simpa using Z
  ·cases hd
def Tk(zero:List AV)(n:Nat):∀(k:Nat),k<(List.replicate n zero).flatten.length->(List.replicate n zero).flatten[k]?=zero[k % zero.length]?:=by
 induction n with
 | zero=>simp
 | succ n h =>
  intro k g;simp only[List.replicate_succ,List.flatten_cons,ZX]at g ⊢;rcases Nat.lt_or_ge k zero.length with f|f
  ·rw[SA f,Nat.mod_eq_of_lt f]
  ·rw[Ow f,h (k-zero.length) (by omega)]
   congr 1
   rw[Nat.mod_eq_sub_mod f]
def zoL{P:Program}{o:Oper}{t e:TypeId}{n sz:Nat}{y:Array (Nat×Operand)}{I:List (Nat×yY)}{zero:List AV}{z:TypeInfo}{g:Value}(ho:o.op=.buildSlice t n y)(ai:P.underlying t=some (.slice e))(hi:P.info? e=some z)(Z:z.zero=some g)(hsz:z.size=sz)(A:0<sz)(ar:n*sz<=2 ^ 24)(ao:Vs g.cells.toList zero=true)(af:Wo y.toList I=true):YF P o (.bls sz n zero I):=by
 intro γ w ρ a c ad f;simp only[Yy]at f;split at f
 ·rename_i aa;cases hf:y7 AV.strip1 ρ sz (List.replicate n zero) I with
  | none=>simp[hf]at f
  | some ab =>
   simp only[hf,VF,Y1]at f;subst f;obtain⟨al,am,an⟩:=TV ao γ w;have Y:∀x∈List.replicate n zero,x.length=sz:=λx ak=>by rw[(List.mem_replicate.1 ak).2];exact aa
   have W:(List.replicate n zero).flatten.length=n*sz:=by rw[Yn sz _ Y];simp
   have G:g.cells.size=sz:=by have:=al;simp at this;omega
   have ag:zN γ w (List.replicate n zero).flatten ((List.range (n*sz)).map (λk=>g.cells.toList.getD (k % sz) undef)):=by
    refine⟨by simp[W],λi ap v=>?_,λi c ap f v=>?_⟩
    ·simp only[W5,SV]at v;obtain⟨k,_,rfl⟩:=v;have p:k % sz<g.cells.toList.length:=by simp[G];exact Nat.mod_lt _ A
     exact am (k % sz) _ (by rw[List.getD,Qh p];rfl)
    ·simp only[W5,SV]at v;obtain⟨k,h,rfl⟩:=v;obtain⟨M,O⟩:=Vj.1 h;simp at M O;subst O;rw[Tk zero n i (by rw[W];exact M),aa]at f;have p:i % sz<g.cells.toList.length:=by simp[G];exact Nat.mod_lt _ A
     exact an (i % sz) c _ f (by rw[List.getD,Qh p];rfl)
   obtain⟨us,C,K,aj,ae⟩:=Om Sa ad y.toList I _ _ ab af hf Y ag;have hlen:ab.length=n:=by rw[ae];simp
   have U:=X5 (λ_=>False) γ w .imm us.toArray e;have ac:∀j:Nat->Value,((List.range (n*sz)).map j).toArray=(Array.range (n*sz)).map j:=λj=>by apply Array.ext';simp
   refine⟨.slice (some ⟨w.heap.size,0,none⟩) n n,_,_,?_,U,?_⟩
   ·have ah:(Array.range (n*sz)).map (g.cells[· % g.cells.size]!)=((List.range (n*sz)).map (λk=>g.cells.toList.getD (k % sz) undef)).toArray:=by
     rw[ac];apply Array.map_congr_left;intro k h;have p:k % sz<g.cells.size:=by rw[G];exact Nat.mod_lt _ A
     rw[G];simp[List.getD,p]
    have aq:(y.map λ(x:Nat×Operand)=>(x.1,a.eval x.2)).toList=y.toList.map λ(i,x)=>(i,a.eval x):=by simp
    have X:¬ n*z.size > 2 ^ 24:=by rw[hsz];omega
    simp only[execOp,ho,Instr.buildSlice,Sem.run_bind,run_underlying ai,Result.andThen_ok,sizeOf,typeInfo,run_program,hi,Sem.run_pure,hsz,zeroValue,Z];rw[hsz]at X;rw[<-ah]at C;by_cases J:n*sz=0
    ·have L:∀j:Nat->Value,(Array.range 0).map j=#[]:=λj=>by apply Array.ext';simp
     rw[J,L]at C;simp[J,L,C,newRow]
    ·simp[J,X,C,newRow,zeroValue,typeInfo,hi,Z]
   ·rw[<-hlen];refine Rep.sl_flat aj K.1 (λk u h=>?_) (λk c u f h=>(K.2.2 k c u f h).mono U.mono) (by omega) ?_ rfl
    ·refine⟨?_,by simp[V0],K.2.1 k u h⟩;rw[Nat.zero_add,World.cell?_alloc_new];simpa using h
    ·have:n*1<=n*sz:=Nat.mul_le_mul_left _ A;unfold maxLen;omega
 ·cases f
def U7{γ:Gh}{w:World}{vs:List Value}{f:List AV}(h:Vs vs f=true):zN γ w f vs:=let ⟨a,b,c⟩:=TV h γ w;⟨a,b,c⟩
def zba(P:Program)(t:TypeId):Option (Nat->Option (Nat×Nat)) :=
 match P.underlying t with
 | some (.array _ e)=>(P.info? e).map λg=>λi=>some (i*g.size,g.size)
 | some (.struct fields)=>(fields.toList.mapM (λf=>(P.info? f.type).map λi=>(f.offset,i.size))).map λplaces=>λi=>places.toArray[i]?
 | _=>none
def zpM{P:Program}{o:Oper}{t:TypeId}{g:Array (Nat×Operand)}{j:List (Nat×Nat×yY)}{zero:List AV}{K:TypeInfo}{A:Value}{place:Nat->Option (Nat×Nat)}(ho:o.op=.build t g)(hi:P.info? t=some K)(J:K.zero=some A)(W:Vs A.cells.toList zero=true)(f:zba P t=some place)(U:U5 place g.toList j=true):YF P o (.bld zero j):=by
 intro γ w ρ a c M h;simp only[Yy]at h;cases hf:Zb ρ zero j with
 | none=>simp[hf]at h
 | some ds =>
  simp only[hf,VF,Y1]at h;subst h;obtain⟨us,I,z⟩:=zcP place M g.toList j zero A.cells.toList ds U hf (U7 W);refine yH (v:=.agg us.toArray) ?_ (.agg _ _ z.1 z.2.1 z.2.2);have L:P.built t (g.map λ(x:Nat×Operand)=>(x.1,a.eval x.2)).toList=some us.toArray:=by
   have O:(g.map λ(x:Nat×Operand)=>(x.1,a.eval x.2)).toList=g.toList.map λ(i,x)=>(i,a.eval x):=by simp
   rw[O];unfold zba at f;unfold Program.built;cases G:P.underlying t with
   | none=>simp[G]at f
   | some d =>
    cases d<;>simp only[G]at f<;>try (cases f;done)
    ·rename_i n e;cases p:P.info? e with
     | none=>simp[p]at f
     | some X =>simp only[p,VF,Y1]at f;subst f;simp only[hi,J,p];simpa using I
    ·rename_i fields;cases y:fields.toList.mapM (λC=>(P.info? C.type).map λi=>(C.offset,i.size))with
     | none=>simp[y]at f
     | some places =>simp only[y,VF,Y1]at f;subst f;simp only[hi,J,y];simpa using I
  simp only[execOp,ho,Sem.run_bind,run_build w t _ _ L,Result.andThen_ok,Sem.run_pure]
def Rep.cut{γ:Gh}{w:World}{o:Own}{sz:Nat}{xs:List (List AV)}{p:Option Addr}{n cap:Nat}(ab:Rep γ w (.sl o sz xs) (.slice p n cap)){l h m:Nat}(ag:l<=h)(K:h<=xs.length)(ah:h<=m)(ai:m<=cap)(o':Own)(v:o'=.no∨(o'=.full/\m=h)∨(o'=o.cut l/\h=xs.length/\m=cap)):Rep γ w (.sl o' sz ((xs.take h).drop l)) (.slice (if m=l then p else p.map (·.add (l*sz))) (h-l) (m-l)):=by
 cases ab with
 | slnil _ _ G =>
  simp only[yy]at K;have y:m=0:=by omega
  have z:h=0:=by omega
  have A:l=0:=by omega
  subst y;subst z;subst A;simp only[List.take_nil,List.drop_nil,if_true,Nat.sub_self];exact .slnil o' sz (by
   rcases v with rfl|⟨rfl,_⟩|⟨rfl,_⟩
   ·simp
   ·simp
   ·cases o with
    | tip b d=>exact absurd rfl (G b d)
    | _=>simp[Own.cut])
 | sl0 _ _ p G =>
  simp only[yy]at K;have y:m=0:=by omega
  have z:h=0:=by omega
  have A:l=0:=by omega
  subst y;subst z;subst A;simp only[List.take_nil,List.drop_nil,if_true,Nat.sub_self];exact .sl0 o' sz p (by
   rcases v with rfl|⟨rfl,_⟩|⟨rfl,_⟩
   ·simp
   ·simp
   ·rcases G with rfl|rfl<;>simp[Own.cut])
 | sl _ _ _ b j _ cv aj ak ae X ac ho =>
  have hlen:((xs.take h).drop l).length=h-l:=by simp;omega
  have M:∀i x,((xs.take h).drop l)[i]?=some x->xs[l+i]?=some x/\l+i<h:=by
   intro i x f;rw[List.getElem?_drop,zaV]at f;split at f
   ·rename_i Y;exact⟨f,Y⟩
   ·cases f
  have Z:Rg w o' ⟨b,j+l*sz,none⟩ ((xs.take h).drop l).length (m-l) sz:=by
   rcases v with rfl|⟨rfl,rfl⟩|⟨rfl,rfl,rfl⟩
   ·trivial
   ·simpa[Rg]using hlen
   ·cases o with
    | no=>trivial
    | nil=>exact ho.elim
    | full =>have:xs.length=m:=ho;show ((xs.take xs.length).drop l).length=m-l;omega
    | tip U d =>
     rcases ho with af|⟨L,arr,E,W,ad⟩
     ·exact .inl (by omega)
     ·simp only[Addr.mk.injEq]at L;obtain⟨rfl,rfl,_⟩:=L;refine .inr ⟨by rw[Nat.add_mul],arr,E,W,?_⟩;rw[ad]
      congr 1
      omega
  have aa:m=l->Rg w o' ⟨b,j,none⟩ ((xs.take h).drop l).length (m-l) sz:=by
   intro O;rcases v with rfl|⟨rfl,rfl⟩|⟨rfl,rfl,rfl⟩
   ·trivial
   ·simpa[Rg]using hlen
   ·cases o with
    | no=>trivial
    | nil=>exact ho.elim
    | full =>have:xs.length=m:=ho;show ((xs.take xs.length).drop l).length=m-l;omega
    | tip U d=>exact .inl (by omega)
  rw[<-hlen];split
  ·rename_i O;have I:(xs.take h).drop l=[]:=List.eq_nil_of_length_eq_zero (by omega);refine .sl o' sz _ b j (m-l) (λ_ _=>undef) (by omega) (by omega) (λx f=>by rw[I]at f;cases f) (λi x f=>by rw[I]at f;simp at f) (λi x f=>by rw[I]at f;simp at f) (aa O)
  ·simp only[VF,addr_add];refine .sl o' sz _ b (j+l*sz) (m-l) (λi g=>cv (l+i) g) (by omega) (by omega) (λx f=>?_) (λi x f g C=>?_) (λi x f g c C=>?_) Z
   ·exact ae x (List.mem_of_mem_take (List.mem_of_mem_drop f))
   ·obtain⟨J,_⟩:=M i x f;have:=X (l+i) x J g C;rw[show j+l*sz+(i*sz+g)=j+((l+i)*sz+g) by rw[Nat.add_mul];omega];exact this
   ·obtain⟨J,_⟩:=M i x f;exact ac (l+i) x J g c C
def zbA{P:Program}{w:World}{γ:Gh}{ρ:Env}{a:Act}(G cap:Nat){lo hi:Option Operand}{I:Operand}{g f:Option yY}{J:yY}(v:Tb lo g=true)(p:Tb hi f=true)(X:yG I J=true)(j:Xg γ w ρ a.tmps){l h m:Int}(C:bound 0 ρ g=some l)(M:bound G ρ f=some h)(W:bound 0 ρ (some J)=some m)(O:f.isSome=true)(L:0<=l)(Z:l<=h)(aa:h<=m)(ab:m<=cap):
  (Instr.sliceBounds true G cap (lo.map a.eval) (hi.map a.eval) (some (a.eval I))).run P w=.ok (l.toNat,h.toNat,m.toNat) w:=by
 obtain⟨ae,A⟩:=T0 (P:=P) (zP X j) W;cases hi with
 | none=>cases f<;>simp[Tb]at p O
 | some x =>
  cases f with
  | none=>cases p
  | some Y =>
   obtain⟨ac,z⟩:=T0 (P:=P) (zP p j) M;have b0:∀k code,(Instr.sliceBound (.int k m) cap code).run P w=.ok m.toNat w:=λk code=>Wj k m cap code (by omega) (by omega);have y:∀k code,(Instr.sliceBound (.int k h) m.toNat code).run P w=.ok h.toNat w:=λk code=>Wj k h _ code (by omega) (by omega);have K:∀k code,(Instr.sliceBound (.int k l) h.toNat code).run P w=.ok l.toNat w:=λk code=>Wj k l _ code L (by omega);unfold Instr.sliceBounds;cases lo with
   | none =>
    cases g with
    | some Y=>cases v
    | none =>
     have:l=0:=by simpa[bound]using C.symm
     subst this;simp[A,z,b0,y]
   | some af =>
    cases g with
    | none=>cases v
    | some ag =>obtain⟨ad,U⟩:=T0 (P:=P) (zP v j) C;simp[A,z,U,b0,y,K]
def Rep.slice_form{γ:Gh}{w:World}{o:Own}{sz:Nat}{xs:List (List AV)}{v:Value}(h:Rep γ w (.sl o sz xs) v):∃f cap,v=.slice f xs.length cap/\xs.length<=cap:=by
 cases h with
 | slnil _ _ _=>exact⟨none,0,rfl,ZG _⟩
 | sl0 _ _ f _=>exact⟨some f,0,rfl,ZG _⟩
 | sl _ _ _ b j cap cv g _ _ _ _ _=>exact⟨_,cap,rfl,g⟩
def zov{P:Program}{o:Oper}{t e:TypeId}{x:Operand}{lo hi mx:Option Operand}{x':yY}{U v y:Option yY}{sz:Nat}{ad:TypeInfo}(ho:o.op=.slice t x lo hi mx)(h:yG x x'=true)(Z:Tb lo U=true)(Y:Tb hi v=true)(O:Tb mx y=true)(ai:y.isSome=true->v.isSome=true)(ab:P.underlying t=some (.slice e))(X:P.info? e=some ad)(hsz:ad.size=sz):YF P o (.sll sz x' U v y):=by
 intro γ w ρ a c M f;have p:=zP h M;simp only[Yy]at f;cases aj:x'.ev ρ<;>simp only[aj]at f p<;>try (cases f;done)
 rotate_left
 ·rename_i b L af cap;generalize K:a.eval x=ap at p;cases p with
  | ms _ _ _ _ ae W aa =>
   cases y with
   | some _=>cases f
   | none =>
    cases mx with
    | some ag=>cases O
    | none =>
     cases j:bound 0 ρ U with
     | none=>simp only[j,zfx]at f;cases f
     | some l =>
      cases g:bound af ρ v with
      | none=>simp only[j,g,zfx]at f;cases f
      | some G =>
       simp only[j,g,zfx]at f;split at f
       ·rename_i J;obtain⟨z,A,C⟩:=J;simp only[Y1]at f;subst f;have I:=S6 (P:=P) true af cap Z Y M j g z A C W;have ah:Rep γ w (.ms b (if cap=l.toNat then L else L+l.toNat*sz) (G.toNat-l.toNat) (cap-l.toNat)) (.slice (if cap=l.toNat then some ⟨b,L,none⟩else (some (⟨b,L,none⟩:Addr)).map (·.add (l.toNat*sz))) (G.toNat-l.toNat) (cap-l.toNat)):=by
         by_cases h:cap=l.toNat
         ·rw[if_pos h,if_pos h];exact .ms b L _ _ ae (by omega) (by omega)
         ·rw[if_neg h,if_neg h];simp only[VF,addr_add];exact .ms b _ _ _ ae (by omega) (by omega)
        refine yH ?_ ah;simp only[execOp,ho,K,Instr.sliceAt,Sem.run_bind,run_underlying ab,Result.andThen_ok,Instr.slice,Option.map_none,I,sizeOf,typeInfo,run_program,X,Sem.run_pure,hsz]
       ·cases f
 rename_i own ao ac;obtain⟨al,cap,K,W⟩:=p.slice_form;rw[K]at p;cases j:bound 0 ρ U with
 | none=>simp only[j]at f;cases f
 | some l =>
  cases g:bound ac.length ρ v with
  | none=>simp only[j,g]at f;cases y<;>simp at f
  | some G =>
   cases y with
   | none =>
    cases mx with
    | some ag=>cases O
    | none =>
     simp only[j,g]at f;split at f
     ·rename_i J;obtain⟨rfl,z,A,C⟩:=J;simp only[Y1]at f;subst f;have I:=S6 (P:=P) true ac.length cap Z Y M j g z A C W;refine yH ?_ (p.cut (l:=l.toNat) (h:=G.toNat) (m:=cap) (by omega) (by omega) (by omega) (ZG _) _ (by
       cases v with
       | none=>simp only[bound,Y1]at g;subst g;exact .inr (.inr ⟨by simp,by simp,rfl⟩)
       | some _=>exact .inl (by simp)))
      simp only[execOp,ho,K,Instr.sliceAt,Sem.run_bind,run_underlying ab,Result.andThen_ok,Instr.slice,Option.map_none,I,sizeOf,typeInfo,run_program,X,Sem.run_pure,hsz]
     ·cases f
   | some ak =>
    cases mx with
    | none=>cases O
    | some ag =>
     simp only[j,g]at f;cases aa:ak.ev ρ<;>simp only[aa]at f<;>try (cases f;done)
     rename_i an m;split at f
     ·rename_i J;obtain⟨rfl,z,A,C,am⟩:=J;simp only[Y1]at f;subst f;have I:=zbA (P:=P) ac.length cap Z Y O M j g (m:=m) (by simp[bound,aa]) (ai rfl) z A C (by omega);refine yH ?_ (p.cut (l:=l.toNat) (h:=G.toNat) (m:=m.toNat) (by omega) (by omega) (by omega) (by omega) _ ?_)
      ·simp only[execOp,ho,K,Instr.sliceAt,Sem.run_bind,run_underlying ab,Result.andThen_ok,Instr.slice,VF,I,sizeOf,typeInfo,run_program,X,Sem.run_pure,hsz]
      ·split
       ·rename_i e;exact .inr (.inl ⟨rfl,by rw[e]⟩)
       ·exact .inl rfl
     ·cases f
def ZL(H:zd)(w:World)(H':zd):Prop:=∀b,(H' b).isSome=true->(H b).isSome=true∨w.heap.size<=b
def keysOf(H:zd):Nat->Prop:=λb=>(H b).isSome=true
def Pm(P:Program)(o:Oper)(g:XQ):Prop :=
 ∀(γ:Gh) (w:World) (H:zd) (ρ:Env) (a:Act) (f KP:AV->zd->Prop) (next:Act->World->Prop) (Q:Exit->Act->World->Prop),
  Xg γ w ρ a.tmps->zU γ w H->TZ P KP g ρ H f ->
  (∀γ' w' H' c v,U9 (keysOf H) γ w γ' w'->zU γ' w' H'->ZL H w H'->Rep γ' w' c v->f c H'->next (a.put o.dst v) w') ->
  (∀γ' w' H' c v,U9 (keysOf H) γ w γ' w'->zU γ' w' H'->ZL H w H'->Rep γ' w' c v->KP c H'->Q (.panic [{ v,recovered:=false }]) a w') ->
  o.wp P a w next Q
def ZL.refl(H:zd)(w:World):ZL H w H:=λ_ f=>.inl f
def ZD{P:Program}{o:Oper}{a:Act}{w w':World}{v:Value}{next:Act->World->Prop}{Q:Exit->Act->World->Prop}(h:(execOp a.eval o).run P w=.ok (.value v) w')(f:next (a.put o.dst v) w'):o.wp P a w next Q:=by unfold Oper.wp;rw[h];exact f
def Pe{P:Program}{o:Oper}{a:Act}{w w':World}{next:Act->World->Prop}{Q:Exit->Act->World->Prop}(h:(execOp a.eval o).run P w=.ok .skip w')(f:next (a.put o.dst undef) w'):o.wp P a w next Q:=by unfold Oper.wp;rw[h];exact f
def yD{P:Program}{o:Oper}{g:XQ}(y:g.cls=.pure)(h:YF P o g):Pm P o g:=by
 intro γ w H ρ a K KP next Q z I f A L
 unfold TZ at f;rw[y]at f;simp only at f;cases p:Yy ρ g with
 | none=>simp[p]at f
 | some c =>simp only[p]at f;obtain⟨J,γ',w',C,v,G⟩:=h γ w ρ a c z p;exact ZD C (A γ' w' H c J (v.weaken λ_ j=>j.elim) (I.kept v λ_ _ _ j=>j) (ZL.refl _ _) G f)
def zep(P:Program)(o:Oper)(g:XQ):Prop :=∀(γ:Gh) (w:World) (H:zd) (ρ:Env) (a:Act) (c:AV),Xg γ w ρ a.tmps->zU γ w H->rev ρ H g=some c -> ∃f,(execOp a.eval o).run P w=.ok (.value f) w/\Rep γ w c f
def NS{P:Program}{o:Oper}{g:XQ}(v:g.cls=.read)(h:zep P o g):Pm P o g:=by
 intro γ w H ρ a I KP next Q y p f z J
 unfold TZ at f;rw[v]at f;simp only at f;cases j:rev ρ H g with
 | none=>simp[j]at f
 | some c =>simp only[j]at f;obtain⟨G,A,C⟩:=h γ w H ρ a c y p j;exact ZD A (z γ w H c G (.refl _ _ _) p (ZL.refl _ _) C f)
def MO{P:Program}{w:World}{t:TypeId}{z:TypeInfo}{d:TypeDesc}{n:Nat}{f:Bool}(hi:P.info? t=some z)(K:z.size=n)(I:P.underlying t=some d)(G:OG (P.underlying t)=f)(C:f=true∨n=1)(b g:Nat)(us:List Value)(hlen:us.length=n)(p:∀(j:Nat) (v:Value),us[j]?=some v->w.cell? ⟨b,g+j,none⟩=some v):
  (loadVar t ⟨b,g,none⟩).run P w=.ok (if f then .agg us.toArray else us.headD undef) w:=by
 unfold loadVar;rw[Sem.run_bind,Kh I,G];cases f with
 | true =>have y:(loadCells ⟨b,g,none⟩ us.length).run P w=.ok us.toArray w:=run_loadCells_list w _ us (λj v J=>by rw[addr_add];exact p j v J);rw[hlen]at y;simp[sizeOf,typeInfo,hi,K,y]
 | false =>
  have L:n=1:=by rcases C with A|A<;>simp_all
  subst L;cases us with
  | nil=>simp at hlen
  | cons u us =>have h:=p 0 u rfl;simp only[Nat.add_zero]at h;simp[h]
def zpz{γ:Gh}{w:World}{f:List AV}{us:List Value}{n:Nat}{g:Bool}(j:g=true∨n=1)(p:f.length=n)(h:zN γ w f us):Rep γ w (mk g f) (if g then .agg us.toArray else us.headD undef):=by
 cases g with
 | true=>exact .agg _ _ h.1 h.2.1 h.2.2
 | false =>
  have v:n=1:=by rcases j with h|h<;>simp_all
  subst v;cases f with
  | nil=>simp at p
  | cons c f =>
   cases us with
   | nil=>simp[zN]at h
   | cons u us=>exact h.2.2 0 c u rfl rfl
def zn3{P:Program}{o:Oper}{t:TypeId}{x:Operand}{x':yY}{n:Nat}{L:Bool}{W:TypeInfo}{d:TypeDesc}(ho:o.op=.load t x)(h:yG x x'=true)(hi:P.info? t=some W)(ad:W.size=n)(aa:P.underlying t=some d)(X:OG (P.underlying t)=L)(j:L=true∨n=1):zep P o (.ld n L x'):=by
 intro γ w H ρ a c ab ag f;have K:=zP h ab;simp only[rev]at f;have fin:∀b g us p,a.eval x=.pointer (some ⟨b,g,none⟩)->p.length=n->zN γ w p us->(∀(J:Nat) (z:Value),us[J]?=some z->w.cell? ⟨b,g+J,none⟩=some z)->c=mk L p ->
   ∃z,(execOp a.eval o).run P w=.ok (.value z) w/\Rep γ w c z:=by
  intro b g us p I O C M Z;subst Z;refine⟨_,?_,zpz j O C⟩;have af:=MO hi ad aa X j b g us (by rw[<-C.1];exact O) M;simp[execOp,ho,I,Instr.loadAt,Instr.sureAddr,af]
 cases ah:x'.ev ρ<;>simp only[ah]at f K<;>try (cases f;done)
 ·rename_i b g;cases U:H b with
  | none=>simp[U]at f
  | some ai =>
   cases ai<;>simp only[U]at f<;>try (cases f;done)
   rename_i p;split at f
   ·rename_i ac;simp only[Y1]at f;generalize I:a.eval x=z at K;cases K;cases ag b _ U with
    | cells _ aj E A Y O ae C =>
     have hfr:zN γ w ((p.drop g).take n) ((aj.drop g).take n):=(zN.drop ⟨O,ae,C⟩ g).take n;refine fin b g _ _ I (by simp;omega) hfr (λJ u v=>?_) f.symm;rw[zaV]at v;split at v
     ·rw[List.getElem?_drop]at v;rw[cell_of_row w b _ _ _ _ Y];simpa using v
     ·cases v
   ·cases f
 ·rename_i p;split at f
  ·rename_i ac;simp only[Y1]at f;generalize I:a.eval x=z at K;cases K with
   | view _ b g cv M C =>
    refine fin b g ((List.range n).map cv) (p.take n) I (by simp;omega) ⟨by simp;omega,λi u G=>?_,λi c u f G=>?_⟩ (λJ u v=>?_) f.symm
    ·simp only[W5,SV]at G;obtain⟨k,A,rfl⟩:=G;obtain⟨j,y⟩:=Vj.1 A;simp at j y;exact(M k (by omega)).2.2
    ·simp only[W5,SV]at G;obtain⟨k,A,rfl⟩:=G;obtain⟨j,y⟩:=Vj.1 A;simp at j y;subst y;rw[zaV,if_pos j]at f;exact C i _ f
    ·simp only[W5,SV]at v;obtain⟨k,A,rfl⟩:=v;obtain⟨j,y⟩:=Vj.1 A;simp at j y;subst y;exact(M J (by omega)).1
  ·cases f
def zec(F:Nat->Prop)(γ:Gh)(w:World)(k:BK)(es:Array MapEntry)(clock:Nat):
  U9 F γ w (λb=>if b=w.heap.size then k else γ b) (w.alloc (.map es clock)):=by
 have p:∀b,b<w.heap.size->b≠w.heap.size:=λb g=>Nat.ne_of_lt g;have hold:∀b,b<w.heap.size->(w.alloc (.map es clock)).heap[b]?=w.heap[b]?:=λb f=>heap_alloc_old w _ f;refine⟨⟨by simp,λb o A j z=>?_,λb arr E fr f=>?_⟩,rfl,rfl,λa _=>?_,λb f _=>⟨by simp[p b f],hold b f⟩⟩
 ·have h:=World.block_lt_of_cell? w _ j;refine⟨by simpa[V0,p b h]using z,?_⟩;rw[World.cell?_alloc_lt _ _ _ h];exact j
 ·have h:=(TQ.1 f).1;exact⟨arr,by rw[hold b h];exact f,rfl⟩
 ·by_cases g:a.block=w.heap.size
  ·have v:(w.alloc (.map es clock)).heap[a.block]?=some (.map es clock):=by rw[g];exact heap_alloc_new w _
   have y:w.heap[a.block]?=none:=by rw[g];simp
   simp[World.frozen?,v,y]
  ·exact World.frozen?_alloc_old _ _ _ g
def W3{γ γ':Gh}{w w':World}{H:zd}{x:Yr}{F:Nat->Prop}(j:zU γ w H)(h:U9 (λ_=>False) γ w γ' w')(p:UR γ' w' w.heap.size x):zU γ' w' (H.upd w.heap.size x):=by
 intro b o f;unfold zd.upd at f;split at f
 ·rename_i e;subst e;simp only[Y1]at f;subst f;exact p
 ·exact j.kept h (λ_ _ _ g=>g) b o f
def Y4{H:zd}{w:World}{x:Yr}:ZL H w (H.upd w.heap.size x):=by
 intro b f;unfold zd.upd at f;split at f
 ·rename_i e;exact .inr (by omega)
 ·exact .inl f
def Xu{γ:Gh}{w:World}{H:zd}(g:zU γ w H):H w.heap.size=none:=by
 cases f:H w.heap.size with
 | none=>rfl
 | some o=>exact absurd (g _ _ f).lt (Nat.lt_irrefl _)
def Pd{γ:Gh}{w:World}{H:zd}(h:zU γ w H):¬ Sd H:=λ⟨n,g⟩=>by
 cases f:H (max n w.heap.size)with
 | none=>exact g _ (Nat.le_max_left ..) f
 | some o=>have:=(h _ _ f).lt;omega
def ziP{P:Program}{o:Oper}{t:TypeId}{zero:List AV}{p:TypeInfo}{f:Value}(ho:o.op=.alloc t)(hi:P.info? t=some p)(A:p.zero=some f)(C:Vs f.cells.toList zero=true):Pm P o (.alloc zero):=by
 intro γ w H ρ a G KP next Q I j h z J
 simp only[TZ,XQ.cls,X8,Z9]at h;have g:=X5 (λ_=>False) γ w .own f.cells t;have hf:=U7 (γ:=λb=>if b=w.heap.size then BK.own else γ b) (w:=w.alloc (.cells f.cells t)) C;refine ZD (v:=.pointer (some ⟨w.heap.size,0,none⟩)) ?_ (z _ _ _ _ _ (g.weaken λ_ y=>y.elim) (W3 (F:=λ_=>False) j g (.cells zero f.cells.toList t (by simp) ?_ hf.1 hf.2.1 hf.2.2)) Y4 (.ptr _ 0 (by simp)) (h _ (Xu j)))
 ·simp[execOp,ho,Instr.alloc,zeroValue,typeInfo,hi,A,newVar,newRow]
 ·rw[heap_alloc_new]
def zoh{P:Program}{o:Oper}{t:TypeId}{x:Operand}{x':yY}(ho:o.op=.box t x)(h:yG x x'=true):Pm P o (.box x'):=by
 intro γ w H ρ a K KP next Q C p g I L
 simp only[TZ,XQ.cls,X8,Z9]at g;split at g
 ·rename_i M f;split at f
  ·rename_i A;simp only[Y1]at f;subst f;have j:=X5 (λ_=>False) γ w .own (a.eval x).cells t;obtain⟨G,z,J⟩:=((zP h C).mono j.mono).cells A;refine ZD (v:=.pointer (some ⟨w.heap.size,0,none⟩)) ?_ (I _ _ _ _ _ (j.weaken λ_ y=>y.elim) (W3 (F:=λ_=>False) p j (.cells _ (a.eval x).cells.toList t (by simp) ?_ G z J)) Y4 (.ptr _ 0 (by simp)) (g _ (Xu p)))
   ·simp[execOp,ho,Instr.box,newVar,newRow]
   ·rw[heap_alloc_new]
  ·cases f
 ·exact(Pd p g).elim
def zqo{P:Program}{o:Oper}{t:TypeId}{j:KT}(ho:o.op=.makeMap t none):Pm P o (.mkm j):=by
 intro γ w H ρ a z KP next Q A h g y C
 simp only[TZ,XQ.cls,X8,Z9]at g;have f:=zec (λ_=>False) γ w .own #[] 0;refine ZD (v:=.map (some w.heap.size)) ?_ (y _ _ _ _ _ (f.weaken λ_ p=>p.elim) (W3 (F:=λ_=>False) h f (.map j [] [] 0 (by simp) (by simp) ?_ rfl (by simp))) Y4 (.mp _ (by simp)) (g _ (Xu h)))
 ·simp[execOp,ho,Instr.makeMap]
 ·rw[heap_alloc_new]
def zmY{P:Program}{o:Oper}{f:FuncId}{args:Array Operand}{v:List yY}{ts:Array TypeId}(ho:o.op=.call { callee:=.value (.func f),args:=args,argTypes:=ts })(h:W7 args.toList v=true)(hf:Program.callable P f=true):
  Pm P o (.call f v):=by
 intro γ w H ρ a ab KP next Q y aa C U X
 simp only[TZ,XQ.cls,eff]at C;have J:=TL h y;have M:=C γ w _ y.tab aa J;unfold Program.callable at hf;cases j:P.funcs[f]? with
 | none=>simp[j]at hf
 | some ae =>
  simp only[j,yu,bne_iff_ne,ne_eq]at hf;obtain⟨L,W⟩:=hf;obtain⟨ac,K⟩:=zcF.1 L;have O:args.map a.eval=(args.toList.map a.eval).toArray:=by apply Array.ext';simp
  have Z:(execOp a.eval o).run P w=.ok (.enter f (args.toList.map a.eval).toArray) w:=by simp[execOp,ho,resolve,Act.eval,Deferred.ofValue,invoke,callFunc,j,W,K,O]
  unfold Oper.wp;rw[Z];refine Calls.mono M λe w' ⟨γ',H',r,z,I,A,g,G⟩=>?_;cases e with
  | returned p =>
   cases r with
   | ret c=>exact U γ' w' H' c p z I A g G
   | pan c=>exact g.elim
  | panicked ad =>
   cases r with
   | ret c=>exact g.elim
   | pan c =>obtain⟨p,rfl,Y⟩:=g;exact X γ' w' H' c p z I A Y G
  | outgrown=>cases r<;>exact g.elim
def zjn{P:Program}{o:Oper}{g:Operand}{z:yY}{args:Array Operand}{y:List yY}{ts:Array TypeId}(ho:o.op=.call { callee:=.value g,args:=args,argTypes:=ts })(aa:yG g z=true)(h:W7 args.toList y=true):
  Pm P o (.callv z y):=by
 intro γ w H ρ a ao KP next Q A al f ae ag
 simp only[TZ,XQ.cls,eff]at f;have G:=zP aa A;cases an:z.ev ρ<;>simp only[an]at f G<;>try (exact f.elim)
 rename_i I first O
 obtain⟨hf,f⟩:=f;generalize am:a.eval g=p at G;cases G with
 | clo _ _ _ v us ab ac ah ai =>
  have W:=TL h A;have U:Ze γ w (first++y.map (yY.ev ρ)++O) (v++args.toList.map a.eval++us):=(Ze.append ⟨ab,ah⟩ W).append ⟨ac,ai⟩;have Z:=f γ w _ A.tab al U;unfold Program.callable at hf;cases C:P.funcs[I]? with
  | none=>simp[C]at hf
  | some ar =>
   simp only[C,yu,bne_iff_ne,ne_eq]at hf;obtain⟨Y,af⟩:=hf;obtain⟨ap,X⟩:=zcF.1 Y;have ad:v.toArray++args.map a.eval++us.toArray=(v++args.toList.map a.eval++us).toArray:=by apply Array.ext';simp
   have ak:(execOp a.eval o).run P w=.ok (.enter I (v++args.toList.map a.eval++us).toArray) w:=by rw[<-ad];simp only[execOp,ho,resolve,am,Deferred.ofValue,Sem.run_bind,Sem.run_pure,Result.andThen_ok,invoke,callFunc,run_program,C];simp[af,X]
   unfold Oper.wp;rw[ak];refine Calls.mono Z λe w' ⟨γ',H',r,J,M,K,j,L⟩=>?_;cases e with
   | returned p =>
    cases r with
    | ret c=>exact ae γ' w' H' c p J M K j L
    | pan c=>exact j.elim
   | panicked aq =>
    cases r with
    | ret c=>exact j.elim
    | pan c =>obtain⟨p,rfl,aj⟩:=j;exact ag γ' w' H' c p J M K aj L
   | outgrown=>cases r<;>exact j.elim
def zoe{P:Program}{o:Oper}{x:Operand}{x':yY}(ho:o.op=.panic x)(h:yG x x'=true):Pm P o (.pan x'):=by
 intro γ w H ρ a G KP next Q j y f I p
 simp only[TZ,XQ.cls,eff]at f;have g:=zP h j;cases A:x'.ev ρ<;>simp only[A]at f g<;>try (exact f.elim)
 rename_i t L;generalize z:a.eval x=K at g;have C:=g;cases g with
 | ifc _ _ u J =>
  have v:(execOp a.eval o).run P w=.halt (.panic (.iface t u)) w:=by simp[execOp,ho,z,Instr.panic]
  unfold Oper.wp;rw[v];exact p γ w H _ _ (.refl _ _ _) y (ZL.refl _ _) C f
def Vz(w:World)(b:Nat)(f:Array Value)(old:Array Value)(E:TypeId)(fr:Nat×Nat)(h:w.heap[b]?=some (.cells old E fr)):(w.setRow b f).heap[b]?=some (.cells f E fr):=setRow_heap w b old f E fr h
def WY{F:Nat->Prop}{γ γ':Gh}{w:World}{b:Nat}{old h:Array Value}{E:TypeId}(j:w.heap[b]?=some (.cells old E (0,0)))(hsz:h.size=old.size)(G:F b)(I:∀o,V0 γ b o->V0 γ' b o/\h[o]?=old[o]?)(y:∀c,c≠b->γ' c=γ c):U9 F γ w γ' (w.setRow b h):=by
 have p:∀c,c≠b->(w.setRow b h).heap[c]?=w.heap[c]?:=λc g=>setRow_other w b c h (by omega);have v:(w.setRow b h).heap[b]?=some (.cells h E (0,0)):=Vz w b h old E _ j;refine⟨⟨by simp,λc o L g z=>?_,λc arr K fr g=>?_⟩,rfl,rfl,λa _=>?_,λc g J=>?_⟩
 ·by_cases f:c=b
  ·subst f;obtain⟨A,C⟩:=I o z;refine⟨A,?_⟩;rw[cell_of_row _ _ _ _ _ _ v,C];rw[cell_of_row _ _ _ _ _ _ j]at g;exact g
  ·refine⟨by simpa[V0,y c f]using z,?_⟩;rw[World.cell?_of_block (w:=w) (p c f)];exact g
 ·by_cases f:c=b
  ·subst f;rw[j]at g;simp only[Y1,Obj.cells.injEq]at g;obtain⟨rfl,rfl,rfl⟩:=g;exact⟨h,v,hsz⟩
  ·exact⟨arr,(p c f).trans g,rfl⟩
 ·by_cases f:a.block=b
  ·simp[World.frozen?,f,v,j]
  ·exact World.frozen?_of_block (p _ f)
 ·have f:c≠b:=λe=>J (e▸G);exact⟨y c f,p c f⟩
def Vw{γ γ':Gh}{w w':World}{H:zd}{b:Nat}{x:Yr}(p:zU γ w H)(g:U9 (λc=>c=b) γ w γ' w')(v:UR γ' w' b x):zU γ' w' (H.upd b x):=by
 intro c o f;unfold zd.upd at f;split at f
 ·rename_i e;subst e;simp only[Y1]at f;subst f;exact v
 ·rename_i j;have ho:=p c o f;obtain⟨h,k⟩:=g.frame c ho.lt j;exact ho.kept g.mono h k
def Vi{H:zd}{w:World}{b:Nat}{x:Yr}(g:(H b).isSome=true):ZL H w (H.upd b x):=by
 intro c f;unfold zd.upd at f;split at f
 ·rename_i e;subst e;exact .inl g
 ·exact .inl f
def zrz{P:Program}{o:Oper}{t:TypeId}{x y:Operand}{x' G:yY}{n:Nat}{M:TypeInfo}(ho:o.op=.store t x y)(h:yG x x'=true)(X:yG y G=true)(hi:P.info? t=some M)(ad:M.size=n):Pm P o (.st n x' G):=by
 intro γ w H ρ a am KP next Q I K g ac ao
 simp only[TZ,XQ.cls,eff]at g;have C:=zP h I;have al:=zP X I;cases aj:x'.ev ρ<;>simp only[aj]at g C<;>try (exact g.elim)
 rename_i b f;cases p:H b with
 | none=>simp[p]at g
 | some ak =>
  cases ak<;>simp only[p]at g<;>try (exact g.elim)
  rename_i W;obtain⟨hlen,an,Z,Y⟩:=g;generalize A:a.eval x=O at C;cases C;cases K b _ p with
  | cells _ j E J v ab ae ag =>
   obtain⟨cl,c1,U⟩:=al.cells Z;have hsz:(a.eval y).cells.size=n:=by rw[<-hlen,cl];simp
   have L:=run_storeCells_at P b f E (a.eval y).cells.toList 0 j.toArray w v (by simp[hsz];omega) (λu ai=>by obtain⟨i,hi⟩:=List.mem_iff_getElem?.1 ai;exact c1 i u hi);simp only[Nat.add_zero]at L;have ah:(execOp a.eval o).run P w=.ok .skip (w.setRow b (j.take f++(a.eval y).cells.toList++j.drop (f+(a.eval y).cells.toList.length)).toArray):=by simp[execOp,ho,A,Instr.storeAt,Instr.sureAddr,storeVar,sizeOf,typeInfo,hi,ad,hsz,L]
   have z:U9 (λc=>c=b) γ w γ (w.setRow b (j.take f++(a.eval y).cells.toList++j.drop (f+(a.eval y).cells.toList.length)).toArray) :=WY v (by simp[hsz];omega) rfl (λq af=>by simp[V0,J]at af) (λ_ _=>rfl);have hf:zN γ w (splice W f (G.ev ρ).cells) (j.take f++(a.eval y).cells.toList++j.drop (f+(a.eval y).cells.toList.length)):=zN.splice ⟨ab,ae,ag⟩ ⟨cl,c1,U⟩ f;refine Pe ah (ac γ _ _ _ _ (z.weaken λc e=>by subst e;simp[keysOf,p]) (Vw K z (.cells _ _ E J (Vz w b _ _ E _ v) hf.1 hf.2.1 λi c O aa A=>(hf.2.2 i c O aa A).mono z.mono)) (Vi (by simp[p])) (.tup [] [] rfl (by simp)) Y)
def Lj{P:Program}{γ:Gh}{w:World}{o:Own}{sz:Nat}{f:List (List AV)}{v:Value}{A C:TypeId}(g:P.underlying A=some (.slice C))(h:Rep γ w (.sl o sz f) v):
  ∃news,Src P sz A v f.length news w/\zN γ w f.flatten news/\(f≠[]->∀Y∈f,Y.length=sz):=by
 obtain⟨y,cap,U,Z⟩:=h.slice_form;subst U;cases h with
 | slnil _ _ _=>exact⟨[],Src.ofNil w g 0,⟨rfl,by simp,by simp⟩,by simp⟩
 | sl0 _ _ y _=>exact⟨[],Src.ofSlice w g y 0 0 [] (by simp) (by simp) (by simp),⟨rfl,by simp,by simp⟩,by simp⟩
 | sl _ _ _ b X _ cv G K p I L ho =>obtain⟨_,_,_,_,_,us,z,j,M⟩:=(Rep.sl o sz f b X cap cv G K p I L ho).flat;refine⟨us,Src.ofSlice w g _ _ _ us (by rw[<-z,Yn sz f p]) (λW u J=>by rw[addr_add];exact(j W u J).1) (λu O=>?_),⟨z,λi u hi=>(j i u hi).2.2,M⟩,λ_=>p⟩;obtain⟨i,hi⟩:=List.mem_iff_getElem?.1 O;exact(j i u hi).2.2
def LE(f:List (List AV)):(f.map (·.map AV.strip1)).flatten=f.flatten.map AV.strip1:=by
 induction f with
 | nil=>rfl
 | cons h f g=>rw[List.map_cons,List.flatten_cons,List.flatten_cons,List.map_append,g]
section
variable {P:Program} {w:World}
def Uj(t h p e:TypeId)(i:TypeInfo)(j:P.underlying t=some (.slice e))(hi:P.info? e=some i)(x:Value)(news:List Value)(f:Src P i.size h x 0 news w):
  (Builtin.append_ #[t,h] p #[.slice none 0 0,x]).run P w=.ok (.slice none 0 0) w:=by
 rcases f.kind with ⟨v,g⟩|g<;>simp[Builtin.append_,run_underlying j,run_underlying g,sizeOf,typeInfo,hi,f.len,f.cells]
def Rd(t z J e:TypeId)(i:TypeInfo)(I:P.underlying t=some (.slice e))(hi:P.info? e=some i)(b g f p:Nat)(h:Array Value)(E:TypeId)(A:w.heap[b]?=some (.cells h E (0,0)))(x:Value)(n:Nat)(news:List Value)(j:Src P i.size z x n news w)(G:f+n<=p)(C:g+f*i.size+news.length<=h.size):
  (Builtin.append_ #[t,z] J #[.slice (some ⟨b,g,none⟩) f p,x]).run P w = .ok (.slice (some ⟨b,g,none⟩) (f+n) p) (w.setRow b (h.toList.take (g+f*i.size)++news++h.toList.drop (g+f*i.size+news.length)).toArray):=by
 have y:=run_storeCells_at P b (g+f*i.size) E news 0 h w A (by simpa using C) j.one;simp only[Nat.add_zero]at y;rcases j.kind with ⟨K,v⟩|v<;>simp[Builtin.append_,run_underlying I,run_underlying v,sizeOf,typeInfo,hi,j.len,G,j.cells,Addr.add_lit,y]
def Ua(t v A e:TypeId)(i:TypeInfo)(z:P.underlying t=some (.slice e))(hi:P.info? e=some i)(h:Addr)(f:Nat)(x:Value)(news:List Value)(g:Src P i.size v x 0 news w)(y:news=[]):
  (Builtin.append_ #[t,v] A #[.slice (some h) f f,x]).run P w=.ok (.slice (some h) f f) w:=by
 have j:=g.cells;rw[y]at j;rcases g.kind with ⟨C,p⟩|p<;>simp[Builtin.append_,run_underlying z,run_underlying p,sizeOf,typeInfo,hi,g.len,j,storeCells]
end
def OU{H:zd}{w:World}{b:Nat}{x:Yr}(h:(H b).isSome=true){g:Nat}(h':g=b∨w.heap.size<=g):ZL H w ((H.del b).upd g x):=by
 intro c f;unfold zd.upd at f;split at f
 ·rename_i e;subst e;rcases h' with rfl|h'
  ·exact .inl h
  ·exact .inr h'
 ·unfold zd.del at f;split at f
  ·cases f
  ·exact .inl f
def Ks{γ:Gh}{w:World}{H:zd}(g:zU γ w H)(b:Nat):zU γ w (H.del b):=g.sub λc o f=>by
 unfold zd.del at f;split at f
 ·cases f
 ·exact f
def zdw{P:Program}{o:Oper}{a:Act}{γ:Gh}{w:World}{H:zd}{K:AV->zd->Prop}{next:Act->World->Prop}{Q:Exit->Act->World->Prop}{t M e:TypeId}{i:TypeInfo}{ax:Value}{sz bytes:Nat}(ah:P.underlying t=some (.slice e))(hi:P.info? e=some i)(cp:i.zero=some ax)(hsz:i.size=sz)(b4:i.bytes=bytes)(cq:ax.cells.size=sz)(cu:0<sz){own own':Own}{g cr:Nat}{xs f:List (List AV)}{v x:Value}(U:Rep γ w (.sl own g xs) v){news:List Value}(bx:Src P sz M x f.length news w)(b9:zN γ w f.flatten news)(co:f≠[]->∀C∈f,C.length=sz)(z:zU γ w H)(cc:zeq sz bytes (.sl own g xs) (.sl own' cr f) H K)(I:∀r w',(Builtin.append_ #[t,M] o.type #[v,x]).run P w=.ok r w'->(execOp a.eval o).run P w=.ok (.value r) w')(ad:∀γ' w' H' c v,U9 (keysOf H) γ w γ' w'->zU γ' w' H'->ZL H w H'->Rep γ' w' c v->K c H'->next (a.put o.dst v) w'):o.wp P a w next Q:=by
 obtain⟨b2,b3,b5,br,au⟩:=cc;subst b3;subst b2;have b1:∀C∈f.map (·.map AV.strip1),C.length=g:=by intro C h;simp only[List.mem_map]at h;obtain⟨ct,bz,rfl⟩:=h;rw[List.length_map];exact co (List.ne_nil_of_mem bz) ct bz
 have bu:zN γ w (f.map (·.map AV.strip1)).flatten news:=by rw[LE];exact Sa b9
 have ae:news.length=f.length*g:=by rw[bx.newsLen]
 have ag:Src P i.size M x f.length news w:=by rw[hsz];exact bx
 have grown:∀(base:Option Addr) (cap:Nat) (Z:List Value) (H':zd),v=.slice base xs.length cap->(Builtin.firstCells i.size xs.length (.slice base xs.length cap)).run P w.drew=.ok Z.toArray w.drew ->
   zN γ w xs.flatten Z->Z.length=xs.length*g->(∀C∈xs,C.length=g)->cap<xs.length+f.length->zU γ w H' ->
   ZL H w (H'.upd w.heap.size (.tip (xs.length+f.length) g)) ->
   K (.sl (.tip w.heap.size 0) g (xs++f.map (·.map AV.strip1))) (H'.upd w.heap.size (.tip (xs.length+f.length) g))->o.wp P a w next Q:=by
  intro base cap Z H' j hold hfr bv ch bq cd b7 A;have y:=run_append_grow_src (P:=P) w t M o.type e i ax ah hi cp base xs.length cap Z hold x f.length news ag bq (by simp only[maxLen]at br;omega) (growslice_fits bq (by rw[b4];exact b5));rw[<-j]at y;generalize a0:grownCap w (xs.length+f.length) cap e=ai at y;have bl:xs.length+f.length<=ai:=a0▸grownCap_ge w _ cap e;have b8:ai<=maxLen:=a0▸grownCap_le_maxLen w _ cap e br;generalize bf:(Z++news).toArray++Builtin.zeroCells ax.cells (ai-(xs.length+f.length))=arr at y;have bg:arr.size=ai*g:=by
   rw[<-bf];simp only[Array.size_append,List.size_toArray,ZX,size_zeroCells,cq,bv,ae,<-Nat.add_mul]
   congr 1
   omega
  have ac:U9 (λ_=>False) γ w (λb=>if b=w.heap.size then .buf ((xs.length+f.length)*g)else γ b) (w.drew.alloc (.cells arr e)) :=(Wh (λ_=>False) γ w).trans (X5 (λ_=>False) γ w.drew (.buf ((xs.length+f.length)*g)) arr e) (λ_ _ ay=>ay);have a5:(w.drew.alloc (.cells arr e)).heap[w.heap.size]?=some (.cells arr e (0,0)):=heap_alloc_new w.drew _;have Y:zN (λb=>if b=w.heap.size then .buf ((xs.length+f.length)*g)else γ b) (w.drew.alloc (.cells arr e)) (xs++f.map (·.map AV.strip1)).flatten (Z++news):=by rw[List.flatten_append];have ab:=zN.append hfr bu;exact⟨ab.1,ab.2.1,λi c u X J=>(ab.2.2 i c u X J).mono ac.mono⟩
  have hlen:(xs++f.map (·.map AV.strip1)).length=xs.length+f.length:=by simp
  have bc:∀C∈xs++f.map (·.map AV.strip1),C.length=g:=λC h=>by
   rcases List.mem_append.1 h with aa|aa
   ·exact ch C aa
   ·exact b1 C aa
  refine ZD (I _ _ y) (ad _ _ _ _ _ (ac.weaken λ_ ay=>ay.elim) (W3 (F:=λ_=>False) cd ac (.tip _ _ arr e (by simp) a5 (by rw[bg];exact Nat.mul_le_mul_right _ bl))) b7 ?_ A);rw[show (Value.slice (some ⟨w.heap.size,0,none⟩) (xs.length+f.length) ai)=Value.slice (some ⟨w.heap.size,0,none⟩) (xs++f.map (·.map AV.strip1)).length ai from by rw[hlen]];refine Rep.sl_flat bc Y.1 (λk u A=>?_) Y.2.2 (by rw[hlen];exact bl) b8 (.inr ⟨by rw[Nat.zero_mul],arr,e,a5,by rw[bg,Nat.zero_add]⟩);have aj:k<(Z++news).length:=(Vj.1 A).1;refine⟨?_,?_,Y.2.1 k u A⟩
  ·rw[Nat.zero_add,cell_of_row _ _ _ _ _ _ a5,<-bf];rw[Array.getElem?_append_left (by simpa using aj)];simpa using A
  ·simp only[V0,if_true,Nat.zero_add];rw[ZX,bv,ae,<-Nat.add_mul]at aj;exact aj
 obtain⟨ar,cap,j,a0⟩:=U.slice_form;cases own with
 | no=>exact au.elim
 | nil =>
  obtain⟨ao,O⟩:=au;rw[j]at U;cases U with
  | sl _ _ _ b G _ cv X a4 J bh y ho=>exact ho.elim
  | sl0 _ _ _ ho=>simp at ho
  | slnil _ _ _ =>
   by_cases h:f=[]
   ·subst h;have y:=Uj (P:=P) t M o.type e i ah hi x news ag;rw[j]at I;exact ZD (I _ _ y) (ad γ w H _ _ (.refl _ _ _) z (ZL.refl _ _) (.slnil .nil _ (by simp)) (ao rfl))
   ·have ak:0<f.length:=List.length_pos_iff.2 h;refine grown none 0 [] H j (run_firstCells_none _ _ _ _ _) ⟨rfl,by simp,by simp⟩ (by simp) (by simp) (by simpa using ak) z Y4 (O h _ (Xu z))
 | full =>
  obtain⟨ao,O⟩:=au;have L:=U;rw[j]at U;cases U with
  | slnil _ _ _ =>
   by_cases h:f=[]
   ·subst h;have y:=Uj (P:=P) t M o.type e i ah hi x news ag;rw[j]at I;exact ZD (I _ _ y) (ad γ w H _ _ (.refl _ _ _) z (ZL.refl _ _) (.slnil .full _ (by simp)) (ao rfl))
   ·have ak:0<f.length:=List.length_pos_iff.2 h;refine grown none 0 [] H j (run_firstCells_none _ _ _ _ _) ⟨rfl,by simp,by simp⟩ (by simp) (by simp) (by simpa using ak) z Y4 (O h _ (Xu z))
  | sl0 _ _ ar _ =>
   by_cases h:f=[]
   ·subst h;have aq:news=[]:=List.eq_nil_of_length_eq_zero (by rw[ae];simp);have y:=Ua (P:=P) t M o.type e i ah hi ar 0 x news ag aq;rw[j]at I L;exact ZD (I _ _ y) (ad γ w H _ _ (.refl _ _ _) z (ZL.refl _ _) L (ao rfl))
   ·have ak:0<f.length:=List.length_pos_iff.2 h;refine grown (some ar) 0 [] H j ?_ ⟨rfl,by simp,by simp⟩ (by simp) (by simp) (by simpa using ak) z Y4 (O h _ (Xu z));exact run_firstCells_some w.drew i.size 0 ar 0 0 [] (by simp) (by simp)
  | sl _ _ _ b G _ cv X a4 J bh y ho =>
   have bj:xs.length=cap:=ho;by_cases h:f=[]
   ·subst h;have aq:news=[]:=List.eq_nil_of_length_eq_zero (by rw[ae];simp);have y:=Ua (P:=P) t M o.type e i ah hi ⟨b,G,none⟩ xs.length x news ag aq;rw[j,<-bj]at I;rw[j,<-bj]at L;exact ZD (I _ _ y) (ad γ w H _ _ (.refl _ _ _) z (ZL.refl _ _) L (ao rfl))
   ·have ak:0<f.length:=List.length_pos_iff.2 h;rw[j]at L;obtain⟨_,_,_,_,_,us,al,af,Y⟩:=L.flat;have am:us.length=xs.length*g:=by rw[<-al,Yn g xs J]
    refine grown (some ⟨b,G,none⟩) cap us H j ?_ ⟨al,λi u hi=>(af i u hi).2.2,Y⟩ am J (by omega) z Y4 (O h _ (Xu z));exact run_firstCells_some w.drew i.size xs.length ⟨b,G,none⟩ xs.length cap us (by rw[hsz];exact am) (λbd u a2=>by rw[addr_add];exact(af bd u a2).1)
 | tip b d =>
  obtain⟨an,O⟩:=au;have L:=U;rw[j]at U;cases U with
  | slnil _ _ ca=>exact absurd rfl (ca b d)
  | sl0 _ _ _ ho=>simp at ho
  | sl _ _ _ p G _ cv X a4 J bh y ho =>
   rw[j]at L;have hx1:=L;obtain⟨_,_,_,_,_,us,al,af,Y⟩:=L.flat;have am:us.length=xs.length*g:=by rw[<-al,Yn g xs J]
   by_cases bw:xs.length+f.length<=cap
   ·rcases ho with b6|⟨be,arr,E,av,az⟩
    ·-- nothing there,nothing new
     have ci:xs.length=0:=by omega
     have cm:f.length=0:=by omega
     have cn:f=[]:=List.eq_nil_of_length_eq_zero cm;have cj:xs=[]:=List.eq_nil_of_length_eq_zero ci;subst cn;subst cj;subst b6;have aq:news=[]:=List.eq_nil_of_length_eq_zero (by rw[ae];simp);have y:=Ua (P:=P) t M o.type e i ah hi ⟨p,G,none⟩ 0 x news ag aq;rw[j]at I;have cg:(H.del b).upd b (.tip (d+(([]:List (List AV)).length+([]:List (List AV)).length)) g)=H:=by
      funext c;simp only[zd.upd,zd.del];split
      ·rename_i e;subst e;rw[an];simp
      ·rfl
     have A:=O b d (by simp[zd.del]);rw[cg]at A;exact ZD (I _ _ y) (ad γ w H _ _ (.refl _ _ _) z (ZL.refl _ _) (by simpa using hx1) A)
    simp only[Addr.mk.injEq]at be;obtain⟨rfl,rfl,_⟩:=be;have a1:d*g+xs.length*i.size+news.length<=arr.size:=by rw[hsz,ae,az,<-Nat.add_mul,<-Nat.add_mul];exact Nat.mul_le_mul_right _ (by omega)
    have aw:=Rd (P:=P) t M o.type e i ah hi p (d*g) xs.length cap arr E av x f.length news ag bw a1;rw[j]at I;rw[hsz]at aw;rw[hsz]at a1;generalize cb:d*g+xs.length*g=G at aw a1;generalize a8:(arr.toList.take G++news++arr.toList.drop (G+news.length)).toArray=W at aw;have ce:(arr.toList.take G).length=G:=by simp;omega
    have ba:W.size=arr.size:=by rw[<-a8];simp;omega
    have bp:∀k,k<G->W[k]?=arr[k]?:=by intro k A;rw[<-a8,List.getElem?_toArray,Uh,SA (by omega),zaV,if_pos A];simp
    have hpre:∀k,k<(us++news).length->W[d*g+k]?=(us++news)[k]?:=by
     intro k A;rcases Nat.lt_or_ge k us.length with ap|ap
     ·rw[SA ap,bp _ (by omega)];have:=(af k us[k] (Qh ap)).1;rw[cell_of_row w p _ arr E _ av]at this;rw[Qh ap,<-this]
     ·rw[ZX]at A;rw[Ow ap,<-a8,List.getElem?_toArray,Uh,Ow (by omega),ce,SA (by omega)]
      congr 1
      omega
    have A:γ p=.buf ((d+xs.length)*g):=by
     cases z p _ an with
     | tip _ _ _ _ A _ _=>exact A
    have ac:U9 (λc=>c=p) γ w (λc=>if c=p then .buf ((d+(xs.length+f.length))*g)else γ c) (w.setRow p W) :=WY av ba rfl (λq a6=>by simp only[V0,A]at a6;rw[Nat.add_mul,cb]at a6;refine⟨?_,bp q a6⟩;simp only[V0,if_true];rw[Nat.add_mul,Nat.add_mul];omega) (λc X=>by simp[X]);have a9:=Vz w p W arr E _ av;have a7:zN (λc=>if c=p then .buf ((d+(xs.length+f.length))*g)else γ c) (w.setRow p W) (xs++f.map (·.map AV.strip1)).flatten (us++news):=by rw[List.flatten_append];have ab:=zN.append (γ:=γ) (w:=w) ⟨al,λi u hi=>(af i u hi).2.2,Y⟩ bu;exact⟨ab.1,ab.2.1,λi c u X J=>(ab.2.2 i c u X J).mono ac.mono⟩
    have hlen:(xs++f.map (·.map AV.strip1)).length=xs.length+f.length:=by simp
    have bc:∀C∈xs++f.map (·.map AV.strip1),C.length=g:=λC h=>by
     rcases List.mem_append.1 h with aa|aa
     ·exact J C aa
     ·exact b1 C aa
    refine ZD (I _ _ aw) (ad _ _ _ _ _ (ac.weaken λc e=>by subst e;simp[keysOf,an]) (Vw (Ks z p) ac (.tip _ _ W E (by simp) a9 (by rw[ba,az];exact Nat.mul_le_mul_right _ (by omega)))) (OU (by simp[an]) (.inl rfl)) ?_ (O p d (by simp[zd.del])));rw[show (Value.slice (some ⟨p,d*g,none⟩) (xs.length+f.length) cap)=Value.slice (some ⟨p,d*g,none⟩) (xs++f.map (·.map AV.strip1)).length cap from by rw[hlen]];refine Rep.sl_flat bc a7.1 (λk u a3=>?_) a7.2.2 (by rw[hlen];exact bw) a4 (.inr ⟨rfl,W,E,a9,by rw[ba,az]⟩);have aj:k<(us++news).length:=(Vj.1 a3).1;refine⟨?_,?_,a7.2.1 k u a3⟩
    ·rw[cell_of_row _ _ _ _ _ _ a9,hpre k aj];exact a3
    ·simp only[V0,if_true];rw[ZX,am,ae,<-Nat.add_mul]at aj;rw[Nat.add_mul];omega
   ·have bn:=O w.heap.size 0 (by
     unfold zd.del;split
     ·rfl
     ·exact Xu z)
    rw[Nat.zero_add]at bn;refine grown (some ⟨p,G,none⟩) cap us (H.del b) j ?_ ⟨al,λi u hi=>(af i u hi).2.2,Y⟩ am J (by omega) (Ks z b) (OU (by simp[an]) (.inr (ZG _))) bn;exact run_firstCells_some w.drew i.size xs.length ⟨p,G,none⟩ xs.length cap us (by rw[hsz];exact am) (λbd u a2=>by rw[addr_add];exact(af bd u a2).1)
def zop{P:Program}{o:Oper}{t z e C:TypeId}{x y:Operand}{x' g:yY}{i:TypeInfo}{A:Value}{sz bytes:Nat}(ho:o.op=.call { callee:=.builtin .append,args:=#[x,y],argTypes:=#[t,z] })(h:yG x x'=true)(G:yG y g=true)(X:P.underlying t=some (.slice e))(Y:P.underlying z=some (.slice C))(hi:P.info? e=some i)(ac:i.zero=some A)(hsz:i.size=sz)(I:i.bytes=bytes)(ad:A.cells.size=sz)(L:0<sz):Pm P o (.app sz bytes x' g):=by
 intro γ w H ρ a af KP next Q j O f J ag
 simp only[TZ,XQ.cls,eff]at f;have p:=zP h j;have v:=zP G j;cases Z:x'.ev ρ<;>rw[Z]at f p<;>try (exact False.elim f)
 cases aa:g.ev ρ<;>rw[aa]at f v<;>try (exact False.elim f)
 rename_i own ah ai own' ae aj;have U:ae=sz:=f.2.1;subst U;obtain⟨news,W,K,ab⟩:=Lj (P:=P) Y v;refine zdw X hi ac hsz I ad L p W K ab O f (λr w' M=>?_) J;simp[execOp,ho,resolve,invoke,builtin,M]
def TI(P:Program)(n:Nat)(e:TypeId)(f:List K1):Bool :=
 match f with
 | [k,k']=>decide (n=2)&&decide (k'=k)&&k.isTy P e&&(match P.info? e with|some i=>decide (i.size=1)|none=>false)
 | _=>false
def SX{P:Program}{e:TypeId}(h:(match P.info? e with|some i=>decide (i.size=1)|none=>false)=true)(w:World):(sizeOf e).run P w=.ok 1 w:=by
 cases hi:P.info? e with
 | none=>simp[hi]at h
 | some i =>simp only[hi,Zh]at h;simp[sizeOf,typeInfo,Sem.run_bind,hi,h]
def zjQ:List.range' 0 2 1=[0,1]:=rfl
def zdq{P:Program}{w:World}{γ:Gh}{t e:TypeId}{n:Nat}{j:List K1}{as bs:List AV}{us vs:List Value}(K:P.underlying t=some (.array n e))(f:TI P n e j=true)(g:yj j as=true)(h:yj j bs=true)(I:as.length=us.length)(J:bs.length=vs.length)(z:∀(i:Nat) (c:AV) (v:Value),as[i]?=some c->us[i]?=some v->Rep γ w c v)(A:∀(i:Nat) (c:AV) (v:Value),bs[i]?=some c->vs[i]?=some v->Rep γ w c v)(m:Nat):
  (Op.equalIn (m+2) t (.agg us.toArray) (.agg vs.toArray)).run P w=.ok (VV as bs) w:=by
 match j,f with
 | [k,k'],f =>
  simp only[TI,yu,Zh]at f;obtain⟨⟨⟨rfl,rfl⟩,hty⟩,hsz⟩:=f
  match as,us,I with
  | [a0,a1],[u0,u1],_ =>
   match bs,vs,J with
   | [b0,b1],[v0,v1],_ =>
    simp only[yj,yu,Bool.and_true]at g h;have W:=z 0 a0 u0 rfl rfl;have X:=z 1 a1 u1 rfl rfl;have Y:=A 0 b0 v0 rfl rfl;have Z:=A 1 b1 v1 rfl rfl;have C:=PJ hty g.1 h.1 W Y m;have G:=PJ hty g.2 h.2 X Z m;have L:(part e #[u0,u1] (0*1)).run P w=.ok u0 w:=by simp[part,XT hty]
    have M:(part e #[u0,u1] (1*1)).run P w=.ok u1 w:=by simp[part,XT hty]
    have O:(part e #[v0,v1] (0*1)).run P w=.ok v0 w:=by simp[part,XT hty]
    have U:(part e #[v0,v1] (1*1)).run P w=.ok v1 w:=by simp[part,XT hty]
    rw[Op.equalIn];simp only[Sem.run_bind,run_underlying K,Result.andThen_ok,SX hsz];rw[Std.Legacy.Range.forIn_eq_forIn_range'];simp only[Std.Legacy.Range.size,Nat.sub_zero,Nat.add_one_sub_one,Nat.div_one,zjQ,List.forIn_cons,List.forIn_nil,Sem.run_bind,L,O,C,Result.andThen_ok];cases p:a0.keq1 b0
    ·simp[VV,p]
    ·simp only[Bool.not_true,Ql,if_false,Sem.run_bind,Sem.run_pure,M,U,G,Result.andThen_ok];cases y:a1.keq1 b1
     ·simp[VV,p,y]
     ·simp[VV,p,y]
   | [],_,_=>simp[yj]at h
   | [_],_,_=>simp[yj]at h
   | _::_::_::_,_,_=>simp[yj]at h
  | [],_,_=>simp[yj]at g
  | [_],_,_=>simp[yj]at g
  | _::_::_::_,_,_=>simp[yj]at g
 | [],f=>simp[TI]at f
 | [_],f=>simp[TI]at f
 | _::_::_::_,f=>simp[TI]at f
def SH(P:Program)(t:TypeId)(f:KT):Bool :=
 match f with
 | .one k=>k.isTy P t
 | .agg ks=>match P.underlying t with
  | some (.struct fs)=>UV P fs.toList 0 ks&&!P.stoodInHeld t
  | some (.array n e)=>TI P n e ks
  | _=>false
def L9{c:AV}{v:Value}(h:c.conc1=some v)(γ:Gh)(w:World):Rep γ w c v:=by
 cases c<;>simp only[AV.conc1,Y1]at h<;>try (cases h;done)
 ·subst h;exact .bool _
 ·subst h;exact .int _ _
 ·subst h;exact .str _
def zf5{c:AV}{v:Value}(h:c.conc1=some v):v.oneCell'=true:=by cases c<;>simp only[AV.conc1,Y1]at h<;>first|(cases h;done)|(subst h;rfl)
def Kk:∀ {j:List AV} {vs:List Value},U2 j=some vs->∀(γ:Gh) (w:World),zN γ w j vs
 | [],vs,h,γ,w=>by simp only[U2,Y1]at h;subst h;exact⟨rfl,by simp,by simp⟩
 | c::j,vs,h,γ,w=>by
  unfold U2 at h;cases g:c.conc1 with
  | none=>simp[g]at h
  | some A =>
   cases p:U2 j with
   | none=>simp[g,p]at h
   | some us =>
    simp only[g,p,Y1]at h;subst h;have z:=Kk p γ w;have y:zN γ w [c] [A]:=⟨rfl,λi u f=>by
     cases i with
     | zero=>simp at f;subst f;exact zf5 g
     | succ i=>simp at f,λi d u v f=>by
     cases i with
     | zero=>simp at v f;subst v;subst f;exact L9 g γ w
     | succ i=>simp at v⟩
    exact y.append z
def zbG{c:AV}{v:Value}(h:c.conc=some v)(γ:Gh)(w:World):Rep γ w c v:=by
 cases c with
 | agg g =>simp only[AV.conc,SV]at h;obtain⟨j,f,rfl⟩:=h;have:=Kk f γ w;exact .agg _ _ this.1 this.2.1 this.2.2
 | _=>(simp only[AV.conc]at h;exact L9 h γ w)
def LR{c:AV}{v:Value}{k:K1}{γ:Gh}{w:World}(hf:k.fits c=true)(h:Rep γ w c v):c.conc1=some v:=by cases k<;>cases c<;>simp[K1.fits]at hf<;>cases h<;>rfl
def LN{γ:Gh}{w:World}:∀ {g:List K1} {f:List AV} {vs:List Value},yj g f=true->f.length=vs.length->(∀(i:Nat) (c:AV) (v:Value),f[i]?=some c->vs[i]?=some v->Rep γ w c v)->U2 f=some vs
 | _,[],[],_,_,_=>rfl
 | _,[],_::_,_,h,_=>by simp at h
 | _,_::_,[],_,h,_=>by simp at h
 | [],_::_,_::_,h,_,_=>by simp[yj]at h
 | k::g,c::f,v::vs,hf,hl,hr=>by simp only[yj,yu]at hf;have j:=LR hf.1 (hr 0 c v rfl rfl);have p:=LN hf.2 (by simpa using hl) (λi c v y z=>hr (i+1) c v (by simpa using y) (by simpa using z));simp[U2,j,p]
def Lk{c:AV}{v:Value}{f:KT}{γ:Gh}{w:World}(hf:f.fits c=true)(h:Rep γ w c v):c.conc=some v:=by
 cases f with
 | one k =>have:=LR (k:=k) hf h;cases c<;>first|exact this|(cases k<;>simp[KT.fits,K1.fits]at hf)
 | agg y =>
  cases c<;>simp[KT.fits]at hf;cases h with
  | agg _ z g p j=>simp[AV.conc,LN hf g j]
def zeB{c d:AV}{k:K1}(h:k.fits c=true):c.keq d=c.keq1 d:=by cases k<;>cases c<;>simp[K1.fits]at h<;>cases d<;>rfl
def zfd{P:Program}{w:World}{p:KT}{t:TypeId}{c d:AV}{u v:Value}(g:SH P t p=true)(f:p.fits c=true)(j:p.fits d=true)(O:c.conc=some u)(U:d.conc=some v):
  (Op.equal t u v).run P w=.ok (c.keq d) w:=by
 have γ:Gh:=λ_=>.imm;have G:=zbG O γ w;have rd:=zbG U γ w;unfold Op.equal Op.maxDepth;cases p with
 | one k=>rw[zeB (k:=k) f];exact PJ g f j G rd 9999
 | agg W =>
  cases c<;>simp[KT.fits]at f;cases d<;>simp[KT.fits]at j;rename_i as bs;unfold SH at g;simp only at g;cases h:P.underlying t with
  | none=>simp[h]at g
  | some ds =>
   cases ds<;>simp only[h]at g<;>try (cases g;done)
   case array n e =>
    cases G with
    | agg _ I y L A =>
     cases rd with
     | agg _ us z M C=>exact zdq (m:=9998) h g f j y z A C
   rename_i J;simp only[yu,Bool.not_eq_true']at g;cases G with
   | agg _ I y L A =>
    cases rd with
    | agg _ us z M C =>
     have K:P.fieldsOf t=J:=by simp[Program.fieldsOf,h]
     rw[run_equalIn_struct w 9999 t _ _ (by rw[K];exact h) g.2,K];exact Sg (γ:=γ) 9998 _ _ J.toList 0 W as bs g.1 f j
      (λi c f=>by
       have hi:i<I.length:=by rw[<-y];exact(Vj.1 f).1
       exact⟨I[i],by simp[hi],A i c _ f (Qh hi)⟩)
      (λi c f=>by
       have hi:i<us.length:=by rw[<-z];exact(Vj.1 f).1
       exact⟨us[i],by simp[hi],C i c _ f (Qh hi)⟩)
def Up(es:List (AV×AV))(k:AV):Option Nat :=
 match es with
 | []=>none
 | (a,_)::r=>if k.keq a then some 0 else (Up r k).map (·+1)
def Rb{P:Program}{w:World}{γ:Gh}{j:KT}{t:TypeId}{k:AV}{z:Value}(v:SH P t j=true)(hf:j.fits k=true)(y:k.conc=some z):∀(es:List (AV×AV)) (f:List MapEntry) (n:Nat),
  es.length=f.length->(∀x∈es,j.fits x.1=true)->(∀(i:Nat) (x:AV×AV) (e:MapEntry),es[i]?=some x->f[i]?=some e->UQ γ w x e) ->
  (Instr.findAsking t z f n).run P w=.ok ((Up es k).map λi=>(n+i,(f.getD i default).val)) w
 | [],[],n,_,_,_=>rfl
 | [],_::_,_,h,_,_=>by simp at h
 | _::_,[],_,h,_,_=>by simp at h
 | x::es,e::f,n,hl,hfit,hr=>by
  have I:=hr 0 x e rfl rfl;have C:=zfd (w:=w) v hf (hfit x (YS ..)) y I.key;have J:=Rb v hf y es f (n+1) (by simpa using hl) (λp g=>hfit p (YN _ g)) (λi p A g G=>hr (i+1) p A (by simpa using g) (by simpa using G));simp only[Instr.findAsking,Sem.run_bind,C,Result.andThen_ok,Up];cases K:k.keq x.1
  ·simp only[Ql,if_false,J];cases Up es k with
   | none=>rfl
   | some i=>simp;omega
  ·simp
def zcA{P:Program}{w:World}{t:TypeId}{d:TypeDesc}(g:P.underlying t=some d){u v:Value}{b:Bool}(f:Instr.sameNow d u v=some b):(Op.equal t u v).run P w=.ok b w:=by
 unfold Instr.sameNow at f;unfold Op.equal Op.maxDepth;rw[Op.equalIn];split at f
 ·split at f
  ·rename_i h;simp only[Y1]at f;simp[run_underlying g,h,f]
  ·cases f
 ·simp only[Y1]at f;simp[run_underlying g,f]
 ·simp only[Y1]at f;simp[run_underlying g,f]
 ·cases f
def OS{P:Program}{w:World}{γ:Gh}{v:KT}{t:TypeId}{d:TypeDesc}{k:AV}{j:Value}(A:P.underlying t=some d)(C:SH P t v=true)(hf:v.fits k=true)(G:k.conc=some j):∀(es:List (AV×AV)) (f:List MapEntry) (n:Nat) (r:Option (Nat×Value)),
  es.length=f.length->(∀x∈es,v.fits x.1=true)->(∀(i:Nat) (x:AV×AV) (e:MapEntry),es[i]?=some x->f[i]?=some e->UQ γ w x e) ->
  Instr.findNow d j f n=some r->r=(Up es k).map λi=>(n+i,(f.getD i default).val)
 | [],[],n,r,_,_,_,h=>by simp only[Instr.findNow,Y1]at h;subst h;rfl
 | [],_::_,_,_,h,_,_,_=>by simp at h
 | _::_,[],_,_,h,_,_,_=>by simp at h
 | x::es,e::f,n,r,hl,hfit,hr,h=>by
  have U:=hr 0 x e rfl rfl;have L:=zfd (w:=w) C hf (hfit x (YS ..)) G U.key;simp only[Instr.findNow]at h;have O:∀b,Instr.sameNow d j e.key=some b->k.keq x.1=b:=by intro b K;have z:=zcA (P:=P) (w:=w) A K;rw[L]at z;simpa using z
  cases g:Instr.sameNow d j e.key with
  | none=>simp[g]at h
  | some b =>
   have I:=O b g;cases b
   ·simp only[g]at h;have W:=OS A C hf G es f (n+1) r (by simpa using hl) (λy p=>hfit y (YN _ p)) (λi y J p M=>hr (i+1) y J (by simpa using p) (by simpa using M)) h;rw[W];simp only[Up,I,Ql,if_false];cases Up es k with
    | none=>rfl
    | some i=>simp;omega
   ·simp only[g,Y1]at h;subst h;simp[Up,I]
def Rn{P:Program}{w:World}{γ:Gh}{g:KT}{t:TypeId}{d:TypeDesc}{k:AV}{h:Value}(j:P.underlying t=some d)(v:SH P t g=true)(hf:g.fits k=true)(y:k.conc=some h)(es:List (AV×AV))(f:List MapEntry)(z:es.length=f.length)(p:∀x∈es,g.fits x.1=true)(A:∀(i:Nat) (x:AV×AV) (e:MapEntry),es[i]?=some x->f[i]?=some e->UQ γ w x e):
  (Instr.findKey t h f).run P w=.ok ((Up es k).map λi=>(i,(f.getD i default).val)) w:=by
 unfold Instr.findKey;rw[Sem.run_bind,run_underlying j w];simp only[Result.andThen_ok];cases C:Instr.findNow d h f 0 with
 | some r =>have:=OS (γ:=γ) (w:=w) j v hf y es f 0 r z p A C;simp[this]
 | none =>have:=Rb (P:=P) (w:=w) (γ:=γ) v hf y es f 0 z p A;simpa using this
def QF:∀ {es:List (AV×AV)} {k:AV},Up es k=none->Ud es k=none/\∀f,Ti es k f=es++[(k,f)]
 | [],_,_=>⟨rfl,λ_=>rfl⟩
 | (a,u)::es,k,h=>by
  unfold Up at h;split at h
  ·cases h
  ·rename_i g;have j:=QF (es:=es) (k:=k) (by simpa using h);exact⟨by unfold Ud;simp[g,j.1],λf=>by unfold Ti;simp[g,j.2 f]⟩
def QV:∀ {es:List (AV×AV)} {k:AV} {i:Nat},Up es k=some i->∃x,es[i]?=some x/\Ud es k=some x.2/\k.keq x.1=true/\∀g,Ti es k g=es.set i (k,g)
 | [],_,_,h=>by simp[Up]at h
 | (a,u)::es,k,i,h=>by
  unfold Up at h;split at h
  ·rename_i f;simp only[Y1]at h;subst h;exact⟨(a,u),rfl,by unfold Ud;simp[f],f,λg=>by unfold Ti;simp[f]⟩
  ·rename_i f;simp only[SV]at h;obtain⟨A,z,rfl⟩:=h;obtain⟨x,j,p,v,y⟩:=QV (es:=es) (k:=k) z;exact⟨x,by simpa using j,by unfold Ud;simp[f,p],v,λg=>by unfold Ti;simp[f,y g]⟩
def TJ{P:Program}{k:K1}{t:TypeId}(h:k.isTy P t=true)(empty:Bool)(n:Nat)(v:Value)(w:World):(Instr.checkKey empty (n+1) t v).run P w=.ok () w:=by
 cases f:P.underlying t with
 | none=>cases k<;>simp[K1.isTy,f]at h
 | some d =>unfold Instr.checkKey;rw[Sem.run_bind,run_underlying f w];cases k<;>cases d<;>simp_all [K1.isTy]
theorem SL {P:Program} {w:World} {empty:Bool} (n:Nat) (xs:Array Value):∀(fs:List Field) (off:Nat) (ks:List K1),UV P fs off ks=true->off+ks.length<=xs.size ->
  (forIn fs PUnit.unit fun f _ => (if f.name ≠ "_" then do
    let __do_lift <-part f.type xs f.offset
    Instr.checkKey empty (n+1) f.type __do_lift
    pure (ForInStep.yield PUnit.unit)
   else pure (ForInStep.yield PUnit.unit):Sem (ForInStep PUnit))).run P w=.ok PUnit.unit w
 | [],_,_,_,_=>by simp
 | _::_,_,[],h,_=>by simp[UV]at h
 | f::fs,off,k::ks,hf,hl=>by
  simp only[UV,yu,bne_iff_ne,ne_eq,beq_iff_eq]at hf
  obtain⟨⟨⟨hname,hoff⟩,hty⟩,hrest⟩:=hf
  simp only[yg]at hl
  have ih:=SL (P:=P) (w:=w) (empty:=empty) n xs fs (off+1) ks hrest (by omega)
  have hlt:off<xs.size:=by omega
  have p1:(part f.type xs f.offset).run P w=.ok xs[off] w:=by simp[part,XT hty,hoff,hlt]
  simp only[List.forIn_cons,ne_eq,hname,not_false_eq_true,if_true,Sem.run_bind,p1,Result.andThen_ok,TJ hty empty n _ w,Sem.run_pure]
  simpa using ih
def UM:∀ {g:List K1} {f:List AV},yj g f=true->f.length=g.length
 | [],[],_=>rfl
 | [],_::_,h=>by simp[yj]at h
 | _::_,[],h=>by simp[yj]at h
 | _::g,_::f,h=>by simp only[yj,yu]at h;simp[UM h.2]
def P7{P:Program}{w:World}{γ:Gh}{j:KT}{t:TypeId}{k:AV}{p:Value}(f:SH P t j=true)(hf:j.fits k=true)(y:Rep γ w k p)(empty:Bool):(Instr.checkKey empty 10000 t p).run P w=.ok () w:=by
 cases j with
 | one L=>exact TJ f empty 9999 p w
 | agg z =>
  cases k<;>simp[KT.fits]at hf;unfold SH at f;simp only at f;cases g:P.underlying t with
  | none=>simp[g]at f
  | some ds =>
   cases ds<;>simp only[g]at f<;>try (cases f;done)
   case array n e =>
    match z,f with
    | [k,k'],f =>
     simp only[TI,yu,Zh]at f;obtain⟨⟨⟨rfl,rfl⟩,hty⟩,hsz⟩:=f;cases y with
     | agg _ v h C G =>
      have hlen:=UM hf;rw[h]at hlen
      match v,hlen with
      | [v0,v1],_ =>
       have I:(part e #[v0,v1] (0*1)).run P w=.ok v0 w:=by simp[part,XT hty]
       have J:(part e #[v0,v1] (1*1)).run P w=.ok v1 w:=by simp[part,XT hty]
       unfold Instr.checkKey;rw[Sem.run_bind,run_underlying g w];simp only[Result.andThen_ok];rw[Std.Legacy.Range.forIn_eq_forIn_range'];simp only[Std.Legacy.Range.size,Nat.sub_zero,Nat.add_one_sub_one,Nat.div_one,zjQ,List.forIn_cons,List.forIn_nil,Sem.run_bind,SX hsz,Result.andThen_ok,I,J,TJ hty empty 9998 _ w,Sem.run_pure]
    | [],f=>simp[TI]at f
    | [_],f=>simp[TI]at f
    | _::_::_::_,f=>simp[TI]at f
   rename_i K A;simp only[yu,Bool.not_eq_true']at f;cases y with
   | agg _ v h C G =>unfold Instr.checkKey;rw[Sem.run_bind,run_underlying g w];simp only[Result.andThen_ok];have:=SL (P:=P) (w:=w) (empty:=empty) 9998 v.toArray A.toList 0 z f.1 (by simp[<-h,UM hf]);rw[<-Array.forIn_toList];simpa using this
def zo6{P:Program}{o:Oper}{t key elem:TypeId}{m k:Operand}{W U:yY}{ok:Bool}{ah:KT}{d:TypeDesc}{Y:TypeInfo}{j:Value}{zero:AV}(ho:o.op=.lookup t m k ok)(an:yG m W=true)(al:yG k U=true)(y:P.underlying t=some (.map key elem))(O:SH P key ah=true)(ab:P.underlying key=some d)(C:P.info? elem=some Y)(J:Y.zero=some j)(aq:zkx j zero=true):zep P o (.lkp ah zero ok W U):=by
 intro γ w H ρ a c ac ao f;have A:=zP an ac;have X:=zP al ac;simp only[rev]at f;split at f
 ·rename_i z;have v:=λempty=>P7 (P:=P) O z X empty;have K:=zb6 aq γ w;cases ap:W.ev ρ<;>simp only[ap]at f A<;>try (cases f;done)
  ·simp only[Y1]at f;subst f;generalize p:a.eval m=au at A;cases A;have g:(Instr.findKey key (a.eval k) []).run P w=.ok none w:=Rn (γ:=γ) ab O z (Lk z X) [] [] rfl (by simp) (by simp);cases ok with
   | true =>
    refine⟨.tuple #[j,.bool false],?_,?_⟩
    ·simp[execOp,ho,p,Instr.lookup,run_underlying y,v,g,zeroValue,typeInfo,C,J]
    ·simp only[W1,if_true,Option.getD_none,Option.isSome_none];exact .tup _ [j,.bool false] rfl (Ze.cons K (Ze.cons (.bool _) Ze.nil)).2
   | false =>
    refine⟨j,?_,?_⟩
    ·simp[execOp,ho,p,Instr.lookup,run_underlying y,v,g,zeroValue,typeInfo,C,J]
    ·simpa[W1]using K
  ·rename_i b;cases L:H b with
   | none=>simp[L]at f
   | some ar =>
    cases ar<;>simp only[L]at f<;>try (cases f;done)
    rename_i aw Z;split at f
    ·rename_i am;subst am;simp only[Y1]at f;subst f;generalize p:a.eval m=au at A;cases A;cases ao b _ L with
     | map _ _ h clock aj av ai ad ae =>
      have g:=Rn (P:=P) (w:=w) (γ:=γ) ab O z (Lk z X) Z h ad aj ae;have I:(getObj b).run P w=.ok (.map h.toArray clock) w:=by simp[getObj,Sem.run,ai]
      cases G:Up Z (U.ev ρ)with
      | none =>
       have M:=(QF G).1;rw[G]at g;simp only[Option.map_none]at g;rw[M];cases ok with
       | true =>
        refine⟨.tuple #[j,.bool false],?_,?_⟩
        ·simp[execOp,ho,p,Instr.lookup,run_underlying y,I,v,g,zeroValue,typeInfo,C,J]
        ·simp only[W1,if_true,Option.getD_none,Option.isSome_none];exact .tup _ [j,.bool false] rfl (Ze.cons K (Ze.cons (.bool _) Ze.nil)).2
       | false =>
        refine⟨j,?_,?_⟩
        ·simp[execOp,ho,p,Instr.lookup,run_underlying y,I,v,g,zeroValue,typeInfo,C,J]
        ·simpa[W1]using K
      | some i =>
       obtain⟨x,ag,M,_,_⟩:=QV G;rw[G]at g;simp only[VF]at g;rw[M];have hi:i<h.length:=by rw[<-ad];exact(Vj.1 ag).1
       have aa:h[i]?=some h[i]:=Qh hi;have ak:(h.getD i default)=h[i]:=by simp[List.getD,aa]
       rw[ak]at g;have af:=(ae i x _ ag aa).val;cases ok with
       | true =>
        refine⟨.tuple #[h[i].val,.bool true],?_,?_⟩
        ·simp[execOp,ho,p,Instr.lookup,run_underlying y,I,v,g]
        ·simp only[W1,if_true,Option.getD_some,Option.isSome_some];exact .tup _ [h[i].val,.bool true] rfl (Ze.cons af (Ze.cons (.bool _) Ze.nil)).2
       | false =>
        refine⟨h[i].val,?_,?_⟩
        ·simp[execOp,ho,p,Instr.lookup,run_underlying y,I,v,g]
        ·simpa[W1]using af
    ·cases f
 ·cases f
def KC{k:K1}{c d:AV}(f:k.fits c=true)(g:k.fits d=true)(h:c.keq1 d=true):c.conc1=d.conc1:=by
 cases k<;>cases c<;>simp[K1.fits]at f<;>cases d<;>simp[K1.fits]at g<;>simp[AV.keq1]at h
 ·subst h;rfl
 ·subst h;rfl
 ·subst h;subst f;subst g;rfl
def M2:∀ {g:List K1} {f ds:List AV},yj g f=true->yj g ds=true->VV f ds=true->U2 f=U2 ds
 | [],[],[],_,_,_=>rfl
 | [],_::_,_,h,_,_=>by simp[yj]at h
 | [],[],_::_,_,h,_=>by simp[yj]at h
 | _::_,[],_,h,_,_=>by simp[yj]at h
 | _::_,_::_,[],_,h,_=>by simp[yj]at h
 | k::g,c::f,d::ds,hc,hd,h=>by simp only[yj,yu]at hc hd;simp only[VV,yu]at h;unfold U2;rw[KC hc.1 hd.1 h.1,M2 hc.2 hd.2 h.2]
def zj5{j:KT}{c d:AV}(f:j.fits c=true)(g:j.fits d=true)(h:c.keq d=true):c.conc=d.conc:=by
 cases j with
 | one k =>rw[zeB (k:=k) f]at h;have:=KC (k:=k) f g h;cases k<;>cases c<;>simp[KT.fits,K1.fits]at f<;>cases d<;>simp[KT.fits,K1.fits]at g<;>exact this
 | agg p =>cases c<;>simp[KT.fits]at f;cases d<;>simp[KT.fits]at g;simp only[AV.conc];rw[M2 f g h]
def Rh{c:AV}{v:Value}(h:c.conc1=some v)(n:Nat):Instr.sameBits n v v=true:=by cases c<;>simp only[AV.conc1,Y1]at h<;>first|(cases h;done)|(subst h;cases n<;>simp[Instr.sameBits,beq_toListBytes])
def Rs:∀ {g:List AV} {vs:List Value},U2 g=some vs->∀n,(vs.zip vs).all (λ(x,p)=>Instr.sameBits n x p)=true
 | [],vs,h,n=>by simp only[U2,Y1]at h;subst h;rfl
 | c::g,vs,h,n=>by
  unfold U2 at h;cases f:c.conc1 with
  | none=>simp[f]at h
  | some v =>
   cases j:U2 g with
   | none=>simp[f,j]at h
   | some us =>simp only[f,j,Y1]at h;subst h;simp only[List.zip_cons_cons,List.all_cons,Rh f n,Bool.true_and];exact Rs j n
def Lx{c:AV}{v:Value}(h:c.conc=some v):Instr.sameBits 10000 v v=true:=by
 cases c with
 | agg p =>simp only[AV.conc,SV]at h;obtain⟨f,g,rfl⟩:=h;have:=Rs g 9999;show (f.toArray.size==f.toArray.size&&(f.toArray.toList.zip f.toArray.toList).all λ(x,j)=>Instr.sameBits 9999 x j)=true;simpa using this
 | _=>(simp only[AV.conc]at h;exact Rh h 10000)
def MZ{γ:Gh}{w:World}{b:Nat}{es es':Array MapEntry}{clock clock':Nat}(h:w.heap[b]?=some (.map es clock)):
  U9 (λc=>c=b) γ w γ { w with heap:=w.heap.setIfInBounds b (.map es' clock') }/\({ w with heap:=w.heap.setIfInBounds b (.map es' clock') }:World).heap[b]?=some (.map es' clock'):=by
 have v:b<w.heap.size:=(TQ.1 h).1;have j:∀c,c≠b->(w.heap.setIfInBounds b (.map es' clock'))[c]?=w.heap[c]?:=λc f=>by rw[Array.getElem?_setIfInBounds_ne (Ne.symm f)]
 have p:(w.heap.setIfInBounds b (.map es' clock'))[b]?=some (.map es' clock'):=by simp[v]
 refine⟨⟨⟨by simp,λc o A f z=>⟨z,?_⟩,λc arr E fr f=>?_⟩,rfl,rfl,λa _=>?_,λc f y=>⟨rfl,j c y⟩⟩,p⟩
 ·have g:c≠b:=λe=>by subst e;simp[World.cell?,h]at f
  simp only[World.cell?]at f ⊢;rw[j c g];exact f
 ·have g:c≠b:=λe=>by subst e;rw[h]at f;simp at f
  exact⟨arr,(j c g).trans f,rfl⟩
 ·by_cases g:a.block=b
  ·simp only[World.frozen?,g,p,h]
  ·simp only[World.frozen?,j _ g]
def zh5{P:Program}{o:Oper}{t key elem:TypeId}{m k x:Operand}{ad ac x':yY}{aq:KT}{d:TypeDesc}(ho:o.op=.mapUpdate t m k x∨o.op=.insert t m k x)(a2:yG m ad=true)(a0:yG k ac=true)(a9:yG x x'=true)(ap:P.underlying t=some (.map key elem))(al:SH P key aq=true)(ay:P.underlying key=some d):Pm P o (.mup aq ad ac x'):=by
 intro γ w H ρ a bc KP next Q h Z z am bd
 simp only[TZ,XQ.cls,eff]at z;have ae:=zP a2 h;have au:=zP a0 h;have av:=zP a9 h;cases a8:ad.ev ρ<;>simp only[a8]at z ae<;>try (exact False.elim z)
 rename_i b;cases y:H b with
 | none=>simp[y]at z
 | some ba =>
  cases ba<;>simp only[y]at z<;>try (exact False.elim z)
  rename_i ar I;obtain⟨rfl,A,O⟩:=z;have ah:=λempty=>P7 (P:=P) al A au empty;have J:=Lk A au;generalize a7:a.eval m=be at ae;cases ae;cases Z b _ y with
  | map _ _ g clock W aj U L G =>
   have C:=Rn (P:=P) (w:=w) (γ:=γ) ay al A J I g L W G;have an:(getObj b).run P w=.ok (.map g.toArray clock) w:=by simp[getObj,Sem.run,U]
   have ao:∀es' clock',(setObj b (.map es' clock')).run P w=.ok () { w with heap:=w.heap.setIfInBounds b (.map es' clock') }:=λes' clock'=>by simp[setObj,Sem.run,U]
   have ai:∀w',(Instr.mapUpdate t (.map (some b)) (a.eval k) (a.eval x)).run P w=.ok () w'->(execOp a.eval o).run P w=.ok .skip w':=by intro w' G;rcases ho with ho|ho<;>simp[execOp,ho,a7,G]
   cases X:Up I (ac.ev ρ)with
   | none =>
    rw[X]at C;simp only[Option.map_none]at C;rw[(QF X).2]at O;have Y:(Instr.mapUpdate t (.map (some b)) (a.eval k) (a.eval x)).run P w=.ok () { w with heap:=w.heap.setIfInBounds b (.map (g++[(⟨a.eval k,a.eval x,clock⟩:MapEntry)]).toArray (clock+1)) }:=by simp[Instr.mapUpdate,run_underlying ap,an,ah,C,ao]
    obtain⟨p,aa⟩:=MZ (γ:=γ) (es':=(g++[(⟨a.eval k,a.eval x,clock⟩:MapEntry)]).toArray) (clock':=clock+1) U;refine Pe (ai _ Y) (am _ _ _ _ _ (p.weaken λc e=>by subst e;simp[keysOf,y]) (Vw Z p (.map ar _ _ _ (λj f=>?_) aj aa (by simp[L]) (λi j e f h=>?_))) (Vi (by simp[y])) (.tup [] [] rfl (by simp)) O)
    ·rcases List.mem_append.1 f with v|v
     ·exact W j v
     ·simp at v;subst v;exact A
    ·rcases Nat.lt_or_ge i I.length with hi|hi
     ·rw[SA hi]at f;rw[SA (by omega)]at h;exact(G i j e f h).mono p.mono
     ·rw[Ow hi]at f;rw[Ow (by omega),<-L]at h;cases ak:i-I.length with
      | zero=>rw[ak]at f h;simp at f h;subst f;subst h;exact⟨J,av.mono p.mono⟩
      | succ M=>rw[ak]at f;simp at f
   | some i =>
    obtain⟨j,ab,_,a5,a4⟩:=QV X;rw[X]at C;simp only[VF]at C;rw[a4]at O;have hi:i<g.length:=by rw[<-L];exact(Vj.1 ab).1
    have ag:g[i]?=some g[i]:=Qh hi;have a1:g[i].key=a.eval k:=by have ax:=(G i j _ ab ag).key;have af:=zj5 A (W j (List.mem_of_getElem? ab)) a5;rw[J,ax]at af;exact(Option.some.inj af).symm
    have a6:(Instr.keyThatStays (((g.toArray[i]?).map (·.key)).getD (a.eval k)) (a.eval k)).run P w=.ok (a.eval k) w:=by
     have aw:((g.toArray[i]?).map (·.key)).getD (a.eval k)=a.eval k:=by simp[ag,a1]
     rw[aw];simp[Instr.keyThatStays,Lx J]
    have a3:(g.toArray.modify i λe=>{ e with key:=a.eval k,val:=a.eval x })=(g.set i { g[i]with key:=a.eval k,val:=a.eval x }).toArray:=by
     apply Array.ext';apply List.ext_getElem?;intro M;simp only[Array.getElem?_toList,Array.getElem?_modify,List.getElem?_set];by_cases K:i=M
     ·subst K;simp[hi]
     ·simp[K]
    have Y:(Instr.mapUpdate t (.map (some b)) (a.eval k) (a.eval x)).run P w=.ok () { w with heap:=w.heap.setIfInBounds b (.map (g.set i { g[i]with key:=a.eval k,val:=a.eval x }).toArray clock) }:=by simp only[Instr.mapUpdate,Sem.run_bind,run_underlying ap,Result.andThen_ok,an,ah,C,a6,a3,ao]
    obtain⟨p,aa⟩:=MZ (γ:=γ) (es':=(g.set i { g[i]with key:=a.eval k,val:=a.eval x }).toArray) (clock':=clock) U;refine Pe (ai _ Y) (am _ _ _ _ _ (p.weaken λc e=>by subst e;simp[keysOf,y]) (Vw Z p (.map ar _ _ _ (λj f=>?_) aj aa (by simp[L]) (λM j e f h=>?_))) (Vi (by simp[y])) (.tup [] [] rfl (by simp)) O)
    ·rcases List.mem_or_eq_of_mem_set f with v|v
     ·exact W j v
     ·rw[v];exact A
    ·rw[List.getElem?_set]at f h;by_cases K:i=M
     ·subst K;have az:i<I.length:=by omega
      simp only[if_true,hi,az,Y1]at f h;subst f;subst h;exact⟨J,av.mono p.mono⟩
     ·simp only[K,if_false]at f h;exact(G M j e f h).mono p.mono
def zaF(zero:List AV)(n:Nat):(Ta zero n).length=n*zero.length:=by
 induction n with
 | zero=>simp[Ta]
 | succ n f=>simp only[Ta,ZX,f,Nat.succ_mul];omega
def zgI(zero:List AV)(n i:Nat)(h:i<n*zero.length):(Ta zero n)[i]?=zero[i % zero.length]?:=by
 induction n generalizing i with
 | zero=>simp at h
 | succ n f =>
  simp only[Ta];rcases Nat.lt_or_ge i zero.length with hi|hi
  ·rw[SA hi,Nat.mod_eq_of_lt hi]
  ·rw[Ow hi,f _ (by rw[Nat.succ_mul]at h;omega)]
   congr 1
   exact(Nat.mod_eq_sub_mod hi).symm
def Qy(f:Array Value)(n i:Nat)(h:i<n)(g:i % f.size<f.size):(madeCells f n).toList[i]?=f.toList[i % f.size]?:=by simp only[madeCells,Array.toList_map,Array.toList_range,W5,List.getElem?_range h,VF];rw[Array.getElem?_toList,Array.getElem?_eq_getElem g];simp[g]
def zjy{γ:Gh}{w:World}{zero:List AV}{f:Value}(C:Vs f.cells.toList zero=true)(A:0<f.cells.size)(k:Nat):zN γ w (Ta zero k) (Builtin.zeroCells f.cells k).toList:=by
 have hf:=U7 (γ:=γ) (w:=w) C;have p:zero.length=f.cells.size:=by rw[hf.1];simp
 have z:Builtin.zeroCells f.cells k=madeCells f.cells (k*f.cells.size):=rfl;have y:∀g,g % f.cells.size<f.cells.size:=λg=>Nat.mod_lt _ A;rw[z];refine⟨by rw[zaF,p,Array.length_toList,size_madeCells],λg G h=>?_,λg d G v h=>?_⟩
 ·have j:g<k*f.cells.size:=by have:=(Vj.1 h).1;rw[Array.length_toList,size_madeCells]at this;exact this
  rw[Qy _ _ _ j (y g)]at h;exact hf.2.1 _ _ h
 ·have j:g<k*f.cells.size:=by have:=(Vj.1 h).1;rw[Array.length_toList,size_madeCells]at this;exact this
  rw[Qy _ _ _ j (y g)]at h;rw[zgI _ _ _ (by rw[p];exact j),p]at v;exact hf.2.2 _ _ _ v h
def zN.mono{γ γ':Gh}{w w':World}(m:Rf γ w γ' w'){f:List AV}{vs:List Value}(h:zN γ w f vs):zN γ' w' f vs:=⟨h.1,h.2.1,λi c p g j=>(h.2.2 i c p g j).mono m⟩
def zmF{P:Program}{o:Oper}{t M e bc:TypeId}{x y:Operand}{x' av:yY}{i:TypeInfo}{X:Value}{sz bytes:Nat}{zero:List AV}(ho:o.op=.call { callee:=.builtin .append,args:=#[x,y],argTypes:=#[t,M] })(h:yG x x'=true)(bd:yG y av=true)(aq:P.underlying t=some (.slice e))(br:P.underlying M=some (.slice bc))(hi:P.info? e=some i)(bw:i.zero=some X)(hsz:i.size=sz)(bg:i.bytes=bytes)(b8:X.cells.size=sz)(b4:0<sz)(bx:Vs X.cells.toList zero=true):Pm P o (.appm sz bytes zero x' av):=by
 intro γ w H ρ a a9 KP next Q az ab G al bp
 simp only[TZ,XQ.cls,eff]at G;have ac:=zP h az;have a8:=zP bd az;cases bv:av.ev ρ<;>rw[bv]at G a8<;>try (exact False.elim G)
 rename_i own' p g;obtain⟨rfl,b7,G⟩:=G;obtain⟨news,a6,bl,b6⟩:=Lj (P:=P) br a8;have a4:zN γ w (g.flatten.map AV.strip1) news:=Sa bl;have bn:news.length=g.length*p:=by rw[a6.newsLen]
 have ap:Src P i.size M (a.eval y) g.length news w:=by rw[hsz];exact a6
 have aj:∀O r w',a.eval x=O->(Builtin.append_ #[t,M] o.type #[O,a.eval y]).run P w=.ok r w'->(execOp a.eval o).run P w=.ok (.value r) w':=λO r w' C v=>by rw[<-C]at v;simp[execOp,ho,resolve,invoke,builtin,v]
 have grown:∀(base:Option Addr) (f cap:Nat) (os:List AV) (L:List Value),a.eval x=.slice base f cap->(Builtin.firstCells i.size f (.slice base f cap)).run P w.drew=.ok L.toArray w.drew ->
   zN γ w os L->L.length=f*p->cap<f+g.length->(f+g.length)*bytes<=140737488355328->f+g.length<=maxLen ->
   (∀Y A,H Y=none->f+g.length<=A->A<=maxLen->a9 (.ms Y 0 (f+g.length) A) (H.upd Y (.cells (os++g.flatten.map AV.strip1++Ta zero (A-(f+g.length))))))->o.wp P a w next Q:=by
  intro base f cap os L C hold hfr b3 af aa W ae;have v:=run_append_grow_src (P:=P) w t M o.type e i X aq hi bw base f cap L hold (a.eval y) g.length news ap af (by simp only[maxLen]at W;omega) (growslice_fits af (by rw[bg];exact aa));rw[<-C]at v;generalize ay:grownCap w (f+g.length) cap e=A at v;have a0:f+g.length<=A:=ay▸grownCap_ge w _ cap e;have a2:A<=maxLen:=ay▸grownCap_le_maxLen w _ cap e W;generalize ai:(L++news).toArray++Builtin.zeroCells X.cells (A-(f+g.length))=arr at v;have K:U9 (λ_=>False) γ w (λb=>if b=w.heap.size then .own else γ b) (w.drew.alloc (.cells arr e)) :=(Wh (λ_=>False) γ w).trans (X5 (λ_=>False) γ w.drew .own arr e) (λ_ _ ah=>ah);have a3:(w.drew.alloc (.cells arr e)).heap[w.heap.size]?=some (.cells arr e (0,0)):=heap_alloc_new w.drew _;have am:zN (λb=>if b=w.heap.size then .own else γ b) (w.drew.alloc (.cells arr e)) (os++g.flatten.map AV.strip1++Ta zero (A-(f+g.length))) arr.toList:=by
   have ba:arr.toList=(L++news)++(Builtin.zeroCells X.cells (A-(f+g.length))).toList:=by rw[<-ai];simp
   rw[ba];exact zN.append (zN.mono K.mono (zN.append hfr a4)) (zjy bx (by omega) _)
  refine ZD (aj _ _ _ rfl v) (al _ _ _ _ _ (K.weaken λ_ ah=>ah.elim) (W3 (F:=λ_=>False) ab K (.cells _ arr.toList e (by simp) (by simpa using a3) am.1 am.2.1 am.2.2)) Y4 ?_ (ae _ _ (Xu ab) a0 a2));exact .ms _ 0 _ _ (TQ.1 a3).1 a0 a2
 cases bu:x'.ev ρ<;>simp only[bu]at G ac<;>try (exact False.elim G)
 ·rename_i own b9 ca;cases own<;>try (exact False.elim G)
  obtain⟨rfl,rfl,aa,W,be,bf⟩:=G;generalize C:a.eval x=O at ac;cases ac with
  | sl _ _ _ b z _ cv I ag b5 b2 v ho=>exact ho.elim
  | sl0 _ _ _ ho=>simp at ho
  | slnil _ _ _ =>
   by_cases ar:g=[]
   ·subst ar;have v:=Uj (P:=P) t M o.type e i aq hi (a.eval y) news ap;exact ZD (aj _ _ _ C v) (al γ w H _ _ (.refl _ _ _) ab (ZL.refl _ _) (.slnil .nil _ (by simp)) (be rfl))
   ·have bp:0<g.length:=List.length_pos_iff.2 ar;refine grown none 0 0 [] [] C (run_firstCells_none _ _ _ _ _) ⟨rfl,by simp,by simp⟩ (by simp) (by omega) (by simpa using aa) (by simpa using W) λY A J I ag=>?_;have:=bf ar Y A J (by omega) ag;simpa using this
 ·rename_i b z f cap;obtain⟨aa,W,Z⟩:=G;cases J:H b with
  | none=>simp[J]at Z
  | some bz =>
   cases bz<;>simp only[J]at Z<;>try (exact False.elim Z)
   rename_i aw;generalize C:a.eval x=O at ac;cases ac with
   | ms _ _ _ _ af I ag =>
    cases ab b _ J with
    | cells _ U E ae ad a1 a5 v =>
     by_cases an:f+g.length<=cap
     ·obtain⟨bh,ak⟩:=Z.1 an;have b1:(f+g.length)*p=f*p+g.length*p:=Nat.add_mul _ _ _;have ao:=Rd (P:=P) t M o.type e i aq hi b z f cap U.toArray E ad (a.eval y) g.length news ap an (by rw[hsz,bn];simp;omega);rw[hsz]at ao;generalize ai:(U.toArray.toList.take (z+f*p)++news++U.toArray.toList.drop (z+f*p+news.length))=au at ao;have ax:U.take (z+f*p)++news++U.drop (z+f*p+news.length)=au:=by rw[<-ai]
      have K:U9 (λc=>c=b) γ w γ (w.setRow b au.toArray) :=WY ad (by rw[<-ax];simp;omega) rfl (λq bq=>by simp[V0,ae]at bq) (λ_ _=>rfl);have hf:zN γ w (splice aw (z+f*p) (g.flatten.map AV.strip1)) au:=by rw[<-ax];exact zN.splice ⟨a1,a5,v⟩ a4 _
      exact ZD (aj _ _ _ C ao) (al γ _ _ _ _ (K.weaken λc e=>by subst e;simp[keysOf,J]) (Vw ab K (.cells _ _ E ae (Vz w b _ _ E _ ad) hf.1 hf.2.1 λi c O I C=>(hf.2.2 i c O I C).mono K.mono)) (Vi (by simp[J])) (.ms b z _ cap (by simpa using af) an ag) ak)
     ·obtain⟨bh,ak⟩:=Z.2 (by omega);have hlen:((U.drop z).take (f*p)).length=f*p:=by simp;omega
      refine grown (some ⟨b,z,none⟩) f cap ((aw.drop z).take (f*p)) ((U.drop z).take (f*p)) C ?_ ?_ hlen (by omega) aa W ak
      ·refine run_firstCells_some w.drew i.size f ⟨b,z,none⟩ f cap _ (by rw[hsz];exact hlen) λa7 u j=>?_;rw[addr_add,cell_of_row w.drew b _ _ E _ ad];rw[zaV]at j;split at j
       ·rw[List.getElem?_drop]at j;simpa using j
       ·cases j
      ·refine⟨by simp[a1],λa7 u j=>?_,λa7 c u I j=>?_⟩
       ·rw[zaV]at j;split at j
        ·rw[List.getElem?_drop]at j;exact a5 _ _ j
        ·cases j
       ·rw[zaV]at j I;split at j
        ·rename_i bj;rw[if_pos bj]at I;rw[List.getElem?_drop]at j I;exact v _ _ _ I j
        ·cases j
def znf{P:Program}{o:Oper}{t e:TypeId}{n sz:Nat}{y:Array (Nat×Operand)}{K:List (Nat×yY)}{zero:List AV}{z:TypeInfo}{f:Value}(ho:o.op=.buildSlice t n y)(al:P.underlying t=some (.slice e))(hi:P.info? e=some z)(ac:z.zero=some f)(hsz:z.size=sz)(A:0<sz)(az:n*sz<=2 ^ 24)(aq:Vs f.cells.toList zero=true)(ag:Wo y.toList K=true):Pm P o (.blsm sz n zero K):=by
 intro γ w H ρ a av KP next Q ae C h p ay
 simp only[TZ,XQ.cls,X8,Z9]at h;by_cases I:zero.length=sz
 case neg=>simp only[I,if_false]at h;exact(Pd C h).elim
 simp only[I,if_true]at h;cases hf:y7 AV.strip1 ρ sz (List.replicate n zero) K with
 | none=>simp only[hf,Option.map_none]at h;exact(Pd C h).elim
 | some au =>
  simp only[hf,VF]at h;obtain⟨an,ao,ap⟩:=TV aq γ w;have ab:∀x∈List.replicate n zero,x.length=sz:=λx am=>by rw[(List.mem_replicate.1 am).2];exact I
  have Y:(List.replicate n zero).flatten.length=n*sz:=by rw[Yn sz _ ab];simp
  have J:f.cells.size=sz:=by have:=an;simp at this;omega
  have aj:zN γ w (List.replicate n zero).flatten ((List.range (n*sz)).map (λk=>f.cells.toList.getD (k % sz) undef)):=by
   refine⟨by simp[Y],λi ar v=>?_,λi c ar X v=>?_⟩
   ·simp only[W5,SV]at v;obtain⟨k,_,rfl⟩:=v;have j:k % sz<f.cells.toList.length:=by simp[J];exact Nat.mod_lt _ A
    exact ao (k % sz) _ (by rw[List.getD,Qh j];rfl)
   ·simp only[W5,SV]at v;obtain⟨k,Z,rfl⟩:=v;obtain⟨U,W⟩:=Vj.1 Z;simp at U W;subst W;rw[Tk zero n i (by rw[Y];exact U),I]at X;have j:i % sz<f.cells.toList.length:=by simp[J];exact Nat.mod_lt _ A
    exact ap (i % sz) c _ X (by rw[List.getD,Qh j];rfl)
  obtain⟨us,G,ah,a0,aw⟩:=Om Sa ae y.toList K _ _ au ag hf ab aj;have L:=X5 (λ_=>False) γ w .own us.toArray e;have ad:∀g:Nat->Value,((List.range (n*sz)).map g).toArray=(Array.range (n*sz)).map g:=λg=>by apply Array.ext';simp
  have ai:(execOp a.eval o).run P w=.ok (.value (.slice (some ⟨w.heap.size,0,none⟩) n n)) (w.alloc (.cells us.toArray e)):=by
   have ak:(Array.range (n*sz)).map (f.cells[· % f.cells.size]!)=((List.range (n*sz)).map (λk=>f.cells.toList.getD (k % sz) undef)).toArray:=by
    rw[ad];apply Array.map_congr_left;intro k Z;have j:k % sz<f.cells.size:=by rw[J];exact Nat.mod_lt _ A
    rw[J];simp[List.getD,j]
   have ax:(y.map λ(x:Nat×Operand)=>(x.1,a.eval x.2)).toList=y.toList.map λ(i,x)=>(i,a.eval x):=by simp
   have aa:¬ n*z.size > 2 ^ 24:=by rw[hsz];omega
   simp only[execOp,ho,Instr.buildSlice,Sem.run_bind,run_underlying al,Result.andThen_ok,sizeOf,typeInfo,run_program,hi,Sem.run_pure,hsz,zeroValue,ac];rw[hsz]at aa;rw[<-ak]at G;by_cases p:n*sz=0
   ·have O:∀g:Nat->Value,(Array.range 0).map g=#[]:=λg=>by apply Array.ext';simp
    rw[p,O]at G;simp[p,O,G,newRow]
   ·simp[p,aa,G,newRow,zeroValue,typeInfo,hi,ac]
  have af:n<=maxLen:=by have:n*1<=n*sz:=Nat.mul_le_mul_left _ A;unfold maxLen;omega
  have M:=zN.mono L.mono ah;exact ZD ai (p _ _ _ _ _ (L.weaken λ_ g=>g.elim) (W3 (F:=λ_=>False) C L (.cells _ us e (by simp) (heap_alloc_new w _) M.1 M.2.1 M.2.2)) Y4 (.ms _ 0 n n (by simp) (ZG _) af) (h _ (Xu C)))
def W2(P:Program)(t:TypeId):Option TypeInfo :=
 match P.underlying t with
 | some (.slice e)=>P.info? e
 | _=>none
def Yk(P:Program)(o:Oper):XQ->Bool
 | .mv y=>match o.op with
  | .move x=>yG x y
  | .assign x=>yG x y
  | _=>false
 | .pick a b c=>match o.op with
  | .pick x y j=>yG x a&&yG y b&&yG j c
  | _=>false
 | .nilchk y=>match o.op with
  | .nilCheck x=>yG x y
  | _=>false
 | .bi op k a b=>match o.op with
  | .binOp op' _ x y _=>decide (op'=op)&&decide (op≠.shl)&&decide (op≠.shr)&&yG x a&&yG y b
  | _=>false
 | .shf op a b=>match o.op with
  | .binOp op' _ x y _=>decide (op'=op)&&yG x a&&yG y b
  | _=>false
 | .bs op a b=>match o.op with
  | .binOp op' _ x y _=>decide (op'=op)&&yG x a&&yG y b
  | _=>false
 | .bb neg a b=>match o.op with
  | .binOp op' t x y _=>decide (op'=if neg then .neq else .eql)&&yG x a&&yG y b&&(match P.underlying t with|some .bool=>true|_=>false)
  | _=>false
 | .eqa neg ks a b=>match o.op with
  | .binOp op' t x y _=>decide (op'=if neg then .neq else .eql)&&yG x a&&yG y b&&(match P.underlying t with|some (.struct fs)=>UV P fs.toList 0 ks|_=>false)&&!P.stoodInHeld t&&!P.eqGuardType P.depth t
  | _=>false
 | .ifnil neg a=>match o.op with
  | .binOp op' t x y _=>decide (op'=if neg then .neq else .eql)&&yG x a&&(match y with|.const .nilIface=>true|_=>false)&&isIface (P.underlying t)
  | _=>false
 | .ineg a=>match o.op with
  | .unOp .neg _ x=>yG x a
  | _=>false
 | .not a=>match o.op with
  | .unOp .not _ x=>yG x a
  | _=>false
 | .cvi k a=>match o.op with
  | .convert s d x=>yG x a&&(P.underlying s).isSome&&(match P.underlying d with|some (.int k')=>decide (k'=k)|_=>false)
  | _=>false
 | .bld zero qs=>match o.op with
  | .build t parts=>((P.info? t).any λz=>z.zero.any λj=>Vs j.cells.toList zero)&&((zba P t).any λplace=>U5 place parts.toList qs)
  | _=>false
 | .bls sz n zero qs=>match o.op with
  | .buildSlice t n' parts=>decide (n'=n)&&((W2 P t).any λf=>decide (f.size=sz)&&f.zero.any λj=>Vs j.cells.toList zero)&&decide (0<sz)&&decide (n*sz<=2 ^ 24)&&Wo parts.toList qs
  | _=>false
 | .mkfn p first caps=>match o.op with
  | .makeFunc (.func f') a b=>decide (f'=p)&&W7 a.toList first&&W7 b.toList caps
  | _=>false
 | .ext a i=>match o.op with
  | .extract x i'=>decide (i'=i)&&yG x a
  | _=>false
 | .fa off a=>match o.op with
  | .fieldAddr s x i=>yG x a&&(match P.underlying s with
    | some (.struct fs)=>(fs[i]?.any λp=>decide (p.offset=off)&&(P.info? p.type).any λA=>decide (A.size≠0))
    | _=>false)
  | _=>false
 | .ia sz a i=>match o.op with
  | .indexAddr t x y=>yG x a&&yG y i&&((W2 P t).any λf=>decide (f.size=sz))
  | _=>false
 | .ixs a i=>match o.op with
  | .index t x y=>yG x a&&yG y i&&(match P.underlying t with|some .string=>true|_=>false)
  | _=>false
 | .sls a lo hi=>match o.op with
  | .slice t x l h none=>yG x a&&Tb l lo&&Tb h hi&&(match P.underlying t with|some .string=>true|_=>false)
  | _=>false
 | .sll sz a lo hi mx=>match o.op with
  | .slice t x l h m=>yG x a&&Tb l lo&&Tb h hi&&Tb m mx&&(!mx.isSome||hi.isSome)&&((W2 P t).any λf=>decide (f.size=sz))
  | _=>false
 | .len a=>match o.op with
  | .call { callee:=.builtin .len,args:=as,argTypes:=ts }=>match as.toList with
   | [x]=>yG x a&&(ts[0]?.any λt=>match P.underlying t with|some (.slice _)=>true|_=>false)
   | _=>false
  | _=>false
 | .lens a=>match o.op with
  | .call { callee:=.builtin .len,args:=as,argTypes:=ts }=>match as.toList with
   | [x]=>yG x a&&(ts[0]?.any λt=>match P.underlying t with|some .string=>true|_=>false)
   | _=>false
  | _=>false
 | .mm mx a ys=>match o.op with
  | .call { callee:=.builtin b,args:=args,argTypes:=_ }=>decide (b=if mx then .max else .min)&&(match args.toList with|x::r=>yG x a&&W7 r ys|[]=>false)
  | _=>false
 | .boxv a=>match o.op with
  | .box _ x=>yG x a
  | _=>false
 | .ld n ag a=>match o.op with
  | .load t x=>yG x a&&((P.info? t).any λz=>decide (z.size=n))&&(P.underlying t).isSome&&decide (OG (P.underlying t)=ag)&&(ag||decide (n=1))
  | _=>false
 | .lkp kt zero ok m k=>match o.op with
  | .lookup t m' k' ok'=>decide (ok'=ok)&&yG m' m&&yG k' k&&(match P.underlying t with
    | some (.map key elem)=>SH P key kt&&(P.underlying key).isSome&&((P.info? elem).any λf=>f.zero.any λj=>zkx j zero)
    | _=>false)
  | _=>false
 | .alloc zero=>match o.op with
  | .alloc t=>((P.info? t).any λz=>z.zero.any λj=>Vs j.cells.toList zero)
  | _=>false
 | .box a=>match o.op with
  | .box _ x=>yG x a
  | _=>false
 | .mkm _=>match o.op with
  | .makeMap _ none=>true
  | _=>false
 | .st n a b=>match o.op with
  | .store t x y=>yG x a&&yG y b&&((P.info? t).any λz=>decide (z.size=n))
  | _=>false
 | .mup kt m k v=>match o.op with
  | .mapUpdate t m' k' v'=>yG m' m&&yG k' k&&yG v' v&&(match P.underlying t with|some (.map key _)=>SH P key kt&&(P.underlying key).isSome|_=>false)
  | .insert t m' k' v'=>yG m' m&&yG k' k&&yG v' v&&(match P.underlying t with|some (.map key _)=>SH P key kt&&(P.underlying key).isSome|_=>false)
  | _=>false
 | .app sz bytes a b=>match o.op with
  | .call { callee:=.builtin .append,args:=as,argTypes:=ts }=>match as.toList,ts.toList with
   | [x,y],[t,tx]=>yG x a&&yG y b&&((W2 P t).any λf=>decide (f.size=sz)&&decide (f.bytes=bytes)&&f.zero.any λj=>decide (j.cells.size=sz))&&decide (0<sz)&&(match P.underlying tx with|some (.slice _)=>true|_=>false)
   | _,_=>false
  | _=>false
 | .appm sz bytes zero a b=>match o.op with
  | .call { callee:=.builtin .append,args:=as,argTypes:=ts }=>match as.toList,ts.toList with
   | [x,y],[t,tx]=>yG x a&&yG y b&&((W2 P t).any λf=>decide (f.size=sz)&&decide (f.bytes=bytes)&&f.zero.any λj=>decide (j.cells.size=sz)&&Vs j.cells.toList zero)&&decide (0<sz)&&(match P.underlying tx with|some (.slice _)=>true|_=>false)
   | _,_=>false
  | _=>false
 | .blsm sz n zero qs=>match o.op with
  | .buildSlice t n' parts=>decide (n'=n)&&((W2 P t).any λf=>decide (f.size=sz)&&f.zero.any λj=>Vs j.cells.toList zero)&&decide (0<sz)&&decide (n*sz<=2 ^ 24)&&Wo parts.toList qs
  | _=>false
 | .call p args=>match o.op with
  | .call { callee:=.value (.func f'),args:=as,argTypes:=_ }=>decide (f'=p)&&W7 as.toList args&&Program.callable P p
  | _=>false
 | .callv g args=>match o.op with
  | .call { callee:=.value g',args:=as,argTypes:=_ }=>yG g' g&&W7 as.toList args
  | _=>false
 | .pan a=>match o.op with
  | .panic x=>yG x a
  | _=>false
def XK{P:Program}{t:TypeId}{f:TypeInfo}(h:W2 P t=some f):∃e,P.underlying t=some (.slice e)/\P.info? e=some f:=by
 unfold W2 at h;split at h
 ·rename_i e g;exact⟨e,g,h⟩
 ·cases h
def any_some{α:Type}{x:Option α}{p:α->Bool}(h:x.any p=true):∃f,x=some f/\p f=true:=by
 cases x with
 | none=>simp at h
 | some f=>exact⟨f,rfl,by simpa using h⟩
def Oq{α:Type}{a:Array α}{l:List α}(h:a.toList=l):a=l.toArray:=by apply Array.ext';simpa using h
def zcL{P:Program}{o:Oper}{U:XQ}(h:Yk P o U=true):Pm P o U:=by
 cases U with
 | mv am =>
  simp only[Yk]at h;split at h
  ·rename_i ho;exact yD rfl (zn4 (.inl ho) h)
  ·rename_i ho;exact yD rfl (zn4 (.inr ho) h)
  ·cases h
 | pick a b c =>
  simp only[Yk]at h;split at h
  ·rename_i ho;simp only[yu]at h;exact yD rfl (zll ho h.1.1 h.1.2 h.2)
  ·cases h
 | nilchk am =>
  simp only[Yk]at h;split at h
  ·rename_i ho;exact yD rfl (zga ho h)
  ·cases h
 | bi op k a b =>
  simp only[Yk]at h;split at h
  ·rename_i ho;simp only[yu,Zh]at h;obtain⟨⟨⟨⟨rfl,g⟩,j⟩,f⟩,p⟩:=h;exact yD rfl (zrs ho f p g j)
  ·cases h
 | shf op a b =>
  simp only[Yk]at h;split at h
  ·rename_i ho;simp only[yu,Zh]at h;obtain⟨⟨rfl,f⟩,p⟩:=h;exact yD rfl (zqr ho f p)
  ·cases h
 | bs op a b =>
  simp only[Yk]at h;split at h
  ·rename_i ho;simp only[yu,Zh]at h;obtain⟨⟨rfl,f⟩,p⟩:=h;exact yD rfl (zqw ho f p)
  ·cases h
 | bb neg a b =>
  simp only[Yk]at h;split at h
  ·rename_i ho;simp only[yu,Zh]at h;obtain⟨⟨⟨g,f⟩,p⟩,v⟩:=h;split at v
   ·rename_i y;exact yD rfl (zrc ho f p g y)
   ·cases v
  ·cases h
 | eqa neg av a b =>
  simp only[Yk]at h;split at h
  ·rename_i ho;simp only[yu,Zh,Bool.not_eq_true']at h;obtain⟨⟨⟨⟨⟨g,f⟩,p⟩,v⟩,C⟩,G⟩:=h;split at v
   ·rename_i y;exact yD rfl (zpj ho f p g y v C G)
   ·cases v
  ·cases h
 | ifnil neg a =>
  simp only[Yk]at h;split at h
  ·rename_i ho;simp only[yu,Zh]at h;obtain⟨⟨⟨g,j⟩,f⟩,p⟩:=h;split at f
   ·exact yD rfl (zih ho g j rfl p)
   ·cases f
  ·cases h
 | ineg a =>
  simp only[Yk]at h;split at h
  ·rename_i ho;exact yD rfl (zmO ho h)
  ·cases h
 | not a =>
  simp only[Yk]at h;split at h
  ·rename_i ho;exact yD rfl (zp9 ho h)
  ·cases h
 | cvi k a =>
  simp only[Yk]at h;split at h
  ·rename_i ho;simp only[yu]at h;obtain⟨⟨g,j⟩,f⟩:=h;obtain⟨ds,ah⟩:=zcF.1 j;split at f
   ·rename_i J;simp only[Zh]at f;subst f;exact yD rfl (zph ho g ah J)
   ·cases f
  ·cases h
 | bld zero ae =>
  simp only[Yk]at h;split at h
  ·rename_i ho;simp only[yu]at h;obtain⟨g,j⟩:=h;obtain⟨ab,K,g⟩:=any_some g;obtain⟨M,A,g⟩:=any_some g;obtain⟨pl,ak,j⟩:=any_some j;exact yD rfl (zpM ho K A g ak j)
  ·cases h
 | bls O n zero ae =>
  simp only[Yk]at h;split at h
  ·rename_i ho;simp only[yu,Zh]at h;obtain⟨⟨⟨⟨rfl,g⟩,j⟩,f⟩,p⟩:=h;obtain⟨L,z,g⟩:=any_some g;simp only[yu,Zh]at g;obtain⟨g,v⟩:=g;obtain⟨M,A,v⟩:=any_some v;obtain⟨e,I,hi⟩:=XK z;exact yD rfl (zoL ho I hi A g j f v p)
  ·cases h
 | mkfn ac first ao =>
  simp only[Yk]at h;split at h
  ·rename_i ho;simp only[yu,Zh]at h;obtain⟨⟨rfl,g⟩,j⟩:=h;exact yD rfl (zlA ho g j)
  ·cases h
 | ext a i =>
  simp only[Yk]at h;split at h
  ·rename_i ho;simp only[yu,Zh]at h;obtain⟨rfl,g⟩:=h;exact yD rfl (zoC ho g)
  ·cases h
 | fa aw a =>
  simp only[Yk]at h;split at h
  ·rename_i ho;simp only[yu]at h;obtain⟨g,j⟩:=h;split at j
   ·rename_i aq aj;obtain⟨ac,hf,j⟩:=any_some j;simp only[yu,Zh]at j;obtain⟨j,f⟩:=j;obtain⟨ap,ai,f⟩:=any_some f;exact yD rfl (zrQ ho g aj hf j ai (by simpa using f))
   ·cases j
  ·cases h
 | ia O a i =>
  simp only[Yk]at h;split at h
  ·rename_i ho;simp only[yu]at h;obtain⟨⟨g,j⟩,f⟩:=h;obtain⟨L,z,f⟩:=any_some f;obtain⟨e,I,hi⟩:=XK z;exact yD rfl (zr2 ho g j I hi (by simpa using f))
  ·cases h
 | ixs a i =>
  simp only[Yk]at h;split at h
  ·rename_i ho;simp only[yu]at h;obtain⟨⟨g,j⟩,f⟩:=h;split at f
   ·rename_i y;exact yD rfl (zoc ho g j y)
   ·cases f
  ·cases h
 | sls a lo hi =>
  simp only[Yk]at h;split at h
  ·rename_i ho;simp only[yu]at h;obtain⟨⟨⟨g,j⟩,f⟩,p⟩:=h;split at p
   ·rename_i y;exact yD rfl (zpG ho g j f y)
   ·cases p
  ·cases h
 | sll O a lo hi al =>
  simp only[Yk]at h;split at h
  ·rename_i ho;simp only[yu,Uz,Bool.not_eq_true']at h;obtain⟨⟨⟨⟨⟨g,j⟩,f⟩,p⟩,v⟩,C⟩:=h;obtain⟨L,z,C⟩:=any_some C;obtain⟨e,I,hi⟩:=XK z;exact yD rfl (zov ho g j f p (λau=>by rcases v with v|v<;>simp_all) I hi (by simpa using C))
  ·cases h
 | len a =>
  simp only[Yk]at h;split at h
  ·rename_i ho;split at h
   ·rename_i W;simp only[yu]at h;obtain⟨g,j⟩:=h;obtain⟨t,y,j⟩:=any_some j;split at j
    ·rename_i aa;exact yD rfl (zoo (by rw[ho,Oq W]) y g aa)
    ·cases j
   ·cases h
  ·cases h
 | lens a =>
  simp only[Yk]at h;split at h
  ·rename_i ho;split at h
   ·rename_i W;simp only[yu]at h;obtain⟨g,j⟩:=h;obtain⟨t,y,j⟩:=any_some j;split at j
    ·rename_i aa;exact yD rfl (zl2 (by rw[ho,Oq W]) y g aa)
    ·cases j
   ·cases h
  ·cases h
 | mm al a ay =>
  simp only[Yk]at h;split at h
  ·rename_i ho;simp only[yu,Zh]at h;obtain⟨rfl,j⟩:=h;split at j
   ·rename_i ag;simp only[yu]at j;exact yD rfl (zrn ho ag j.1 j.2)
   ·cases j
  ·cases h
 | boxv a =>
  simp only[Yk]at h;split at h
  ·rename_i ho;exact yD rfl (zlq ho h)
  ·cases h
 | ld n an a =>
  simp only[Yk]at h;split at h
  ·rename_i ho;simp only[yu,Zh,Uz]at h;obtain⟨⟨⟨⟨g,f⟩,p⟩,v⟩,C⟩:=h;obtain⟨ab,K,f⟩:=any_some f;obtain⟨d,J⟩:=zcF.1 p;exact NS rfl (zn3 ho g K (by simpa using f) J v C)
  ·cases h
 | lkp ad zero ok m k =>
  simp only[Yk]at h;split at h
  ·rename_i ho;simp only[yu,Zh]at h;obtain⟨⟨⟨rfl,g⟩,j⟩,f⟩:=h;split at f
   ·rename_i y;simp only[yu]at f;obtain⟨⟨f,p⟩,v⟩:=f;obtain⟨d,J⟩:=zcF.1 p;obtain⟨L,z,v⟩:=any_some v;obtain⟨M,A,v⟩:=any_some v;exact NS rfl (zo6 ho g j y f J z A v)
   ·cases f
  ·cases h
 | alloc zero =>
  simp only[Yk]at h;split at h
  ·rename_i ho;obtain⟨ab,K,h⟩:=any_some h;obtain⟨M,A,h⟩:=any_some h;exact ziP ho K A h
  ·cases h
 | box a =>
  simp only[Yk]at h;split at h
  ·rename_i ho;exact zoh ho h
  ·cases h
 | mkm ad =>
  simp only[Yk]at h;split at h
  ·rename_i ho;exact zqo ho
  ·cases h
 | st n a b =>
  simp only[Yk]at h;split at h
  ·rename_i ho;simp only[yu]at h;obtain⟨⟨g,j⟩,f⟩:=h;obtain⟨ab,K,f⟩:=any_some f;exact zrz ho g j K (by simpa using f)
  ·cases h
 | mup ad m k ax =>
  simp only[Yk]at h;split at h
  ·rename_i ho;simp only[yu]at h;obtain⟨⟨⟨g,j⟩,f⟩,p⟩:=h;split at p
   ·rename_i y;simp only[yu]at p;obtain⟨d,J⟩:=zcF.1 p.2;exact zh5 (.inl ho) g j f y p.1 J
   ·cases p
  ·rename_i ho;simp only[yu]at h;obtain⟨⟨⟨g,j⟩,f⟩,p⟩:=h;split at p
   ·rename_i y;simp only[yu]at p;obtain⟨d,J⟩:=zcF.1 p.2;exact zh5 (.inr ho) g j f y p.1 J
   ·cases p
  ·cases h
 | blsm O n zero ae =>
  simp only[Yk]at h;split at h
  ·rename_i ho;simp only[yu,Zh]at h;obtain⟨⟨⟨⟨rfl,g⟩,j⟩,f⟩,p⟩:=h;obtain⟨L,z,g⟩:=any_some g;simp only[yu,Zh]at g;obtain⟨g,v⟩:=g;obtain⟨M,A,v⟩:=any_some v;obtain⟨e,I,hi⟩:=XK z;exact znf ho I hi A g j f v p
  ·cases h
 | appm O bytes zero a b =>
  simp only[Yk]at h;split at h
  ·rename_i ho;split at h
   ·rename_i X Y;simp only[yu,Zh]at h;obtain⟨⟨⟨⟨g,j⟩,f⟩,p⟩,v⟩:=h;obtain⟨L,z,f⟩:=any_some f;simp only[yu,Zh]at f;obtain⟨⟨f,C⟩,G⟩:=f;obtain⟨M,A,G⟩:=any_some G;simp only[yu,Zh]at G;obtain⟨e,I,hi⟩:=XK z;split at v
    ·rename_i Z;exact zmF (by rw[ho,Oq X,Oq Y]) g j I Z hi A f C G.1 p G.2
    ·cases v
   ·cases h
  ·cases h
 | app O bytes a b =>
  simp only[Yk]at h;split at h
  ·rename_i ho;split at h
   ·rename_i X Y;simp only[yu,Zh]at h;obtain⟨⟨⟨⟨g,j⟩,f⟩,p⟩,v⟩:=h;obtain⟨L,z,f⟩:=any_some f;simp only[yu,Zh]at f;obtain⟨⟨f,C⟩,G⟩:=f;obtain⟨M,A,G⟩:=any_some G;obtain⟨e,I,hi⟩:=XK z;split at v
    ·rename_i Z;exact zop (by rw[ho,Oq X,Oq Y]) g j I Z hi A f C (by simpa using G) p
    ·cases v
   ·cases h
  ·cases h
 | call ac af =>
  simp only[Yk]at h;split at h
  ·rename_i ho;simp only[yu,Zh]at h;obtain⟨⟨rfl,g⟩,j⟩:=h;exact zmY ho g j
  ·cases h
 | callv ar af =>
  simp only[Yk]at h;split at h
  ·rename_i ho;simp only[yu]at h;exact zjn ho h.1 h.2
  ·cases h
 | pan a =>
  simp only[Yk]at h;split at h
  ·rename_i ho;exact zoe ho h
  ·cases h
abbrev VQ:=Nat×Option (Nat×Bool)×XQ
structure yo where
 dst:Option Nat
 guard:Option (Nat×Bool)
 op:XQ
 chk:List Nat
def gv(g:Option (Nat×Bool))(ρ:Env):Option Bool :=
 match g with
 | none=>some true
 | some (s,want)=>match ρ s with
  | .bool b=>some (b==want)
  | .tup []=>some false
  | _=>none
def YZ(ρ:Env)(H:zd):List VQ->Prop
 | []=>True
 | (d,g,o)::r=>(gv g ρ=some true->rev ρ H o=some (ρ d))/\YZ ρ H r
def XJ(P:Program)(KP:AV->zd->Prop)(it:yo)(R:List VQ)(ρ:Env)(H:zd)(K:Env->zd->Prop):Prop :=
 match gv it.guard ρ with
 | some true=>TZ P KP it.op ρ H (λf H'=>YZ (ρ.set it.dst f) H' R/\K (ρ.set it.dst f) H')
 | some false=>K (ρ.set it.dst (.tup [])) H
 | none=>False
def Yt(P:Program)(KP:AV->zd->Prop):List (yo×List VQ)->Env->zd->(Env->zd->Prop)->Prop
 | [],ρ,H,K=>K ρ H
 | it::r,ρ,H,K=>XJ P KP it.1 it.2 ρ H (λf H'=>Yt P KP r f H' K)
def yY.slots:yY->List Nat
 | .t n=>[n]
 | .k _=>[]
def QO:Option yY->List Nat
 | some x=>x.slots
 | none=>[]
def XQ.looks:XQ->List Nat
 | .mv x|.nilchk x|.ifnil _ x|.ineg x|.not x|.cvi _ x|.ext x _|.fa _ x|.len x|.lens x|.boxv x|.ld _ _ x|.box x|.pan x=>x.slots
 | .pick a b c=>a.slots++b.slots++c.slots
 | .bi _ _ x y|.shf _ x y|.bs _ x y|.bb _ x y|.eqa _ _ x y|.ia _ x y|.ixs x y|.lkp _ _ _ x y|.st _ x y|.app _ _ x y|.appm _ _ _ x y=>x.slots++y.slots
 | .bld _ qs=>qs.flatMap λq=>q.2.2.slots
 | .bls _ _ _ qs|.blsm _ _ _ qs=>qs.flatMap λq=>q.2.slots
 | .mkfn _ a b=>a.flatMap yY.slots++b.flatMap yY.slots
 | .sls x lo hi=>x.slots++QO lo++QO hi
 | .sll _ x lo hi mx=>x.slots++QO lo++QO hi++QO mx
 | .mm _ x ys=>x.slots++ys.flatMap yY.slots
 | .alloc _|.mkm _=>[]
 | .mup _ a b c=>a.slots++b.slots++c.slots
 | .call _ args=>args.flatMap yY.slots
 | .callv g args=>g.slots++args.flatMap yY.slots
def Zn{ρ ρ':Env}{x:yY}(h:∀n∈x.slots,ρ n=ρ' n):x.ev ρ=x.ev ρ':=by
 cases x with
 | t n=>exact h n (by simp[yY.slots])
 | k c=>rfl
def TM{ρ ρ':Env}:∀ {xs:List yY},(∀n∈xs.flatMap yY.slots,ρ n=ρ' n)->xs.map (yY.ev ρ)=xs.map (yY.ev ρ')
 | [],_=>rfl
 | x::xs,h=>by simp only[List.flatMap_cons,List.mem_append]at h;simp only[List.map_cons,Zn (λn f=>h n (.inl f)),TM (λn f=>h n (.inr f))]
def Nd{ρ ρ':Env}:∀ {f:List (Nat×Nat×yY)} {g:List AV},(∀n∈f.flatMap (λq=>q.2.2.slots),ρ n=ρ' n)->Zb ρ g f=Zb ρ' g f
 | [],_,_=>rfl
 | (off,n,x)::f,g,h=>by simp only[List.flatMap_cons,List.mem_append]at h;simp only[Zb,Zn (λn j=>h n (.inl j)),Nd (λn j=>h n (.inr j))]
def Rx{S:AV->AV}{ρ ρ':Env}{sz:Nat}:∀ {f:List (Nat×yY)} {g:List (List AV)},(∀n∈f.flatMap (λq=>q.2.slots),ρ n=ρ' n)->y7 S ρ sz g f=y7 S ρ' sz g f
 | [],_,_=>rfl
 | (i,x)::f,g,h=>by simp only[List.flatMap_cons,List.mem_append]at h;simp only[y7,Zn (λn j=>h n (.inl j)),Rx (λn j=>h n (.inr j))]
def Nf{ρ ρ':Env}{mx:Bool}{k:IntKind}:∀ {f:List yY} {a:Int},(∀n∈f.flatMap yY.slots,ρ n=ρ' n)->Zc mx k ρ a f=Zc mx k ρ' a f
 | [],_,_=>rfl
 | y::f,a,h=>by
  simp only[List.flatMap_cons,List.mem_append]at h;simp only[Zc,Zn (λn g=>h n (.inl g))];split
  ·rw[Nf (λn g=>h n (.inr g))]
  ·rfl
def To{ρ ρ':Env}{d:Nat}{x:Option yY}(h:∀n∈QO x,ρ n=ρ' n):bound d ρ x=bound d ρ' x:=by
 cases x with
 | none=>rfl
 | some f=>simp only[bound,Zn (x:=f) h]
def LV{ρ ρ':Env}{o:XQ}(h:∀n∈o.looks,ρ n=ρ' n):Yy ρ o=Yy ρ' o:=by
 cases o<;>simp only[XQ.looks,List.mem_append]at h<;>simp only[Yy]
 case pick a b c=>rw[Zn (x:=a) (λn g=>h n (.inl (.inl g))),Zn (x:=b) (λn g=>h n (.inl (.inr g))),Zn (x:=c) (λn g=>h n (.inr g))]
 case bld z qs=>rw[Nd h]
 case bls a b z qs=>rw[Rx h]
 case mkfn f a b=>rw[TM (λn g=>h n (.inl g)),TM (λn g=>h n (.inr g))]
 case sls x lo hi=>rw[Zn (x:=x) (λn g=>h n (.inl (.inl g))),To (x:=lo) (λn g=>h n (.inl (.inr g)))];simp only[To (x:=hi) (λn g=>h n (.inr g))]
 case sll s x lo hi mx =>
  rw[Zn (x:=x) (λn g=>h n (.inl (.inl (.inl g)))),To (x:=lo) (λn g=>h n (.inl (.inl (.inr g))))];simp only[To (x:=hi) (λn g=>h n (.inl (.inr g)))];cases mx with
  | none =>
   split
   ·rename_i o1 A v _;generalize bound 0 ρ' lo=j;generalize bound v.length ρ' hi=p;cases j<;>cases p<;>rfl
   ·rfl
   ·rfl
  | some m =>
   have y:=Zn (x:=m) (λn g=>h n (.inr (show n∈QO (some m) from g)));split
   ·rename_i o1 A v _;generalize bound 0 ρ' lo=j;generalize bound v.length ρ' hi=p;cases j<;>cases p<;>first|rfl|(show (match m.ev ρ with|.int _ m=>_|_=>_)=_;rw[y]<;>rfl)
   ·rfl
   ·rfl
 case mm mx x ys=>rw[Zn (x:=x) (λn g=>h n (.inl g))];simp only[Nf (λn g=>h n (.inr g))]
 all_goals first
  | rfl
  | (rw[Zn h];done)
  | (rename_i x C;rw[Zn (x:=x) (λn g=>h n (.inl g)),Zn (x:=C) (λn g=>h n (.inr g))];done)
def TR{ρ ρ':Env}{H:zd}{o:XQ}(h:∀n∈o.looks,ρ n=ρ' n):rev ρ H o=rev ρ' H o:=by
 cases o<;>simp only[XQ.looks,List.mem_append]at h<;>simp only[rev]
 all_goals first
  | (rw[Zn h];done)
  | (rename_i x g;rw[Zn (x:=x) (λn f=>h n (.inl f)),Zn (x:=g) (λn f=>h n (.inr f))];done)
def Qa{ρ ρ':Env}{o:XQ}(h:∀n∈o.looks,ρ n=ρ' n):X8 ρ o=X8 ρ' o:=by
 cases o<;>simp only[XQ.looks,List.mem_append]at h<;>simp only[X8]
 case blsm a b z qs=>rw[Rx h]
 all_goals (rw[Zn h])
def T8{ρ ρ':Env}{b:Nat}{o:XQ}(h:∀n∈o.looks,ρ n=ρ' n):Z9 ρ b o=Z9 ρ' b o:=by
 cases o<;>simp only[XQ.looks,List.mem_append]at h<;>simp only[Z9]
 all_goals (rw[Zn h])
def KD{P:Program}{KP:AV->zd->Prop}{ρ ρ':Env}{H:zd}{K:AV->zd->Prop}{o:XQ}(h:∀n∈o.looks,ρ n=ρ' n):eff P KP ρ H K o=eff P KP ρ' H K o:=by
 cases o<;>simp only[XQ.looks,List.mem_append]at h<;>simp only[eff]
 case mup kt a b c=>rw[Zn (x:=a) (λn j=>h n (.inl (.inl j))),Zn (x:=b) (λn j=>h n (.inl (.inr j))),Zn (x:=c) (λn j=>h n (.inr j))]
 case call f args=>rw[TM h]
 case callv g args=>rw[Zn (x:=g) (λn j=>h n (.inl j)),TM (λn j=>h n (.inr j))]
 all_goals first
  | (rw[Zn h];done)
  | (rename_i x p;rw[Zn (x:=x) (λn j=>h n (.inl j)),Zn (x:=p) (λn j=>h n (.inr j))];done)
def zhb{P:Program}{KP:AV->zd->Prop}{ρ ρ':Env}{H:zd}{K:AV->zd->Prop}{o:XQ}(h:∀n∈o.looks,ρ n=ρ' n):TZ P KP o ρ H K=TZ P KP o ρ' H K:=by unfold TZ;rw[LV h,TR h,Qa h,KD h];simp only[T8 h]
def zY.monoEnd{P:Program}{f:FuncId}{args:List AV}{H:zd}{K g KP:AV->zd->Prop}(v:∀p H',K p H'->g p H')(h:zY P f args H (Xd K KP)):zY P f args H (Xd g KP) :=h.mono λr H' j=>by cases r<;>first|exact v _ _ j|exact j
def zgN{sz bytes:Nat}{x y:AV}{H:zd}{K p:AV->zd->Prop}(j:∀v H',K v H'->p v H')(h:zeq sz bytes x y H K):zeq sz bytes x y H p:=by
 cases x<;>try (exact False.elim h)
 cases y<;>try (exact False.elim h)
 rename_i o L O o2 M U;obtain⟨C,G,I,J,f⟩:=h;refine⟨C,G,I,J,?_⟩;cases o with
 | no=>exact f
 | nil=>exact⟨λe=>j _ _ (f.1 e),λe b g=>j _ _ (f.2 e b g)⟩
 | full=>exact⟨λe=>j _ _ (f.1 e),λe b g=>j _ _ (f.2 e b g)⟩
 | tip b d=>exact⟨f.1,λz A g=>j _ _ (f.2 z A g)⟩
def zdz{S:AV->AV}{sz bytes:Nat}{zero:List AV}{x y:AV}{H:zd}{K G:AV->zd->Prop}(p:∀I H',K I H'->G I H')(h:Kr S sz bytes zero x y H K):Kr S sz bytes zero x y H G:=by
 cases y<;>try (exact False.elim h)
 obtain⟨M,O,g⟩:=h;refine⟨M,O,?_⟩;cases x<;>try (exact False.elim g)
 ·rename_i o ac ad;cases o<;>try (exact False.elim g)
  obtain⟨v,z,f,U,W,X⟩:=g;exact⟨v,z,f,U,λe=>p _ _ (W e),λe b cap j A C=>p _ _ (X e b cap j A C)⟩
 ·rename_i b ab aa cap;obtain⟨v,z,f⟩:=g;refine⟨v,z,?_⟩;cases j:H b with
  | none=>simp[j]at f
  | some Z =>
   cases Z<;>simp only[j]at f ⊢<;>try (exact False.elim f)
   exact⟨λe=>⟨(f.1 e).1,p _ _ (f.1 e).2⟩,λe=>⟨(f.2 e).1,λJ L Y A C=>p _ _ ((f.2 e).2 J L Y A C)⟩⟩
def zbu{P:Program}{KP:AV->zd->Prop}{ρ:Env}{H:zd}{K G:AV->zd->Prop}{o:XQ}(j:∀C H',K C H'->G C H')(h:eff P KP ρ H K o):eff P KP ρ H G o:=by
 cases o<;>simp only[eff]at h ⊢<;>try (exact False.elim h)
 case st n x y =>
  cases v:x.ev ρ<;>simp only[v]at h ⊢<;>try (exact False.elim h)
  rename_i b J;cases p:H b with
  | none=>simp[p]at h
  | some A =>
   cases A<;>simp only[p]at h ⊢<;>try (exact False.elim h)
   exact⟨h.1,h.2.1,h.2.2.1,j _ _ h.2.2.2⟩
 case mup kt m k C =>
  cases v:m.ev ρ<;>simp only[v]at h ⊢<;>try (exact False.elim h)
  rename_i b;cases p:H b with
  | none=>simp[p]at h
  | some A =>
   cases A<;>simp only[p]at h ⊢<;>try (exact False.elim h)
   exact⟨h.1,h.2.1,j _ _ h.2.2⟩
 case app sz by' x y=>exact zgN j h
 case appm sz by' z x y=>exact zdz j h
 case call f args=>exact zY.monoEnd j h
 case callv g args =>
  cases I:g.ev ρ<;>simp only[I]at h ⊢<;>try (exact False.elim h)
  exact⟨h.1,zY.monoEnd j h.2⟩
 case pan x =>
  cases v:x.ev ρ<;>simp only[v]at h ⊢<;>try (exact False.elim h)
  exact h
def Lp{P:Program}{KP:AV->zd->Prop}{o:XQ}{ρ:Env}{H:zd}{K j:AV->zd->Prop}(g:∀p H',K p H'->j p H')(h:TZ P KP o ρ H K):TZ P KP o ρ H j:=by
 unfold TZ at *
 cases y:o.cls<;>simp only[y]at h ⊢
 ·cases f:Yy ρ o<;>simp only[f]at h ⊢;· exact g _ _ h
 ·cases f:rev ρ H o<;>simp only[f]at h ⊢;· exact g _ _ h
 ·cases f:X8 ρ o<;>simp only[f]at h ⊢
  ·exact h
  ·exact λb v=>g _ _ (h b v)
 ·exact zbu g h
def Rj{P:Program}{KP:AV->zd->Prop}{it:yo}{R j:List VQ}{ρ:Env}{H:zd}{K g:Env->zd->Prop}(y:∀f H',YZ f H' R->YZ f H' j)(v:∀f H',K f H'->g f H')(h:XJ P KP it R ρ H K):XJ P KP it j ρ H g:=by
 unfold XJ at *
 split at h
 ·exact Lp (λz H' p=>⟨y _ _ p.1,v _ _ p.2⟩) h
 ·exact v _ _ h
 ·exact h
def Q1(g:Option (Nat×Bool)):List Nat :=
 match g with
 | none=>[]
 | some (s,_)=>[s]
def yo.looks(it:yo):List Nat:=Q1 it.guard++it.op.looks
def Po{ρ ρ':Env}{g:Option (Nat×Bool)}(h:∀n∈Q1 g,ρ n=ρ' n):gv g ρ=gv g ρ':=by
 cases g with
 | none=>rfl
 | some f=>simp only[gv,h f.1 (by simp[Q1])]
def Yf{ρ:Env}{d:Option Nat}{c:AV}{l:List Nat}(h:∀x,d=some x->x ∉ l):∀n∈l,(ρ.set d c) n=ρ n:=by
 intro n f;cases d with
 | none=>rfl
 | some x =>have:n≠x:=λe=>h x rfl (e▸f);simp[Env.set,this]
def zjr(ρ:Env){d e:Option Nat}(c u:AV)(h:∀x,d=some x->e≠some x):(ρ.set d c).set e u=(ρ.set e u).set d c:=by
 cases d with
 | none=>rfl
 | some x =>
  cases e with
  | none=>rfl
  | some p =>
   have j:x≠p:=λv=>h x rfl (v▸rfl);funext n;simp only[Env.set];by_cases f:n=p
   ·subst f;simp[Ne.symm j]
   ·by_cases g:n=x
    ·subst g;simp[j]
    ·simp[f,g]
def VW(c:VQ):List Nat:=c.1::Q1 c.2.1++c.2.2.looks
def TD{ρ ρ':Env}{H:zd}:∀ {R:List VQ},(∀c∈R,∀n∈VW c,ρ n=ρ' n)->YZ ρ H R->YZ ρ' H R
 | [],_,_=>trivial
 | (d,g,o)::R,h,hr=>by have f:=h (d,g,o) (YS ..);simp only[VW,List.mem_cons,List.mem_append]at f;refine⟨λp=>?_,TD (λc v=>h c (YN _ v)) hr.2⟩;rw[<-Po (λn j=>f n (.inl (.inr j)))]at p;have:=hr.1 p;rw[TR (λn j=>f n (.inr j)),f d (.inl (.inl rfl))]at this;exact this
def yo.apart(x i:yo):Bool :=
 (match x.dst with
  | some d=>!(i.looks).contains d&&i.dst != some d
  | none=>true) &&
 (match i.dst with
  | some d=>!(x.looks).contains d
  | none=>true)
def apart_spec{x i:yo}(h:x.apart i=true):(∀d,x.dst=some d->d ∉ i.looks)/\(∀d,x.dst=some d->i.dst≠some d)/\(∀d,i.dst=some d->d ∉ x.looks):=by
 refine⟨λd f=>?_,λd f=>?_,λd f=>?_⟩<;>simp[yo.apart,f]at h
 ·exact h.1.1
 ·exact h.1.2
 ·exact h.2
instance:BEq Cls:=⟨λa b=>decide (a=b)⟩
def Sn(x i:yo):Bool :=
 match x.op.cls,i.op.cls with
 | .pure,_=>true
 | .read,.pure|.read,.read|.read,.alloc=>true
 | .read,.eff=>true
 | .alloc,.alloc=>i.guard.isNone
 | .eff,.alloc=>i.guard.isNone&&(match i.op with|.alloc _|.mkm _=>true|_=>false)
 | _,_=>false
def KB{ρ:Env}{H:zd}{b:Nat}{y:Yr}{o:XQ}{v:AV}(p:H b=none)(h:rev ρ H o=some v):rev ρ (H.upd b y) o=some v:=by
 cases o<;>simp only[rev]at h ⊢<;>try (cases h;done)
 case ld n ag x =>
  cases j:x.ev ρ<;>simp only[j]at h ⊢<;>try (cases h;done)
  ·rename_i f z;have g:f≠b:=λe=>by subst e;simp[p]at h
   simp only[zd.upd,g,if_false];exact h
  ·exact h
 case lkp kt zero ok m k =>
  split at h
  ·rename_i hf;simp only[hf,if_true];cases j:m.ev ρ<;>simp only[j]at h ⊢<;>try (cases h;done)
   ·exact h
   ·rename_i f;have g:f≠b:=λe=>by subst e;simp[p]at h
    simp only[zd.upd,g,if_false];exact h
  ·cases h
def Ly(KP:AV->zd->Prop):Prop:=∀f H b o,H b=none->KP f H->KP f (H.upd b o)
def Vk(H:zd){b c:Nat}(x y:Yr)(h:b≠c):(H.upd b x).upd c y=(H.upd c y).upd b x:=by
 funext n;simp only[zd.upd];by_cases f:n=c
 ·subst f;simp[Ne.symm h]
 ·by_cases g:n=b
  ·subst g;simp[h]
  ·simp[f,g]
def LS(H:zd)(b:Nat)(o:Yr)(h:H b=none):zd.union H (zd.one b o)=H.upd b o:=by
 funext n;simp only[zd.union,zd.one,zd.upd];by_cases f:n=b
 ·subst f;simp[h]
 ·simp[f]
def zY.beside{P:Program}{f:FuncId}{args:List AV}{H:zd}{K KP:AV->zd->Prop}{b:Nat}{o:Yr}(y:H b=none)(G:Ly KP)(h:zY P f args H (Xd K KP)):
  zY P f args (H.upd b o) (Xd (λj H'=>∃H0,H0 b=none/\H'=H0.upd b o/\K j H0) KP):=by
 have I:zd.Disj H (zd.one b o):=λc=>by
  by_cases z:c=b
  ·subst z;exact .inl y
  ·exact .inr (by simp[zd.one,z])
 rw[<-LS H b o y];refine(h.frame I).mono λr H' ⟨g,C,J,A⟩=>?_;have v:g b=none:=by
  rcases J b with p|p
  ·exact p
  ·simp[zd.one]at p
 rw[LS g b o v]at A;subst A;cases r with
 | ret j=>exact⟨g,v,rfl,C⟩
 | pan j=>exact G j g b o v C
def zcG{sz bytes:Nat}{x y:AV}{H:zd}{K:AV->zd->Prop}{b:Nat}{o:Yr}(v:H b=none)(h:zeq sz bytes x y H K):
  zeq sz bytes x y (H.upd b o) (λZ H'=>∃H0,H0 b=none/\H'=H0.upd b o/\K Z H0):=by
 cases x<;>try (exact False.elim h)
 cases y<;>try (exact False.elim h)
 rename_i Y aa ac o2 ab ad;obtain⟨M,A,O,U,p⟩:=h;refine⟨M,A,O,U,?_⟩;have fresh:∀f,(H.upd b o) f=none->f≠b/\H f=none:=λf A=>by
  have g:f≠b:=λe=>by subst e;simp[zd.upd]at A
  exact⟨g,by simpa[zd.upd,g]using A⟩
 cases Y with
 | no=>exact p
 | nil=>exact⟨λe=>⟨H,v,rfl,p.1 e⟩,λe f j=>by obtain⟨g,z⟩:=fresh f j;exact⟨_,by simp[zd.upd,Ne.symm g,v],Vk H _ _ (Ne.symm g),p.2 e f z⟩⟩
 | full=>exact⟨λe=>⟨H,v,rfl,p.1 e⟩,λe f j=>by obtain⟨g,z⟩:=fresh f j;exact⟨_,by simp[zd.upd,Ne.symm g,v],Vk H _ _ (Ne.symm g),p.2 e f z⟩⟩
 | tip C d =>
  obtain⟨J,W⟩:=p;have g:C≠b:=λe=>by subst e;simp[v]at J
  refine⟨by simp[zd.upd,g,J],λf L j=>?_⟩;have G:f≠b:=λe=>by subst e;simp[zd.del,zd.upd,Ne.symm g]at j
  have z:(H.del C) f=none:=by
   unfold zd.del at j ⊢;split
   ·rfl
   ·rename_i X;simpa[X,zd.upd,G]using j
  refine⟨_,?_,?_,W f L z⟩
  ·simp[zd.upd,zd.del,Ne.symm G,v]
  ·rw[<-Vk _ _ _ (Ne.symm G)]
   congr 1
   funext n;simp only[zd.del,zd.upd];by_cases I:n=C
   ·subst I;simp[g]
   ·simp[I]
def zay{S:AV->AV}{sz bytes:Nat}{zero:List AV}{x y:AV}{H:zd}{K:AV->zd->Prop}{b:Nat}{o:Yr}(p:H b=none)(h:Kr S sz bytes zero x y H K):
  Kr S sz bytes zero x y (H.upd b o) (λaf H'=>∃H0,H0 b=none/\H'=H0.upd b o/\K af H0):=by
 have fresh:∀g,(H.upd b o) g=none->g≠b/\H g=none:=λg z=>by
  have j:g≠b:=λe=>by subst e;simp[zd.upd]at z
  exact⟨j,by simpa[zd.upd,j]using z⟩
 cases y<;>try (exact False.elim h)
 obtain⟨Y,z,A⟩:=h;refine⟨Y,z,?_⟩;cases x<;>try (exact False.elim A)
 ·rename_i o ai aj;cases o<;>try (exact False.elim A)
  obtain⟨C,G,f,Z,aa,ab⟩:=A;exact⟨C,G,f,Z,λe=>⟨H,p,rfl,aa e⟩,λe g cap ad I J=>by obtain⟨j,L⟩:=fresh g ad;exact⟨_,by simp[zd.upd,Ne.symm j,p],Vk H _ _ (Ne.symm j),ab e g cap L I J⟩⟩
 ·rename_i v ah ag cap;obtain⟨C,G,f⟩:=A;refine⟨C,G,?_⟩;have M:v≠b:=λe=>by subst e;simp[p]at f
  have X:(H.upd b o) v=H v:=by simp[zd.upd,M]
  rw[X];cases U:H v with
  | none=>simp[U]at f
  | some ae =>
   cases ae<;>simp only[U]at f ⊢<;>try (exact False.elim f)
   refine⟨λe=>⟨(f.1 e).1,_,?_,Vk H _ _ (Ne.symm M),(f.1 e).2⟩,λe=>⟨(f.2 e).1,λO W ac I J=>?_⟩⟩
   ·simp[zd.upd,Ne.symm M,p]
   ·obtain⟨j,L⟩:=fresh O ac;exact⟨_,by simp[zd.upd,Ne.symm j,p],Vk H _ _ (Ne.symm j),(f.2 e).2 O W L I J⟩
def zdE{P:Program}{KP:AV->zd->Prop}{ρ:Env}{H:zd}{K:AV->zd->Prop}{x:XQ}{b:Nat}{o:Yr}(p:H b=none)(I:Ly KP)(h:eff P KP ρ H K x):
  eff P KP ρ (H.upd b o) (λL H'=>∃H0,H0 b=none/\H'=H0.upd b o/\K L H0) x:=by
 cases x<;>simp only[eff]at h ⊢<;>try (exact False.elim h)
 case st n x y =>
  cases C:x.ev ρ<;>simp only[C]at h ⊢<;>try (exact False.elim h)
  rename_i j O;have v:j≠b:=λe=>by subst e;simp[p]at h
  have G:(H.upd b o) j=H j:=by simp[zd.upd,v]
  rw[G];cases A:H j with
  | none=>simp[A]at h
  | some J =>
   cases J<;>simp only[A]at h ⊢<;>try (exact False.elim h)
   exact⟨h.1,h.2.1,h.2.2.1,_,by simp[zd.upd,Ne.symm v,p],Vk H _ _ (Ne.symm v),h.2.2.2⟩
 case mup kt m k L =>
  cases C:m.ev ρ<;>simp only[C]at h ⊢<;>try (exact False.elim h)
  rename_i j;have v:j≠b:=λe=>by subst e;simp[p]at h
  have G:(H.upd b o) j=H j:=by simp[zd.upd,v]
  rw[G];cases A:H j with
  | none=>simp[A]at h
  | some J =>
   cases J<;>simp only[A]at h ⊢<;>try (exact False.elim h)
   exact⟨h.1,h.2.1,_,by simp[zd.upd,Ne.symm v,p],Vk H _ _ (Ne.symm v),h.2.2⟩
 case app sz by' x y=>exact zcG p h
 case appm sz by' z x y=>exact zay p h
 case call f args=>exact zY.beside p I h
 case callv g args =>
  cases M:g.ev ρ<;>simp only[M]at h ⊢<;>try (exact False.elim h)
  exact⟨h.1,zY.beside p I h.2⟩
 case pan x =>
  cases C:x.ev ρ<;>simp only[C]at h ⊢<;>try (exact False.elim h)
  exact I _ _ _ _ p h
def zbi{P:Program}{KP:AV->zd->Prop}{o:XQ}{ρ:Env}{H:zd}{K j:AV->zd->Prop}(z:o.cls≠.eff)(g:∀y H',(H'=H∨∃b A,H b=none/\H'=H.upd b A)->K y H'->j y H')(h:TZ P KP o ρ H K):TZ P KP o ρ H j:=by
 unfold TZ at *
 cases v:o.cls<;>simp only[v]at h ⊢
 ·cases f:Yy ρ o<;>simp only[f]at h ⊢;· exact g _ _ (.inl rfl) h
 ·cases f:rev ρ H o<;>simp only[f]at h ⊢;· exact g _ _ (.inl rfl) h
 ·cases f:X8 ρ o<;>simp only[f]at h ⊢
  ·exact h
  ·exact λb p=>g _ _ (.inr ⟨b,_,p,rfl⟩) (h b p)
 ·exact absurd v z
def Qo{ρ:Env}{H:zd}{b:Nat}{h:Yr}(f:H b=none):∀ {R:List VQ},YZ ρ H R->YZ ρ (H.upd b h) R
 | [],_=>trivial
 | (_,_,_)::_,hr=>⟨λg=>KB f (hr.1 g),Qo f hr.2⟩
def val(ρ:Env)(H:zd)(o:XQ):Option AV :=
 match o.cls with
 | .pure=>Yy ρ o
 | .read=>rev ρ H o
 | _=>none
def zfu{P:Program}{KP:AV->zd->Prop}{o:XQ}{ρ:Env}{H:zd}{K:AV->zd->Prop}(f:o.cls=.pure∨o.cls=.read):TZ P KP o ρ H K↔∃g,val ρ H o=some g/\K g H:=by
 unfold TZ val;rcases f with f|f<;>simp only[f]
 ·cases Yy ρ o<;>simp
 ·cases rev ρ H o<;>simp
def entry(x:yo):List VQ :=
 match x.dst with
 | some d=>[(d,x.guard,x.op)]
 | none=>[]
def Vx(x i:yo):List VQ:=if x.op.cls=.read/\i.op.cls=.eff then entry x else []
def Rl{ρ:Env}{H:zd}:∀ {f B:List VQ},YZ ρ H (f++B)->YZ ρ H B
 | [],_,h=>h
 | (_,_,_)::_,_,h=>Rl h.2
def Sd.upd{H:zd}(h:Sd H)(b:Nat)(o:Yr):Sd (H.upd b o):=by
 obtain⟨n,h⟩:=h;refine⟨n,λc f=>?_⟩;unfold zd.upd;split
 ·simp
 ·exact h c f
def Sd.of_upd{H:zd}{b:Nat}{o:Yr}(h:Sd (H.upd b o)):Sd H:=by
 obtain⟨n,h⟩:=h;refine⟨max n (b+1),λc g=>?_⟩;have:=h c (by omega);have f:c≠b:=by omega
 simpa[zd.upd,f]using this
def swap{P:Program}{KP:AV->zd->Prop}(bg:Ly KP){x i:yo}{cx:List VQ}(bj:x.apart i=true)(y:Sn x i=true)(bz:x.op.cls=.read->∃d,x.dst=some d/\d ∉ x.looks)(a0:x.op.cls≠.eff->cx=[])(br:∀c∈cx,∀d,i.dst=some d->d ∉ VW c){R:List VQ}(bh:∀c∈R,∀d,x.dst=some d->d ∉ VW c)(ay:i.op.cls≠.eff->R=[]){ρ:Env}{H:zd}{K:Env->zd->Prop}(h:XJ P KP x cx ρ H (λb5 a6=>XJ P KP i (Vx x i++R) b5 a6 K)):XJ P KP i R ρ H (λb6 a7=>XJ P KP x cx b6 a7 K):=by
 obtain⟨ar,a9,au⟩:=apart_spec bj;have a8:∀d,x.dst=some d->d ∉ Q1 i.guard:=λd f v=>ar d f (Wf _ v);have W:∀d,x.dst=some d->d ∉ i.op.looks:=λd f v=>ar d f (List.mem_append_right _ v);have ba:∀d,i.dst=some d->d ∉ Q1 x.guard:=λd f v=>au d f (Wf _ v);have M:∀d,i.dst=some d->d ∉ x.op.looks:=λd f v=>au d f (List.mem_append_right _ v);have aw:∀c,gv i.guard (ρ.set x.dst c)=gv i.guard ρ:=λc=>Po (Yf a8);have O:∀c,gv x.guard (ρ.set i.dst c)=gv x.guard ρ:=λc=>Po (Yf ba);have comm:∀c u,(ρ.set x.dst c).set i.dst u=(ρ.set i.dst u).set x.dst c:=λc u=>zjr ρ c u a9;have a5:∀c H' (aj:AV->zd->Prop),TZ P KP i.op (ρ.set x.dst c) H' aj=TZ P KP i.op ρ H' aj:=λc H' aj=>zhb (Yf W);have ac:∀c u H',YZ ((ρ.set x.dst c).set i.dst u) H' R->YZ (ρ.set i.dst u) H' R:=λc u H' U=>by rw[comm]at U;exact TD (λe bu n p=>Yf (λd f=>bh e bu d f) n p) U
 unfold XJ at h;cases A:gv x.guard ρ with
 | none=>simp[A]at h
 | some b =>
  cases b with
  | false =>
   simp only[A]at h;unfold XJ;rw[aw]at h;cases L:gv i.guard ρ with
   | none=>simp[L]at h
   | some b =>
    cases b with
    | false =>simp only[L]at h ⊢;rw[O,A];rw[comm]at h;exact h
    | true =>
     simp only[L]at h ⊢;rw[a5]at h;refine Lp (λg H' j=>⟨?_,?_⟩) h
     ·exact ac (.tup []) g H' (Rl j.1)
     ·rw[O,A];rw[comm]at j;exact j.2
  | true =>
   simp only[A]at h;by_cases Y:x.op.cls=.pure∨x.op.cls=.read
   ·have aa:x.op.cls≠.eff:=by rcases Y with e|e<;>rw[e]<;>simp
    have ag:=a0 aa;rw[ag]at h;rw[zfu Y]at h;obtain⟨g,ah,_,h⟩:=h;unfold XJ;rw[aw]at h;have ai:∀u H',(x.op.cls=.read->rev ρ H' x.op=some g)->K ((ρ.set i.dst u).set x.dst g) H'->XJ P KP x cx (ρ.set i.dst u) H' K:=by
     intro u H' U af;unfold XJ;rw[O,A,ag];simp only
     rw[zfu Y];refine⟨g,?_,trivial,af⟩;unfold val at ah ⊢;rcases Y with e|e<;>simp only[e]at ah ⊢
     ·rw[LV (Yf M)];exact ah
     ·rw[TR (Yf M)];exact U e
    have aq:x.op.cls=.read->rev ρ H x.op=some g:=λe=>by simpa[val,e]using ah
    cases L:gv i.guard ρ with
    | none=>simp[L]at h
    | some b =>
     cases b with
     | false =>simp only[L]at h ⊢;rw[comm]at h;exact ai _ _ aq h
     | true =>
      simp only[L]at h ⊢;rw[a5]at h;by_cases I:i.op.cls=.eff
      ·refine Lp (λu H' j=>?_) h;rcases Y with e|e
       ·have p:Vx x i=[]:=by simp[Vx,e]
        rw[p]at j;refine⟨ac g u H' j.1,ai u H' (λav=>by rw[e]at av;cases av) (by rw[<-comm];exact j.2)⟩
       ·obtain⟨d,f,a1⟩:=bz e;have p:Vx x i=[(d,x.guard,x.op)]:=by simp[Vx,e,I,entry,f]
        rw[p]at j;obtain⟨⟨al,J⟩,be⟩:=j;refine⟨ac g u H' J,ai u H' (λ_=>?_) (by rw[<-comm];exact be)⟩;have bv:gv x.guard ((ρ.set x.dst g).set i.dst u)=some true:=by rw[<-A];rw[comm];rw[Po (Yf (l:=Q1 x.guard) λbc Z v=>by rw[f]at Z;cases Z;exact a1 (Wf _ v))];exact O u
        have X:=al bv;have bd:((ρ.set x.dst g).set i.dst u) d=g:=by rw[comm,f];simp[Env.set]
        rw[bd]at X;rw[comm]at X;rw[TR (Yf (l:=x.op.looks) λbc Z v=>by rw[f]at Z;cases Z;exact a1 (List.mem_append_right _ v))]at X;rw[TR (Yf M)]at X;exact X
      ·have p:Vx x i=[]:=by simp[Vx,I]
       rw[p]at h;refine zbi I (λu H' bf j=>⟨ac g u H' j.1,ai u H' (λe=>?_) (by rw[<-comm];exact j.2)⟩) h;rcases bf with rfl|⟨b,ab,G,rfl⟩
       ·exact aq e
       ·exact KB G (aq e)
   ·by_cases ae:x.op.cls=.alloc
    ·-- two new objects
     have z:i.op.cls=.alloc:=by unfold Sn at y;cases bq:i.op.cls<;>simp_all
     have an:i.guard=none:=by unfold Sn at y;simp only[ae,z]at y;simpa using y
     have C:x.op.cls≠.eff:=by rw[ae];simp
     have I:i.op.cls≠.eff:=by rw[z];simp
     have ag:=a0 C;subst ag;have am:=ay I;subst am;have p:Vx x i=[]:=by simp[Vx,I]
     have ad:∀ρ',gv i.guard ρ'=some true:=λρ'=>by rw[an];rfl
     unfold XJ;simp only[ad];simp only[p,List.append_nil,XJ,ad]at h;unfold TZ at h;simp only[ae,z]at h;have b2:∀u,X8 (ρ.set i.dst u) x.op=X8 ρ x.op:=λu=>Qa (Yf M);have ao:∀u,X8 (ρ.set x.dst u) i.op=X8 ρ i.op:=λu=>Qa (Yf W);have b3:∀u b,Z9 (ρ.set i.dst u) b x.op=Z9 ρ b x.op:=λu b=>T8 (Yf M);have bw:∀u b,Z9 (ρ.set x.dst u) b i.op=Z9 ρ b i.op:=λu b=>T8 (Yf W);simp only[ao,bw]at h;unfold TZ;simp only[ae,z,O,A,b2,b3];cases a4:X8 ρ x.op with
     | none =>
      simp only[a4]at h ⊢;cases ap:X8 ρ i.op with
      | none=>exact h
      | some b4=>exact λb G=>⟨trivial,h.upd _ _⟩
     | some b8 =>
      simp only[a4]at h ⊢;cases ap:X8 ρ i.op with
      | none =>
       simp only[ap]at h ⊢;by_cases hf:∃b,H b=none
       ·obtain⟨b,G⟩:=hf;exact(h b G).2.of_upd
       ·exact⟨0,λb _ G=>hf ⟨b,G⟩⟩
      | some b4 =>
       simp only[ap]at h ⊢;intro bi bl;refine⟨trivial,λak az=>⟨trivial,?_⟩⟩;have aa:ak≠bi:=λe=>by subst e;simp[zd.upd]at az
       have bn:H ak=none:=by simpa[zd.upd,aa]using az
       have J:=((h ak bn).2 bi (by simp[zd.upd,Ne.symm aa,bl])).2;rw[comm,Vk H _ _ aa]at J;exact J
    have C:x.op.cls=.eff/\i.op.cls=.alloc:=by unfold Sn at y;cases b7:x.op.cls<;>cases bq:i.op.cls<;>simp_all
    obtain⟨C,z⟩:=C;have p:Vx x i=[]:=by simp[Vx,C]
    have I:i.op.cls≠.eff:=by rw[z];simp
    have am:=ay I;subst am;have an:i.guard=none:=by unfold Sn at y;simp only[C,z,yu]at y;simpa using y.1
    have b1:∃ab,X8 ρ i.op=some ab:=by unfold Sn at y;simp only[C,z,yu]at y;have J:=y.2;cases ao:i.op<;>simp only[ao]at J<;>first|(cases J;done)|exact⟨_,rfl⟩
    obtain⟨ab,a3⟩:=b1;have ad:∀ρ',gv i.guard ρ'=some true:=λρ'=>by rw[an];rfl
    unfold XJ;simp only[ad,p,TB]at h ⊢;unfold TZ at h;simp only[C,z]at h;unfold TZ;simp only[z,a3];intro b G;refine⟨trivial,?_⟩;rw[O,A];simp only[C];have al:=zdE (o:=ab) G bg h;rw[KD (ρ:=ρ.set i.dst (Z9 ρ b i.op)) (Yf M)];refine zbu (λg H' j=>?_) al;obtain⟨H0,ax,rfl,U,af⟩:=j;have bx:X8 (ρ.set x.dst g) i.op=some ab:=by rw[Qa (Yf W)];exact a3
    simp only[bx]at af;have a2:=(af b ax).2;rw[T8 (ρ:=ρ.set x.dst g) (ρ':=ρ) (Yf W)]at a2;rw[<-comm];exact⟨TD (λc bp n p=>(Yf (λd f=>br c bp d f) n p).symm) (Qo ax U),a2⟩
structure Fx where
 N:Nat
 lo:Nat
 T:Array Value
 D:List Deferred
 rf:Bool:=false
 keep:List (Nat×Obj):=[]
 base:Nat:=0
def Fx.plain(N:Nat):Fx:=⟨N,0,#[],[],false,[],0⟩
def Fx.marks(N base:Nat):Fx:=⟨N,0,#[],[],true,[],base⟩
def zrW(b:Nat):Deferred:=⟨.collected b,#[]⟩
structure LD (F:Fx) (w:World) (H:zd) (ds:List Deferred):Prop where
 eq:∃bs:List Nat,ds=bs.map zrW++F.D/\bs.Nodup/\(F.rf=false->bs=[])/\∀b∈bs,F.base<=b/\H b=none/\w.heap[b]?=some (.deferred (some []))
 keep:∀x∈F.keep,H x.1=none/\w.heap[x.1]?=some x.2
def Kb{γ γ':Gh}{w w':World}{H H':zd}(j:U9 (keysOf H) γ w γ' w')(p:ZL H w H'){b:Nat}{o:Obj}(h:H b=none/\w.heap[b]?=some o):H' b=none/\w'.heap[b]?=some o:=by
 have v:=(TQ.1 h.2).1;refine⟨?_,(j.frame b v (by simp[keysOf,h.1])).2.trans h.2⟩;cases g:H' b with
 | none=>rfl
 | some x =>
  rcases p b (by simp[g])with f|f
  ·simp[h.1]at f
  ·omega
def LD.step{F:Fx}{γ γ':Gh}{w w':World}{H H':zd}{ds:List Deferred}(h:LD F w H ds)(g:U9 (keysOf H) γ w γ' w')(j:ZL H w H'):LD F w' H' ds :=⟨let ⟨bs,h1,h2,h3,h4⟩:=h.eq;⟨bs,h1,h2,h3,λb f=>⟨(h4 b f).1,Kb g j (h4 b f).2⟩⟩,λx p=>Kb g j (h.keep x p)⟩
def LD.plain{F:Fx}{w:World}{H:zd}{ds:List Deferred}(h:LD F w H ds)(hf:F.rf=false):ds=F.D:=by obtain⟨bs,f,_,g,_⟩:=h.eq;rw[f,g hf];rfl
def LD.init{F:Fx}{w:World}{H:zd}(h:F.keep=[]):LD F w H F.D :=⟨⟨[],rfl,List.nodup_nil,λ_=>rfl,λb g=>by cases g⟩,λx f=>by rw[h]at f;cases f⟩
structure Vo (γ0:Gh) (w0:World) (H0:zd) (F:Fx) (γ:Gh) (w:World) (H:zd) (ρ:Env) (a:Act):Prop where
 ext:U9 (keysOf H0) γ0 w0 γ w
 st:zU γ w H
 keys:ZL H0 w0 H
 env:Xg γ w ρ a.tmps
 sz:a.tmps.size=F.N
 fx:∀n,n<F.lo->a.tmps.getD n undef=F.T.getD n undef
 df:LD F w H a.defers
def Tu(N lo:Nat)(ops:Array Oper)(P:Program)(o:Oper)(it:yo):Bool :=
 decide (o.dst=it.dst)&&(match it.dst with|some d=>decide (lo<=d)&&decide (d<N)|none=>true) &&
 (match o.guard,it.guard with
  | none,none=>true
  | some (j,want),some (s,want')=>decide (want=want')&&decide ((ops[j]?).bind (·.dst)=some s)
  | _,_=>false)&&Yk P o it.op
def zgl{γ:Gh}{w:World}{ρ:Env}{a:Act}{ops:Array Oper}{o:Oper}{it:yo}(K:Xg γ w ρ a.tmps)(y:(match o.guard,it.guard with
   | none,none=>true
   | some (A,I),some (s,J)=>decide (I=J)&&decide ((ops[A]?).bind (·.dst)=some s)
   | _,_=>false)=true){b:Bool}(h:gv it.guard ρ=some b):Region.wanted o (yielded ops a.tmps)=b:=by
 cases j:o.guard with
 | none =>
  cases g:it.guard with
  | some G=>simp[j,g]at y
  | none=>rw[g]at h;simp only[gv,Y1]at h;subst h;simp[Region.wanted,j]
 | some W =>
  obtain⟨A,I⟩:=W;cases g:it.guard with
  | none=>simp[j,g]at y
  | some G =>
   obtain⟨s,J⟩:=G;simp only[j,g,yu,Zh]at y;obtain⟨rfl,C⟩:=y;rw[g]at h;simp only[gv]at h;have v:=K.rep s;have O:∀p,a.tmps.getD s undef=p->p≠undef->a.tmps[s]?=some p:=by
    intro p f M;cases z:a.tmps[s]? with
    | none=>simp[zas,z]at f;exact absurd f.symm M
    | some u=>simp[zas,z]at f;rw[f]
   cases U:ρ s<;>simp only[U]at h v<;>try (cases h;done)
   ·rename_i Y;simp only[Y1]at h;subst h;generalize f:a.tmps.getD s undef=p at v;cases v;have:=O _ f (by simp[undef]);simp[Region.wanted,j,yielded,C,this]
   ·rename_i X;cases X with
    | cons c r=>simp at h
    | nil =>
     simp only[Y1]at h;subst h;generalize f:a.tmps.getD s undef=p at v;cases v with
     | tup _ us L _ =>
      cases us with
      | cons u r=>simp at L
      | nil =>
       have:yielded ops a.tmps A=none:=by
        unfold yielded;rw[C];simp only[Option.bind_some];cases z:a.tmps[s]? with
        | none=>rfl
        | some u=>simp[zas,z]at f;rw[f]
       simp[Region.wanted,j,this]
def zm7{γ:Gh}{w:World}{ρ:Env}{tmps:Array Value}{N:Nat}(f:Xg γ w ρ tmps)(y:tmps.size=N){d:Option Nat}(j:∀x,d=some x->x<N){c:AV}{v:Value}(p:Rep γ w c v)(a:Act)(h:a.tmps=tmps):
  Xg γ w (ρ.set d c) (a.put d v).tmps:=by
 cases d with
 | none=>subst h;exact f
 | some x =>
  subst h;refine⟨f.tab,λn=>?_⟩;simp only[Env.set,Act.put];have z:=j x rfl;by_cases g:n=x
  ·subst g;simp only[if_true];have:(a.tmps.setIfInBounds n v).getD n undef=v:=by simp[zas,y,z]
   rw[this];exact p
  ·simp only[g,if_false];have:(a.tmps.setIfInBounds x v).getD n undef=a.tmps.getD n undef:=by
    simp only[zas,Array.getElem?_setIfInBounds_ne (Ne.symm g)]
   rw[this];exact f.rep n
def zh8(a:Act)(d:Option Nat)(v:Value):(a.put d v).tmps.size=a.tmps.size:=by cases d<;>simp[Act.put]
def zo3{F:Fx}{a:Act}(h:∀n,n<F.lo->a.tmps.getD n undef=F.T.getD n undef){d:Option Nat}(g:∀x,d=some x->F.lo<=x/\x<F.N)(v:Value):∀n,n<F.lo->(a.put d v).tmps.getD n undef=F.T.getD n undef:=by
 intro n f;cases d with
 | none=>exact h n f
 | some x =>
  have j:=(g x rfl).1;have:(a.tmps.setIfInBounds x v).getD n undef=a.tmps.getD n undef:=by simp only[zas,Array.getElem?_setIfInBounds_ne (show x≠n by omega)]
  simp only[Act.put];rw[this];exact h n f
def put_defers(a:Act)(d:Option Nat)(v:Value):(a.put d v).defers=a.defers:=by cases d<;>rfl
def Qz{H0 H H':zd}{w0 w:World}(h:ZL H0 w0 H)(j:w0.heap.size<=w.heap.size)(h':ZL H w H'):ZL H0 w0 H':=λb g=>by
 rcases h' b g with f|f
 ·exact h b f
 ·exact .inr (by omega)
def Vo.step{γ0:Gh}{w0:World}{H0:zd}{F:Fx}{γ γ':Gh}{w w':World}{H H':zd}{ρ:Env}{a:Act}(h:Vo γ0 w0 H0 F γ w H ρ a)(f:U9 (keysOf H) γ w γ' w')(A:zU γ' w' H')(p:ZL H w H'){d:Option Nat}(j:∀x,d=some x->F.lo<=x/\x<F.N){c:AV}{v:Value}(z:Rep γ' w' c v):Vo γ0 w0 H0 F γ' w' H' (ρ.set d c) (a.put d v) :=
 ⟨h.ext.trans f (λb G y=>by
   rcases h.keys b y with g|g
   ·exact g
   ·omega),A,Qz h.keys h.ext.mono.size p,zm7 (h.env.mono f.mono) h.sz (λx C=>(j x C).2) z a rfl,by rw[zh8];exact h.sz,zo3 h.fx j v,by rw[put_defers];exact h.df.step f p⟩
def QD(γ0:Gh)(w0:World)(H0:zd)(F:Fx)(KP:AV->zd->Prop)(f:List PanicEntry)(a:Act)(w:World):Prop :=∃γ H c v,f=[{ v,recovered:=false }]/\U9 (keysOf H0) γ0 w0 γ w/\zU γ w H/\ZL H0 w0 H/\Rep γ w c v/\KP c H/\UO γ w/\a.tmps.size=F.N/\(∀n,n<F.lo->a.tmps.getD n undef=F.T.getD n undef)/\LD F w H a.defers
def N9{P:Program}{γ0:Gh}{w0:World}{H0:zd}{F:Fx}{KP:AV->zd->Prop}{ops:Array Oper}{i:Nat}{o:Oper}{it:yo}{R:List VQ}{K:Env->zd->Prop}{next:Act->World->Prop}{Q:Exit->Act->World->Prop}(X:∀G a w,QD γ0 w0 H0 F KP G a w->Q (.panic G) a w)(hi:ops[i]?=some o)(J:Tu F.N F.lo ops P o it=true){γ:Gh}{w:World}{H:zd}{ρ:Env}{a:Act}(h:Vo γ0 w0 H0 F γ w H ρ a)(f:XJ P KP it R ρ H K)(O:∀γ' w' H' W C,Vo γ0 w0 H0 F γ' w' H' W C->K W H'->next C w'):wpOp P ops Q i next a w:=by
 simp only[Tu,yu,Zh]at J;obtain⟨⟨⟨L,y⟩,Z⟩,aa⟩:=J;have M:∀x,it.dst=some x->F.lo<=x/\x<F.N:=λx ac=>by rw[ac]at y;simpa using y
 unfold wpOp;simp only[hi];unfold XJ at f;cases j:gv it.guard ρ with
 | none=>simp[j]at f
 | some b =>
  have ab:=zgl (ops:=ops) (o:=o) h.env Z j;rw[ab];cases b with
  | false =>simp only[j]at f;simp only[Ql,if_false];rw[L];exact O _ _ _ _ _ (h.step (.refl _ _ _) h.st (ZL.refl _ _) M (.tup [] [] rfl (by simp))) f
  | true =>
   simp only[j]at f;simp only[if_true];refine .inl (zcL aa γ w H ρ a _ KP next Q h.env h.st f (λγ' w' H' c U g A p z v=>?_) (λγ' w' H' c U g A p z v=>X _ _ _ ⟨γ',H',c,U,rfl,?_,A,Qz h.keys h.ext.mono.size p,z,v,h.env.tab.mono g.mono,h.sz,h.fx,h.df.step g p⟩))
   ·rw[L];exact O _ _ _ _ _ (h.step g A p M z) v.2
   ·exact h.ext.trans g (λb y Y=>by
     rcases h.keys b Y with I|I
     ·exact I
     ·omega)
def O4{P:Program}{γ0:Gh}{w0:World}{H0:zd}{F:Fx}{KP:AV->zd->Prop}{ops:Array Oper}{Q:Exit->Act->World->Prop}{K:Env->zd->Prop}(p:∀g a w,QD γ0 w0 H0 F KP g a w->Q (.panic g) a w)(j:∀γ w H ρ a,Vo γ0 w0 H0 F γ w H ρ a->K ρ H->Q .normal a w):
  ∀(l:List Nat) (f:List (yo×List VQ)),l.length=f.length->(∀(k i:Nat) (it:yo×List VQ),l[k]?=some i->f[k]?=some it->∃o,ops[i]?=some o/\Tu F.N F.lo ops P o it.1=true) ->
  ∀(γ:Gh) (w:World) (H:zd) (ρ:Env) (a:Act),Vo γ0 w0 H0 F γ w H ρ a->Yt P KP f ρ H K->wpOps P ops Q l a w
 | [],[],_,_,γ,w,H,ρ,a,h,hs=>j γ w H ρ a h hs
 | [],_::_,hl,_,_,_,_,_,_,_,_=>by simp at hl
 | _::_,[],hl,_,_,_,_,_,_,_,_=>by simp at hl
 | i::l,it::f,hl,hc,γ,w,H,ρ,a,h,hs=>by rw[wpOps_cons];obtain⟨o,ho,y⟩:=hc 0 i it rfl rfl;unfold Yt at hs;exact N9 p ho y h hs λγ' w' H' C v h' A=>O4 p j l f (by simpa using hl) (λk i it z hit=>hc (k+1) i it (by simpa using z) (by simpa using hit)) γ' w' H' C v h' A
def V1(x i:yo×List VQ):Bool :=
 x.1.apart i.1&&Sn x.1 i.1&&(x.1.op.cls != .read||(match x.1.dst with|some d=>!x.1.looks.contains d|none=>false))&&(x.1.op.cls==.eff||x.2.isEmpty) &&
 (match i.1.dst with|some d=>x.2.all λc=>!(VW c).contains d|none=>true)&&(i.1.op.cls==.eff||i.2.isEmpty)
def zdZ(x i:yo×List VQ):Prop:=∀c∈Vx x.1 i.1,c∈i.2
def zct{ρ:Env}{H:zd}{f:List VQ}(h:YZ ρ H f):∀ {B:List VQ},(∀c∈B,c∈f)->YZ ρ H B:=by
 have mem:∀ {f:List VQ},YZ ρ H f->∀c∈f,(gv c.2.1 ρ=some true->rev ρ H c.2.2=some (ρ c.1)):=by
  intro f;induction f with
  | nil=>intro _ c g;cases g
  | cons x f j =>
   obtain⟨d,p,o⟩:=x;intro h c g;rcases List.mem_cons.1 g with e|e
   ·subst e;exact h.1
   ·exact j h.2 c e
 intro B;induction B with
 | nil=>intro _;trivial
 | cons x B j =>obtain⟨d,p,o⟩:=x;intro v;exact⟨mem h (d,p,o) (v _ (YS ..)),j λc g=>v c (YN _ g)⟩
def zck{x y:yo}(h:x.apart y=true∨True):∀c∈entry x,∀n∈VW c,x.dst=some n∨n∈x.looks:=by
 intro c g n f;unfold entry at g;split at g
 ·rename_i d j;simp only[List.mem_singleton]at g;subst g;simp only[VW,List.mem_cons,List.mem_append]at f;rcases f with (rfl|f)|f
  ·exact .inl j
  ·exact .inr (Wf _ f)
  ·exact .inr (List.mem_append_right _ f)
 ·cases g
def front{P:Program}{KP:AV->zd->Prop}(J:Ly KP)(i:yo×List VQ){K:Env->zd->Prop}{q:List (yo×List VQ)}:∀(p:List (yo×List VQ)),
  (∀x∈p,V1 x i=true/\zdZ x i)->(∀(k l:Nat) (x y:yo×List VQ),k<l->p[k]?=some x->p[l]?=some y->Vx x.1 i.1≠[]->∀d,y.1.dst=some d->x.1.dst≠some d/\d ∉ x.1.looks) ->
  ∀(R:List VQ),(∀c∈R,c∈i.2)->(∀c∈R,∀x∈p,∀d,x.1.dst=some d->d ∉ VW c)->∀(ρ:Env) (H:zd),
  Yt P KP (p++i::q) ρ H K->XJ P KP i.1 R ρ H (λA H'=>Yt P KP (p++q) A H' K)
 | [],_,_,R,hRi,_,ρ,H,f=>by simp only[TB]at f ⊢;unfold Yt at f;exact Rj (λ_ _ v=>zct v hRi) (λ_ _ f=>f) f
 | x::p,hp,hw,R,hRi,hRp,ρ,H,f=>by
  obtain⟨M,aa⟩:=hp x (YS ..);simp only[V1,yu,Uz]at M;obtain⟨⟨⟨⟨⟨O,ac⟩,ab⟩,U⟩,L⟩,X⟩:=M;simp only[L7]at f ⊢;unfold Yt at f;have ad:=λ(ρ:Env) (H:zd) (h':Yt P KP (p++i::q) ρ H K)=>front (P:=P) J i (K:=K) (q:=q) p (λy z=>hp y (YN _ z)) (λk l y ag ah Y I=>hw (k+1) (l+1) y ag (by omega) (by simpa using Y) (by simpa using I)) (Vx x.1 i.1++R)
   (λc j=>by
    rcases List.mem_append.1 j with g|g
    ·exact aa c g
    ·exact hRi c g)
   (λc j y z d h=>by
    rcases List.mem_append.1 j with g|g
    ·have W:Vx x.1 i.1≠[]:=List.ne_nil_of_mem g;have C:c∈entry x.1:=by
      unfold Vx at g;split at g
      ·exact g
      ·cases g
     obtain⟨l,I⟩:=List.mem_iff_getElem?.1 z;obtain⟨ae,af⟩:=hw 0 (l+1) x y (by omega) rfl (by simpa using I) W d h;intro Z;rcases zck (y:=x.1) (.inr trivial) c C d Z with G|G
     ·exact ae G
     ·exact af G
    ·exact hRp c g y (YN _ z) d h) ρ H h'
  have g:=Rj (P:=P) (KP:=KP) (λ_ _ v=>v) (λA H' h'=>ad A H' h') f;have C:=swap J (x:=x.1) (i:=i.1) (cx:=x.2) O ac (λe=>by
    rcases ab with f|f
    ·rw[e]at f;simp[bne,BEq.beq]at f
    ·split at f
     ·rename_i d h;exact⟨d,h,by simpa using f⟩
     ·cases f)
   (λe=>by
    rcases U with f|f
    ·exact absurd (of_decide_eq_true f) e
    ·simpa using f)
   (λc j d h=>by rw[h]at L;have:=Yh.1 L c j;simpa using this)
   (R:=R) (λc j d h=>hRp c j x (YS ..) d h)
   (λe=>by
    rcases X with f|f
    ·exact absurd (of_decide_eq_true f) e
    ·have:i.2=[]:=by simpa using f
     cases R with
     | nil=>rfl
     | cons c r=>have:=hRi c (YS ..);simp_all) g
  exact Rj (λ_ _ v=>v) (λA H' h'=>by unfold Yt;exact h') C
abbrev WA:=Nat×yo×List VQ
def zhg(ops:Array Oper)(pre:Nat->List Nat)(r:List WA)(x:WA):Prop :=
 (∀i∈r,x.1∈pre i.1∨(V1 x.2 i.2=true/\zdZ x.2 i.2/\(Vx x.2.1 i.2.1≠[]->∀f∈r,∀d,f.2.1.dst=some d->x.2.1.dst≠some d/\d ∉ x.2.1.looks))) /\
 (∀o,ops[x.1]?=some o->∀e∈o.after,Region.binds .any e=true->e.on<ops.size/\e.on≠x.1/\∀f∈r,f.1≠e.on)/\(∀f∈r,f.1≠x.1)
def POK(ops:Array Oper)(pre:Nat->List Nat):List WA->Prop
 | []=>True
 | x::r=>zhg ops pre r x/\POK ops pre r
def POK.drop{ops:Array Oper}{pre:Nat->List Nat}{i:WA}{q:List WA}:∀ {p:List WA},POK ops pre (p++i::q)->POK ops pre (p++q)
 | [],g=>g.2
 | x::p,g=>by
  obtain⟨⟨z,A,C⟩,G⟩:=g;have sub:∀f∈p++q,f∈p++i::q:=λf h=>by
   rcases List.mem_append.1 h with g|g
   ·exact Wf _ g
   ·exact List.mem_append_right _ (YN _ g)
  refine⟨⟨λy L=>?_,λo ho e K I=>?_,λf h=>C f (sub f h)⟩,POK.drop G⟩
  ·rcases z y (sub y L)with g|⟨j,v,J⟩
   ·exact .inl g
   ·exact .inr ⟨j,v,λM f h=>J M f (sub f h)⟩
  ·obtain⟨j,O,v⟩:=A o ho e K I;exact⟨j,O,λf h=>v f (sub f h)⟩
def POK.before{ops:Array Oper}{pre:Nat->List Nat}{i:WA}{q:List WA}:∀ {p:List WA},POK ops pre (p++i::q)->(∀x∈p,x.1 ∉ pre i.1) ->
  (∀x∈p.map (·.2),V1 x i.2=true/\zdZ x i.2) /\
  (∀(k l:Nat) (x y:yo×List VQ),k<l->(p.map (·.2))[k]?=some x->(p.map (·.2))[l]?=some y->Vx x.1 i.2.1≠[]->∀d,y.1.dst=some d->x.1.dst≠some d/\d ∉ x.1.looks)
 | [],_,_=>⟨by simp,by simp⟩
 | x::p,h,hn=>by
  obtain⟨⟨G,_,_⟩,I⟩:=h;obtain⟨J,K⟩:=POK.before I (λy g=>hn y (YN _ g));have v:=(G i (by simp)).resolve_left (hn x (YS ..));refine⟨λy g=>?_,λk l y L O j f C d A=>?_⟩
  ·simp only[List.map_cons,List.mem_cons]at g;rcases g with rfl|g
   ·exact⟨v.1,v.2.1⟩
   ·exact J y g
  ·cases l with
   | zero=>omega
   | succ l =>
    simp only[List.map_cons,List.getElem?_cons_succ]at f;cases k with
    | zero =>
     simp only[List.map_cons,List.getElem?_cons_zero,Y1]at j;subst j;rw[W5]at f;cases z:p[l]? with
     | none=>simp[z]at f
     | some M =>simp only[z,VF,Y1]at f;subst f;exact v.2.2 C M (Wf _ (List.mem_of_getElem? z)) d A
    | succ k =>simp only[List.map_cons,List.getElem?_cons_succ]at j;exact K k l y L (by omega) j f C d A
def POK.fresh{ops:Array Oper}{pre:Nat->List Nat}{i:WA}{q:List WA}:∀ {p:List WA},POK ops pre (p++i::q)->∀g∈p++q,g.1≠i.1
 | [],h,g,f=>h.1.2.2 g f
 | x::p,h,g,f=>by
  simp only[L7,List.mem_cons]at f;rcases f with rfl|f
  ·exact λe=>h.1.2.2 i (by simp) e.symm
  ·exact POK.fresh h.2 g f
def zgP{P:Program}{γ0:Gh}{w0:World}{H0:zd}{F:Fx}{KP:AV->zd->Prop}(ah:Ly KP){ops:Array Oper}{pre:Nat->List Nat}{Q:Exit->Act->World->Prop}{K:Env->zd->Prop}(ai:∀aa a w,QD γ0 w0 H0 F KP aa a w->Q (.panic aa) a w)(ab:∀γ w H ρ a,Vo γ0 w0 H0 F γ w H ρ a->K ρ H->Q .normal a w)(hpre:∀(i:Nat) (o:Oper),ops[i]?=some o->∀k∈pre i,∃e∈o.after,Region.binds .any e=true/\(e.on=k∨k∈pre e.on)):
  ∀(fuel:Nat) (r:List WA) (listed:Array Bool) (γ:Gh) (w:World) (H:zd) (ρ:Env) (a:Act),listed.size=ops.size->r.length<=fuel->POK ops pre r->(∀x∈r,∃o,ops[x.1]?=some o/\Tu F.N F.lo ops P o x.2.1=true) ->
   (∀i,i<ops.size->(listed.getD i true=false↔∃x∈r,x.1=i))->(∀g,listed.getD g false=true->∀k∈pre g,listed.getD k false=true) ->
   Vo γ0 w0 H0 F γ w H ρ a->Yt P KP (r.map (·.2)) ρ H K->wpAny P .any ops Q fuel listed a w:=by
 have af:∀(x:WA) (r:List WA) (listed:Array Bool),listed.size=ops.size->POK ops pre (x::r)->(∃o,ops[x.1]?=some o/\Tu F.N F.lo ops P o x.2.1=true) ->
   (∀i,i<ops.size->(listed.getD i true=false↔∃f∈x::r,f.1=i))->x.1∈Region.ready .any ops listed:=by
  intro x r listed hsz A ⟨o,ho,_⟩ v;rw[mem_ready];have J:x.1<ops.size:=(TQ.1 ho).1;refine⟨(v x.1 J).2 ⟨x,YS ..,rfl⟩,o,ho,λe X an=>?_⟩;obtain⟨y,au,p⟩:=A.1.2.1 o ho e X an;have C:¬ (listed.getD e.on true=false):=by
   rw[v e.on y];rintro⟨f,h,U⟩;rcases List.mem_cons.1 h with rfl|h
   ·exact au U.symm
   ·exact p f h U
  have ag:e.on<listed.size:=by omega
  simp only[zas,Array.getElem?_eq_getElem ag,Option.getD_some]at C ⊢;cases a1:listed[e.on]<;>simp_all
 have clash:∀(listed:Array Bool) (g:Nat),listed.getD g true=false->listed.getD g false=true->False:=by intro listed g y p;simp only[zas]at y p;cases z:listed[g]?<;>simp_all
 intro fuel;induction fuel with
 | zero =>
  intro r listed γ w H ρ a hsz hlen A L v W O M;have ax:r=[]:=List.eq_nil_of_length_eq_zero (by omega);subst ax;refine⟨?_,ab γ w H ρ a O M⟩;cases Y:Region.ready .any ops listed with
  | nil=>rfl
  | cons g a2 =>
   have z:g∈Region.ready .any ops listed:=by rw[Y];exact YS ..
   obtain⟨y,o,ho,_⟩:=mem_ready.1 z;obtain⟨x,J,_⟩:=(v g (TQ.1 ho).1).1 y;cases J
 | succ fuel az =>
  intro r listed γ w H ρ a hsz hlen A L v W O M;refine⟨λY=>?_,λi hi=>?_⟩
  ·cases r with
   | nil=>exact ab γ w H ρ a O M
   | cons x r =>have:=af x r listed hsz A (L x (YS ..)) v;rw[Y]at this;cases this
  ·obtain⟨y,o,ho,aj⟩:=mem_ready.1 hi;have aq:=(TQ.1 ho).1;obtain⟨x,J,rfl⟩:=(v i aq).1 y;obtain⟨Z,q,rfl⟩:=List.append_of_mem J;have ad:∀k∈pre x.1,listed.getD k false=true:=λk I=>by
    obtain⟨e,X,ak,p⟩:=hpre x.1 o ho k I;have C:=aj e X ak;rcases p with rfl|p
    ·exact C
    ·exact W e.on C k p
   have av:∀f∈Z,f.1 ∉ pre x.1:=λf h I=>by obtain⟨a3,aw,_⟩:=L f (Wf _ h);exact clash listed f.1 ((v f.1 (TQ.1 aw).1).2 ⟨f,Wf _ h,rfl⟩) (ad f.1 I)
   obtain⟨al,am⟩:=A.before av;obtain⟨o',ac,ao⟩:=L x J;rw[ho]at ac;cases ac;rw[List.map_append,List.map_cons]at M;have ap:=front ah x.2 (Z.map (·.2)) al am [] (by simp) (by simp) ρ H M;refine N9 ai ho ao O ap λγ' w' H' a0 ae ar ay=>?_;refine az (Z++q) _ γ' w' H' a0 ae (by simpa using hsz) (by simp at hlen ⊢;omega) A.drop (λf h=>L f ?_) (λg z=>?_) (λg z k I=>?_) ar (by rw[List.map_append];exact ay)
   ·rcases List.mem_append.1 h with j|j
    ·exact Wf _ j
    ·exact List.mem_append_right _ (YN _ j)
   ·by_cases G:x.1=g
    ·subst G;constructor
     ·intro p;have C:x.1<listed.size:=by omega
      simp[C]at p
     ·rintro⟨f,h,U⟩;exact absurd U (A.fresh f h)
    ·rw[getD_set_ne true G,v g z];constructor
     ·rintro⟨f,h,rfl⟩;refine⟨f,?_,rfl⟩;rcases List.mem_append.1 h with j|j
      ·exact Wf _ j
      ·rcases List.mem_cons.1 j with rfl|j
       ·exact absurd rfl G
       ·exact List.mem_append_right _ j
     ·rintro⟨f,h,rfl⟩;refine⟨f,?_,rfl⟩;rcases List.mem_append.1 h with j|j
      ·exact Wf _ j
      ·exact List.mem_append_right _ (YN _ j)
   ·by_cases G:x.1=g
    ·subst G;exact getD_set_true (ad k I)
    ·rw[getD_set_ne false G]at z;exact getD_set_true (W g z k I)
end Go.Ab
