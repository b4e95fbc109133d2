import Derived.RangeFuncSeq
import Derived.Below
import Derived.RangeFuncLeaves
import Derived.ProofKit
import Derived.SizedLaws
import Derived.WideKeyArgs
import Derived.Recover
import Derived.Defers
import Derived.Test.YtnemcnegfkjpeaaGreatDoorM1
set_option maxRecDepth 100000
set_option linter.all false
namespace Go.Ab
structure Fx where
 N:Nat
 lo:Nat
 T:Array Value
 D:List Deferred
 rf:Bool:=false
 keep:List (Nat×Obj):=[]
 base:Nat:=0
def Fx.plain(N:Nat):Fx:=⟨N,0,#[],[],false,[],0⟩
def Fx.marks(N base:Nat):Fx:=⟨N,0,#[],[],true,[],base⟩
def zAf(b:Nat):Deferred:=⟨.collected b,#[]⟩
structure DfOk (F:Fx) (w:World) (H:zb) (ds:List Deferred):Prop where
 eq:∃bs:List Nat,ds=bs.map zAf++F.D/\bs.Nodup/\(F.rf=false->bs=[])/\∀b∈bs,F.base<=b/\H b=none/\w.heap[b]?=some (.deferred (some []))
 keep:∀x∈F.keep,H x.1=none/\w.heap[x.1]?=some x.2
def zkn{γ γ':Gh}{w w':World}{H H':zb}(J:Ext (keysOf H) γ w γ' w')(U:yn H w H'){b:Nat}{o:Obj}(h:H b=none/\w.heap[b]?=some o):H' b=none/\w'.heap[b]?=some o:=by
 have W:=(zdF.1 h.2).1;refine⟨?_,(J.frame b W (by simp[keysOf,h.1])).2.trans h.2⟩;cases I:H' b with
 | none=>rfl
 | some x =>
  rcases U b (by simp[I])with A|A
  ·simp[h.1]at A
  ·omega
def DfOk.step{F:Fx}{γ γ':Gh}{w w':World}{H H':zb}{ds:List Deferred}(h:DfOk F w H ds)(I:Ext (keysOf H) γ w γ' w')(J:yn H w H'):DfOk F w' H' ds :=⟨let ⟨bs,h1,h2,h3,h4⟩:=h.eq;⟨bs,h1,h2,h3,λb A=>⟨(h4 b A).1,zkn I J (h4 b A).2⟩⟩,λx U=>zkn I J (h.keep x U)⟩
def DfOk.plain{F:Fx}{w:World}{H:zb}{ds:List Deferred}(h:DfOk F w H ds)(J:F.rf=false):ds=F.D:=by obtain⟨bs,A,_,I,_⟩:=h.eq;rw[A,I J];rfl
def DfOk.init{F:Fx}{w:World}{H:zb}(J:F.keep=[]):DfOk F w H F.D :=⟨⟨[],rfl,List.nodup_nil,λ_=>rfl,λb I=>by cases I⟩,λx A=>by rw[J]at A;cases A⟩
structure SInv (γ0:Gh) (w0:World) (H0:zb) (F:Fx) (γ:Gh) (w:World) (H:zb) (ρ:Env) (a:Act):Prop where
 ext:Ext (keysOf H0) γ0 w0 γ w
 st:zq γ w H
 keys:yn H0 w0 H
 env:EnvRel γ w ρ a.tmps
 sz:a.tmps.size=F.N
 fx:∀n,n<F.lo->a.tmps.getD n undef=F.T.getD n undef
 df:DfOk F w H a.defers
def zaC(N lo:Nat)(ops:Array Oper)(P:Program)(o:Oper)(it:AItem):Bool :=
 decide (o.dst=it.dst)&&(match it.dst with|some d=>decide (lo<=d)&&decide (d<N)|none=>true) &&
 (match o.guard,it.guard with
  | none,none=>true
  | some (j,want),some (s,want')=>decide (want=want')&&decide ((ops[j]?).bind (·.dst)=some s)
  | _,_=>false)&&yF P o it.op
def zqE{γ:Gh}{w:World}{ρ:Env}{a:Act}{ops:Array Oper}{o:Oper}{it:AItem}(aa:EnvRel γ w ρ a.tmps)(U:(match o.guard,it.guard with
   | none,none=>true
   | some (j,Y),some (s,Z)=>decide (Y=Z)&&decide ((ops[j]?).bind (·.dst)=some s)
   | _,_=>false)=true){b:Bool}(h:gv it.guard ρ=some b):Region.wanted o (yielded ops a.tmps)=b:=by
 cases J:o.guard with
 | none =>
  cases I:it.guard with
  | some p=>simp[J,I]at U
  | none=>rw[I]at h;simp only[gv,Al1]at h;subst h;simp[Region.wanted,J]
 | some af =>
  obtain⟨j,Y⟩:=af;cases I:it.guard with
  | none=>simp[J,I]at U
  | some p =>
   obtain⟨s,Z⟩:=p;simp only[J,I,Al0,z6]at U;obtain⟨rfl,X⟩:=U;rw[I]at h;simp only[gv]at h;have hr:=aa.rep s;have ad:∀v,a.tmps.getD s undef=v->v≠undef->a.tmps[s]?=some v:=by
    intro v A ac;cases W:a.tmps[s]? with
    | none=>simp[zl6,W]at A;exact absurd A.symm ac
    | some u=>simp[zl6,W]at A;rw[A]
   cases ae:ρ s<;>simp only[ae]at h hr<;>try (cases h;done)
   ·rename_i ah;simp only[Al1]at h;subst h;generalize A:a.tmps.getD s undef=v at hr;cases hr;have:=ad _ A (by simp[undef]);simp[Region.wanted,J,yielded,X,this]
   ·rename_i vs;cases vs with
    | cons c r=>simp at h
    | nil =>
     simp only[Al1]at h;subst h;generalize A:a.tmps.getD s undef=v at hr;cases hr with
     | tup _ ag ab _ =>
      cases ag with
      | cons u r=>simp at ab
      | nil =>
       have:yielded ops a.tmps j=none:=by
        unfold yielded;rw[X];simp only[Option.bind_some];cases W:a.tmps[s]? with
        | none=>rfl
        | some u=>simp[zl6,W]at A;rw[A]
       simp[Region.wanted,J,this]
def zuW{γ:Gh}{w:World}{ρ:Env}{tmps:Array Value}{N:Nat}(A:EnvRel γ w ρ tmps)(W:tmps.size=N){d:Option Nat}(U:∀x,d=some x->x<N){c:AV}{v:Value}(hr:Rep γ w c v)(a:Act)(J:a.tmps=tmps):
  EnvRel γ w (ρ.set d c) (a.put d v).tmps:=by
 cases d with
 | none=>subst J;exact A
 | some x =>
  subst J;refine⟨A.tab,λn=>?_⟩;simp only[Env.set,Act.put];have X:=U x rfl;by_cases I:n=x
  ·subst I;simp only[if_true];have:(a.tmps.setIfInBounds n v).getD n undef=v:=by simp[zl6,W,X]
   rw[this];exact hr
  ·simp only[I,if_false];have:(a.tmps.setIfInBounds x v).getD n undef=a.tmps.getD n undef:=by
    simp only[zl6,Array.getElem?_setIfInBounds_ne (Ne.symm I)]
   rw[this];exact A.rep n
def zsI(a:Act)(d:Option Nat)(v:Value):(a.put d v).tmps.size=a.tmps.size:=by cases d<;>simp[Act.put]
def zxp{F:Fx}{a:Act}(h:∀n,n<F.lo->a.tmps.getD n undef=F.T.getD n undef){d:Option Nat}(I:∀x,d=some x->F.lo<=x/\x<F.N)(v:Value):∀n,n<F.lo->(a.put d v).tmps.getD n undef=F.T.getD n undef:=by
 intro n A;cases d with
 | none=>exact h n A
 | some x =>
  have J:=(I x rfl).1;have:(a.tmps.setIfInBounds x v).getD n undef=a.tmps.getD n undef:=by simp only[zl6,Array.getElem?_setIfInBounds_ne (show x≠n by omega)]
  simp only[Act.put];rw[this];exact h n A
def put_defers(a:Act)(d:Option Nat)(v:Value):(a.put d v).defers=a.defers:=by cases d<;>rfl
def zff{H0 H H':zb}{w0 w:World}(h:yn H0 w0 H)(J:w0.heap.size<=w.heap.size)(h':yn H w H'):yn H0 w0 H':=λb I=>by
 rcases h' b I with A|A
 ·exact h b A
 ·exact .inr (by omega)
def SInv.step{γ0:Gh}{w0:World}{H0:zb}{F:Fx}{γ γ':Gh}{w w':World}{H H':zb}{ρ:Env}{a:Act}(h:SInv γ0 w0 H0 F γ w H ρ a)(A:Ext (keysOf H) γ w γ' w')(X:zq γ' w' H')(U:yn H w H'){d:Option Nat}(J:∀x,d=some x->F.lo<=x/\x<F.N){c:AV}{v:Value}(hr:Rep γ' w' c v):SInv γ0 w0 H0 F γ' w' H' (ρ.set d c) (a.put d v) :=
 ⟨h.ext.trans A (λb Z W=>by
   rcases h.keys b W with I|I
   ·exact I
   ·omega),X,zff h.keys h.ext.mono.size U,zuW (h.env.mono A.mono) h.sz (λx Y=>(J x Y).2) hr a rfl,by rw[zsI];exact h.sz,zxp h.fx J v,by rw[put_defers];exact h.df.step A U⟩
def zd5(γ0:Gh)(w0:World)(H0:zb)(F:Fx)(KP:AV->zb->Prop)(ch:List PanicEntry)(a:Act)(w:World):Prop :=∃γ H c v,ch=[{ v,recovered:=false }]/\Ext (keysOf H0) γ0 w0 γ w/\zq γ w H/\yn H0 w0 H/\Rep γ w c v/\KP c H/\zan γ w/\a.tmps.size=F.N/\(∀n,n<F.lo->a.tmps.getD n undef=F.T.getD n undef)/\DfOk F w H a.defers
def zih{P:Program}{γ0:Gh}{w0:World}{H0:zb}{F:Fx}{KP:AV->zb->Prop}{ops:Array Oper}{i:Nat}{o:Oper}{it:AItem}{R:List Chk}{K:Env->zb->Prop}{next:Act->World->Prop}{Q:Exit->Act->World->Prop}(ah:∀aa a w,zd5 γ0 w0 H0 F KP aa a w->Q (.panic aa) a w)(hi:ops[i]?=some o)(ac:zaC F.N F.lo ops P o it=true){γ:Gh}{w:World}{H:zb}{ρ:Env}{a:Act}(h:SInv γ0 w0 H0 F γ w H ρ a)(A:ZR P KP it R ρ H K)(af:∀γ' w' H' ag Z,SInv γ0 w0 H0 F γ' w' H' ag Z->K ag H'->next Z w'):wpOp P ops Q i next a w:=by
 simp only[zaC,Al0,z6]at ac;obtain⟨⟨⟨ad,X⟩,aj⟩,ak⟩:=ac;have ae:∀x,it.dst=some x->F.lo<=x/\x<F.N:=λx am=>by rw[am]at X;simpa using X
 unfold wpOp;simp only[hi];unfold ZR at A;cases J:gv it.guard ρ with
 | none=>simp[J]at A
 | some b =>
  have al:=zqE (ops:=ops) (o:=o) h.env aj J;rw[al];cases b with
  | false =>simp only[J]at A;simp only[Al7,if_false];rw[ad];exact af _ _ _ _ _ (h.step (.refl _ _ _) h.st (yn.refl _ _) ae (.tup [] [] rfl (by simp))) A
  | true =>
   simp only[J]at A;simp only[if_true];refine .inl (zmK ak γ w H ρ a _ KP next Q h.env h.st A (λγ' w' H' c v I Y U hr W=>?_) (λγ' w' H' c v I Y U hr W=>ah _ _ _ ⟨γ',H',c,v,rfl,?_,Y,zff h.keys h.ext.mono.size U,hr,W,h.env.tab.mono I.mono,h.sz,h.fx,h.df.step I U⟩))
   ·rw[ad];exact af _ _ _ _ _ (h.step I Y U ae hr) W.2
   ·exact h.ext.trans I (λb X ai=>by
     rcases h.keys b ai with ab|ab
     ·exact ab
     ·omega)
def zbX{P:Program}{γ0:Gh}{w0:World}{H0:zb}{F:Fx}{KP:AV->zb->Prop}{ops:Array Oper}{Q:Exit->Act->World->Prop}{K:Env->zb->Prop}(U:∀I a w,zd5 γ0 w0 H0 F KP I a w->Q (.panic I) a w)(J:∀γ w H ρ a,SInv γ0 w0 H0 F γ w H ρ a->K ρ H->Q .normal a w):
  ∀(l:List Nat) (A:List (AItem×List Chk)),l.length=A.length->(∀(k i:Nat) (it:AItem×List Chk),l[k]?=some i->A[k]?=some it->∃o,ops[i]?=some o/\zaC F.N F.lo ops P o it.1=true) ->
  ∀(γ:Gh) (w:World) (H:zb) (ρ:Env) (a:Act),SInv γ0 w0 H0 F γ w H ρ a->yI P KP A ρ H K->wpOps P ops Q l a w
 | [],[],_,_,γ,w,H,ρ,a,h,hs=>J γ w H ρ a h hs
 | [],_::_,hl,_,_,_,_,_,_,_,_=>by simp at hl
 | _::_,[],hl,_,_,_,_,_,_,_,_=>by simp at hl
 | i::l,it::A,hl,hc,γ,w,H,ρ,a,h,hs=>by rw[wpOps_cons];obtain⟨o,ho,X⟩:=hc 0 i it rfl rfl;unfold yI at hs;exact zih U ho X h hs λγ' w' H' aa W h' Z=>zbX U J l A (by simpa using hl) (λk i it Y hit=>hc (k+1) i it (by simpa using Y) (by simpa using hit)) γ' w' H' aa W h' Z
def zcI(x i:AItem×List Chk):Bool :=
 x.1.apart i.1&&zcZ x.1 i.1&&(x.1.op.cls != .read||(match x.1.dst with|some d=>!x.1.looks.contains d|none=>false))&&(x.1.op.cls==.eff||x.2.isEmpty) &&
 (match i.1.dst with|some d=>x.2.all λc=>!(zaQ c).contains d|none=>true)&&(i.1.op.cls==.eff||i.2.isEmpty)
def znS(x i:AItem×List Chk):Prop:=∀c∈zat x.1 i.1,c∈i.2
def zmW{ρ:Env}{H:zb}{A:List Chk}(h:Zn ρ H A):∀ {B:List Chk},(∀c∈B,c∈A)->Zn ρ H B:=by
 have mem:∀ {A:List Chk},Zn ρ H A->∀c∈A,(gv c.2.1 ρ=some true->rev ρ H c.2.2=some (ρ c.1)):=by
  intro A;induction A with
  | nil=>intro _ c I;cases I
  | cons x A J =>
   obtain⟨d,g,o⟩:=x;intro h c I;rcases List.mem_cons.1 I with e|e
   ·subst e;exact h.1
   ·exact J h.2 c e
 intro B;induction B with
 | nil=>intro _;trivial
 | cons x B J =>obtain⟨d,g,o⟩:=x;intro U;exact⟨mem h (d,g,o) (U _ (zaW ..)),J λc I=>U c (zbR _ I)⟩
def zmX{x y:AItem}(h:x.apart y=true∨True):∀c∈entry x,∀n∈zaQ c,x.dst=some n∨n∈x.looks:=by
 intro c I n A;unfold entry at I;split at I
 ·rename_i d J;simp only[List.mem_singleton]at I;subst I;simp only[zaQ,List.mem_cons,List.mem_append]at A;rcases A with (rfl|A)|A
  ·exact .inl J
  ·exact .inr (zfa _ A)
  ·exact .inr (List.mem_append_right _ A)
 ·cases I
def front{P:Program}{KP:AV->zb->Prop}(aa:zjI KP)(i:AItem×List Chk){K:Env->zb->Prop}{q:List (AItem×List Chk)}:∀(p:List (AItem×List Chk)),
  (∀x∈p,zcI x i=true/\znS x i)->(∀(k l:Nat) (x y:AItem×List Chk),k<l->p[k]?=some x->p[l]?=some y->zat x.1 i.1≠[]->∀d,y.1.dst=some d->x.1.dst≠some d/\d ∉ x.1.looks) ->
  ∀(R:List Chk),(∀c∈R,c∈i.2)->(∀c∈R,∀x∈p,∀d,x.1.dst=some d->d ∉ zaQ c)->∀(ρ:Env) (H:zb),
  yI P KP (p++i::q) ρ H K->ZR P KP i.1 R ρ H (λW H'=>yI P KP (p++q) W H' K)
 | [],_,_,R,hRi,_,ρ,H,h=>by simp only[Z6]at h ⊢;unfold yI at h;exact zdV (λ_ _ hr=>zmW hr hRi) (λ_ _ h=>h) h
 | x::p,hp,hw,R,hRi,hRp,ρ,H,h=>by
  obtain⟨ac,aj⟩:=hp x (zaW ..);simp only[zcI,Al0,zcp]at ac;obtain⟨⟨⟨⟨⟨ad,al⟩,ak⟩,ae⟩,ab⟩,ag⟩:=ac;simp only[Al6]at h ⊢;unfold yI at h;have am:=λ(ρ:Env) (H:zb) (h':yI P KP (p++i::q) ρ H K)=>front (P:=P) aa i (K:=K) (q:=q) p (λy U=>hp y (zbR _ U)) (λk l y z ap ah Z=>hw (k+1) (l+1) y z (by omega) (by simpa using ah) (by simpa using Z)) (zat x.1 i.1++R)
   (λc J=>by
    rcases List.mem_append.1 J with A|A
    ·exact aj c A
    ·exact hRi c A)
   (λc J y U d I=>by
    rcases List.mem_append.1 J with A|A
    ·have af:zat x.1 i.1≠[]:=List.ne_nil_of_mem A;have X:c∈entry x.1:=by
      unfold zat at A;split at A
      ·exact A
      ·cases A
     obtain⟨l,Z⟩:=List.mem_iff_getElem?.1 U;obtain⟨an,ao⟩:=hw 0 (l+1) x y (by omega) rfl (by simpa using Z) af d I;intro ai;rcases zmX (y:=x.1) (.inr trivial) c X d ai with Y|Y
     ·exact an Y
     ·exact ao Y
    ·exact hRp c A y (zbR _ U) d I) ρ H h'
  have A:=zdV (P:=P) (KP:=KP) (λ_ _ hr=>hr) (λW H' h'=>am W H' h') h;have X:=swap aa (x:=x.1) (i:=i.1) (cx:=x.2) ad al (λe=>by
    rcases ak with h|h
    ·rw[e]at h;simp[bne,BEq.beq]at h
    ·split at h
     ·rename_i d I;exact⟨d,I,by simpa using h⟩
     ·cases h)
   (λe=>by
    rcases ae with h|h
    ·exact absurd (of_decide_eq_true h) e
    ·simpa using h)
   (λc J d I=>by rw[I]at ab;have:=zdi.1 ab c J;simpa using this)
   (R:=R) (λc J d I=>hRp c J x (zaW ..) d I)
   (λe=>by
    rcases ag with h|h
    ·exact absurd (of_decide_eq_true h) e
    ·have:i.2=[]:=by simpa using h
     cases R with
     | nil=>rfl
     | cons c r=>have:=hRi c (zaW ..);simp_all) A
  exact zdV (λ_ _ hr=>hr) (λW H' h'=>by unfold yI;exact h') X
abbrev Yv:=Nat×AItem×List Chk
def zq7(ops:Array Oper)(pre:Nat->List Nat)(r:List Yv)(x:Yv):Prop :=
 (∀i∈r,x.1∈pre i.1∨(zcI x.2 i.2=true/\znS x.2 i.2/\(zat x.2.1 i.2.1≠[]->∀y∈r,∀d,y.2.1.dst=some d->x.2.1.dst≠some d/\d ∉ x.2.1.looks))) /\
 (∀o,ops[x.1]?=some o->∀e∈o.after,Region.binds .any e=true->e.on<ops.size/\e.on≠x.1/\∀y∈r,y.1≠e.on)/\(∀y∈r,y.1≠x.1)
def POK(ops:Array Oper)(pre:Nat->List Nat):List Yv->Prop
 | []=>True
 | x::r=>zq7 ops pre r x/\POK ops pre r
def POK.drop{ops:Array Oper}{pre:Nat->List Nat}{i:Yv}{q:List Yv}:∀ {p:List Yv},POK ops pre (p++i::q)->POK ops pre (p++q)
 | [],h=>h.2
 | x::p,h=>by
  obtain⟨⟨U,W,X⟩,Y⟩:=h;have sub:∀y∈p++q,y∈p++i::q:=λy A=>by
   rcases List.mem_append.1 A with h|h
   ·exact zfa _ h
   ·exact List.mem_append_right _ (zbR _ h)
  refine⟨⟨λj ac=>?_,λo ho e ab Z=>?_,λy A=>X y (sub y A)⟩,POK.drop Y⟩
  ·rcases U j (sub j ac)with h|⟨I,J,aa⟩
   ·exact .inl h
   ·exact .inr ⟨I,J,λad y A=>aa ad y (sub y A)⟩
  ·obtain⟨I,ae,J⟩:=W o ho e ab Z;exact⟨I,ae,λy A=>J y (sub y A)⟩
def POK.before{ops:Array Oper}{pre:Nat->List Nat}{i:Yv}{q:List Yv}:∀ {p:List Yv},POK ops pre (p++i::q)->(∀x∈p,x.1 ∉ pre i.1) ->
  (∀x∈p.map (·.2),zcI x i.2=true/\znS x i.2) /\
  (∀(k l:Nat) (x y:AItem×List Chk),k<l->(p.map (·.2))[k]?=some x->(p.map (·.2))[l]?=some y->zat x.1 i.2.1≠[]->∀d,y.1.dst=some d->x.1.dst≠some d/\d ∉ x.1.looks)
 | [],_,_=>⟨by simp,by simp⟩
 | x::p,h,hn=>by
  obtain⟨⟨Z,_,_⟩,aa⟩:=h;obtain⟨ab,ac⟩:=POK.before aa (λy I=>hn y (zbR _ I));have U:=(Z i (by simp)).resolve_left (hn x (zaW ..));refine⟨λy I=>?_,λk l y z ae J A Y d X=>?_⟩
  ·simp only[List.map_cons,List.mem_cons]at I;rcases I with rfl|I
   ·exact⟨U.1,U.2.1⟩
   ·exact ab y I
  ·cases l with
   | zero=>omega
   | succ l =>
    simp only[List.map_cons,List.getElem?_cons_succ]at A;cases k with
    | zero =>
     simp only[List.map_cons,List.getElem?_cons_zero,Al1]at J;subst J;rw[Yg]at A;cases W:p[l]? with
     | none=>simp[W]at A
     | some ad =>simp only[W,ZS,Al1]at A;subst A;exact U.2.2 Y ad (zfa _ (List.mem_of_getElem? W)) d X
    | succ k =>simp only[List.map_cons,List.getElem?_cons_succ]at J;exact ac k l y z (by omega) J A Y d X
def POK.fresh{ops:Array Oper}{pre:Nat->List Nat}{i:Yv}{q:List Yv}:∀ {p:List Yv},POK ops pre (p++i::q)->∀y∈p++q,y.1≠i.1
 | [],h,y,A=>h.1.2.2 y A
 | x::p,h,y,A=>by
  simp only[Al6,List.mem_cons]at A;rcases A with rfl|A
  ·exact λe=>h.1.2.2 i (by simp) e.symm
  ·exact POK.fresh h.2 y A
def zqJ{P:Program}{γ0:Gh}{w0:World}{H0:zb}{F:Fx}{KP:AV->zb->Prop}(aq:zjI KP){ops:Array Oper}{pre:Nat->List Nat}{Q:Exit->Act->World->Prop}{K:Env->zb->Prop}(ar:∀aj a w,zd5 γ0 w0 H0 F KP aj a w->Q (.panic aj) a w)(ak:∀γ w H ρ a,SInv γ0 w0 H0 F γ w H ρ a->K ρ H->Q .normal a w)(hpre:∀(i:Nat) (o:Oper),ops[i]?=some o->∀k∈pre i,∃e∈o.after,Region.binds .any e=true/\(e.on=k∨k∈pre e.on)):
  ∀(fuel:Nat) (r:List Yv) (listed:Array Bool) (γ:Gh) (w:World) (H:zb) (ρ:Env) (a:Act),listed.size=ops.size->r.length<=fuel->POK ops pre r->(∀x∈r,∃o,ops[x.1]?=some o/\zaC F.N F.lo ops P o x.2.1=true) ->
   (∀i,i<ops.size->(listed.getD i true=false↔∃x∈r,x.1=i))->(∀j,listed.getD j false=true->∀k∈pre j,listed.getD k false=true) ->
   SInv γ0 w0 H0 F γ w H ρ a->yI P KP (r.map (·.2)) ρ H K->wpAny P .any ops Q fuel listed a w:=by
 have ao:∀(x:Yv) (r:List Yv) (listed:Array Bool),listed.size=ops.size->POK ops pre (x::r)->(∃o,ops[x.1]?=some o/\zaC F.N F.lo ops P o x.2.1=true) ->
   (∀i,i<ops.size->(listed.getD i true=false↔∃y∈x::r,y.1=i))->x.1∈Region.ready .any ops listed:=by
  intro x r listed hsz X ⟨o,ho,_⟩ J;rw[mem_ready];have ab:x.1<ops.size:=(zdF.1 ho).1;refine⟨(J x.1 ab).2 ⟨x,zaW ..,rfl⟩,o,ho,λe ah ay=>?_⟩;obtain⟨U,a3,I⟩:=X.1.2.1 o ho e ah ay;have Y:¬ (listed.getD e.on true=false):=by
   rw[J e.on U];rintro⟨y,A,af⟩;rcases List.mem_cons.1 A with rfl|A
   ·exact a3 af.symm
   ·exact I y A af
  have ap:e.on<listed.size:=by omega
  simp only[zl6,Array.getElem?_eq_getElem ap,Option.getD_some]at Y ⊢;cases a9:listed[e.on]<;>simp_all
 have clash:∀(listed:Array Bool) (j:Nat),listed.getD j true=false->listed.getD j false=true->False:=by intro listed j U I;simp only[zl6]at U I;cases W:listed[j]?<;>simp_all
 intro fuel;induction fuel with
 | zero =>
  intro r listed γ w H ρ a hsz hlen X ac J ag ae ad;have hr:r=[]:=List.eq_nil_of_length_eq_zero (by omega);subst hr;refine⟨?_,ak γ w H ρ a ae ad⟩;cases ai:Region.ready .any ops listed with
  | nil=>rfl
  | cons j ba =>
   have W:j∈Region.ready .any ops listed:=by rw[ai];exact zaW ..
   obtain⟨U,o,ho,_⟩:=mem_ready.1 W;obtain⟨x,ab,_⟩:=(J j (zdF.1 ho).1).1 U;cases ab
 | succ fuel a7 =>
  intro r listed γ w H ρ a hsz hlen X ac J ag ae ad;refine⟨λai=>?_,λi hi=>?_⟩
  ·cases r with
   | nil=>exact ak γ w H ρ a ae ad
   | cons x r =>have:=ao x r listed hsz X (ac x (zaW ..)) J;rw[ai]at this;cases this
  ·obtain⟨U,o,ho,au⟩:=mem_ready.1 hi;have a1:=(zdF.1 ho).1;obtain⟨x,ab,rfl⟩:=(J i a1).1 U;obtain⟨p,q,rfl⟩:=List.append_of_mem ab;have am:∀k∈pre x.1,listed.getD k false=true:=λk aa=>by
    obtain⟨e,ah,av,I⟩:=hpre x.1 o ho k aa;have Y:=au e ah av;rcases I with rfl|I
    ·exact Y
    ·exact ag e.on Y k I
   have a4:∀y∈p,y.1 ∉ pre x.1:=λy A aa=>by obtain⟨bc,a5,_⟩:=ac y (zfa _ A);exact clash listed y.1 ((J y.1 (zdF.1 a5).1).2 ⟨y,zfa _ A,rfl⟩) (am y.1 aa)
   obtain⟨aw,ax⟩:=X.before a4;obtain⟨o',al,az⟩:=ac x ab;rw[ho]at al;cases al;rw[List.map_append,List.map_cons]at ad;have a0:=front aq x.2 (p.map (·.2)) aw ax [] (by simp) (by simp) ρ H ad;refine zih ar ho az ae a0 λγ' w' H' a8 an a2 a6=>?_;refine a7 (p++q) _ γ' w' H' a8 an (by simpa using hsz) (by simp at hlen ⊢;omega) X.drop (λy A=>ac y ?_) (λj W=>?_) (λj W k aa=>?_) a2 (by rw[List.map_append];exact a6)
   ·rcases List.mem_append.1 A with h|h
    ·exact zfa _ h
    ·exact List.mem_append_right _ (zbR _ h)
   ·by_cases Z:x.1=j
    ·subst Z;constructor
     ·intro I;have Y:x.1<listed.size:=by omega
      simp[Y]at I
     ·rintro⟨y,A,af⟩;exact absurd af (X.fresh y A)
    ·rw[getD_set_ne true Z,J j W];constructor
     ·rintro⟨y,A,rfl⟩;refine⟨y,?_,rfl⟩;rcases List.mem_append.1 A with h|h
      ·exact zfa _ h
      ·rcases List.mem_cons.1 h with rfl|h
       ·exact absurd rfl Z
       ·exact List.mem_append_right _ h
     ·rintro⟨y,A,rfl⟩;refine⟨y,?_,rfl⟩;rcases List.mem_append.1 A with h|h
      ·exact zfa _ h
      ·exact List.mem_append_right _ (zbR _ h)
   ·by_cases Z:x.1=j
    ·subst Z;exact getD_set_true (am k aa)
    ·rw[getD_set_ne false Z]at W;exact getD_set_true (ag j W k aa)
def zdz(items:List AItem)(l:List Nat):List Chk:=l.flatMap λk=>match items[k]? with|some x=>entry x|none=>[]
def zaj(items:List AItem):List (AItem×List Chk):=items.map λit=>(it,zdz items it.chk)
abbrev Row:=Nat×Nat×AItem
def Z5:Nat->List Nat->List AItem->List Row
 | k,i::c,it::its=>(k,i,it)::Z5 (k+1) c its
 | _,_,_=>[]
def zdU(items:List AItem)(r:Row):Yv:=(r.2.1,r.2.2,zdz items r.2.2.chk)
def zw9(ops:Array Oper)(pre:List (List Nat))(items:List AItem)(r:List Row)(x:Row):Bool :=
 (r.all λi=>(pre.getD i.2.1 []).contains x.2.1 || (zcI (zdU items x).2 (zdU items i).2&&((zat x.2.2 i.2.2).isEmpty||(i.2.2.chk.contains x.1&&r.all λy=>match y.2.2.dst with|some d=>x.2.2.dst != some d&&!x.2.2.looks.contains d|none=>true)))) &&
 (match ops[x.2.1]? with|some o=>o.after.all λe=>!Region.binds .any e||(decide (e.on<ops.size)&&e.on != x.2.1&&r.all λy=>y.2.1 != e.on)|none=>false) &&
 (r.all λy=>y.2.1 != x.2.1)
def zwq(ops:Array Oper)(pre:List (List Nat))(items:List AItem):List Row->Bool
 | []=>true
 | x::r=>zw9 ops pre items r x&&zwq ops pre items r
def zsi(ops:Array Oper):List (List Nat) :=ops.toList.foldl (λacc o=>acc++[((o.after.toList.filter (Region.binds .any)).flatMap λe=>e.on::acc.getD e.on []).eraseDups]) []
def preB(ops:Array Oper)(pre:List (List Nat)):Bool :=
 (List.range ops.size).all λi=>(pre.getD i []).all λk=>match ops[i]? with
  | some o=>o.after.any λe=>Region.binds .any e&&(e.on==k||(pre.getD e.on []).contains k)
  | none=>true
def zgj(P:Program)(N lo:Nat)(ops:Array Oper)(c:List Nat)(items:List AItem):Bool :=
 let rows:=Z5 0 c items
 P.follows .mixedOrders&&decide (c.length=items.length)&&decide (c.length=ops.size)&&((List.range ops.size).all λi=>c.contains i) &&
 (rows.all λr=>match ops[r.2.1]? with|some o=>zaC N lo ops P o r.2.2|none=>false)&&preB ops (zsi ops)&&zwq ops (zsi ops) items rows
def zll(P:Program)(N lo:Nat)(ops:Array Oper)(items:List AItem):Bool :=decide (ops.size=items.length)&&((ops.toList.zip items).all λx=>zaC N lo ops P x.1 x.2)
def zj8{items:List AItem}:∀(c:List Nat) (A:List AItem) (k:Nat),c.length=A.length->(∀j x,A[j]?=some x->items[k+j]?=some x) ->
  (Z5 k c A).map (λr=>(zdU items r).2)=A.map (λit=>(it,zdz items it.chk))/\(Z5 k c A).map (·.2.1)=c/\∀r∈Z5 k c A,items[r.1]?=some r.2.2
 | [],[],_,_,_=>by simp[Z5]
 | [],_::_,_,h,_=>by simp at h
 | _::_,[],_,h,_=>by simp at h
 | i::c,it::A,k,h,hi=>by
  obtain⟨I,J,U⟩:=zj8 c A (k+1) (by simpa using h) (λj x W=>by have:=hi (j+1) x (by simpa using W);rwa [show k+(j+1)=k+1+j by omega]at this);refine⟨by rw[Z5,List.map_cons,List.map_cons,I];rfl,by simp[Z5,J],λr hr=>?_⟩;simp only[Z5,List.mem_cons]at hr;rcases hr with rfl|hr
  ·have:=hi 0 it rfl;simpa using this
  ·exact U r hr
def zmY{ops:Array Oper}{pre:List (List Nat)}{items:List AItem}:∀(r:List Row),(∀x∈r,items[x.1]?=some x.2.2)->zwq ops pre items r=true->(∀x∈r,∃o,ops[x.2.1]?=some o)->POK ops (λi=>pre.getD i []) (r.map (zdU items))
 | [],_,_,_=>trivial
 | x::r,hi,h,ho=>by
  simp only[zwq,Al0,zw9]at h;obtain⟨⟨⟨Z,U⟩,aa⟩,ab⟩:=h;refine⟨⟨λi ai=>?_,λo am e ag ac=>?_,λy A=>?_⟩,zmY r (λy A=>hi y (zbR _ A)) ab (λy A=>ho y (zbR _ A))⟩
  ·obtain⟨i,aj,rfl⟩:=List.mem_map.1 ai;have:=zdi.1 Z i aj;simp only[zcp,Al0]at this;rcases this with W|⟨W,I⟩
   ·left;show x.2.1∈pre.getD i.2.1 [];simpa using W
   ·right;refine⟨W,λc Y=>?_,λal y A d ae=>?_⟩
    ·have X:(zat x.2.2 i.2.2).isEmpty=false:=by
      have:c∈zat x.2.2 i.2.2:=Y;cases ah:zat x.2.2 i.2.2<;>simp_all
     rw[X]at I;simp only[Al7,false_or]at I;have ak:x.1∈i.2.2.chk:=by simpa using I.1
     have ad:c∈entry x.2.2:=by
      have:c∈zat x.2.2 i.2.2:=Y;unfold zat at this;split at this
      ·exact this
      ·cases this
     show c∈zdz items i.2.2.chk;unfold zdz;rw[List.mem_flatMap];exact⟨x.1,ak,by rw[hi x (zaW ..)];exact ad⟩
    ·obtain⟨y,J,rfl⟩:=List.mem_map.1 A;have X:(zat x.2.2 i.2.2).isEmpty=false:=by
      have:zat x.2.2 i.2.2≠[]:=al;cases ah:zat x.2.2 i.2.2<;>simp_all
     rw[X]at I;simp only[Al7,false_or]at I;have:=zdi.1 I.2 y J;have af:y.2.2.dst=some d:=ae;rw[af]at this;simp only[Al0,bne_iff_ne,ne_eq,Bool.not_eq_true']at this;exact⟨this.1,by show ¬ d∈x.2.2.looks;simpa using this.2⟩
  ·have an:ops[x.2.1]?=some o:=am;rw[an]at U;simp only at U;have:=Array.all_eq_true_iff_forall_mem.1 U e ag;simp only[ac,Bool.not_true,Bool.false_or,Al0,z6,bne_iff_ne,ne_eq]at this;refine⟨this.1.1,this.1.2,λy A=>?_⟩;obtain⟨y,J,rfl⟩:=List.mem_map.1 A;have:=zdi.1 this.2 y J;show y.2.1≠e.on;simpa using this
  ·obtain⟨y,J,rfl⟩:=List.mem_map.1 A;have:=zdi.1 aa y J;simpa[zdU]using this
def ztI{P:Program}{γ0:Gh}{w0:World}{H0:zb}{F:Fx}{KP:AV->zb->Prop}(ae:zjI KP){ops:Array Oper}{Q:Exit->Act->World->Prop}{K:Env->zb->Prop}{c:List Nat}{items:List AItem}(af:∀X a w,zd5 γ0 w0 H0 F KP X a w->Q (.panic X) a w)(ad:∀γ w H ρ a,SInv γ0 w0 H0 F γ w H ρ a->K ρ H->Q .normal a w)(h:zgj P F.N F.lo ops c items=true){γ:Gh}{w:World}{H:zb}{ρ:Env}{a:Act}(A:SInv γ0 w0 H0 F γ w H ρ a)(aq:yI P KP (zaj items) ρ H K):wpAny P .any ops Q ops.size (Array.replicate ops.size false) a { w with drawn:=w.drawn+1 }/\P.follows .mixedOrders=true:=by
 simp only[zgj,Al0,z6]at h;obtain⟨⟨⟨⟨⟨⟨am,aj⟩,ak⟩,ag⟩,hit⟩,hpre⟩,an⟩:=h;obtain⟨ao,aa,ap⟩:=zj8 (items:=items) c items 0 aj (λj x W=>by simpa using W);refine⟨?_,am⟩;have ai:SInv γ0 w0 H0 F γ w.drew H ρ a :=⟨A.ext.trans (YA (λ_=>False) γ w) (λ_ _ f=>f.elim),A.st.kept (YA (λ_=>False) γ w) (λ_ _ _ f=>f),A.keys,A.env.mono (YA (λ_=>False) γ w).mono,A.sz,A.fx,A.df.step (YA (keysOf H) γ w) (yn.refl _ _)⟩;have ab:∀x∈Z5 0 c items,∃o,ops[x.2.1]?=some o/\zaC F.N F.lo ops P o x.2.2=true:=λx I=>by
  have:=zdi.1 hit x I;split at this
  ·rename_i o ho;exact⟨o,ho,this⟩
  ·cases this
 refine zqJ ae (pre:=λi=>(zsi ops).getD i []) af ad (λi o ho k Z=>?_) ops.size ((Z5 0 c items).map (zdU items)) _ γ w.drew H ρ a (by simp) ?_ (zmY _ ap an λx I=>let ⟨o,ho,_⟩:=ab x I;⟨o,ho⟩) (λx I=>?_) (λi hi=>?_) (λj W=>?_) ai ?_
 ·have ac:=zdi.1 hpre i (List.mem_range.2 (zdF.1 ho).1);have J:=zdi.1 ac k Z;rw[ho]at J;simp only at J;obtain⟨e,ah,U⟩:=Array.any_eq_true'.1 J;simp only[Al0,zcp,beq_iff_eq]at U;exact⟨e,ah,U.1,U.2.imp (λh=>h) (λh=>by simpa using h)⟩
 ·have:=congrArg List.length aa;rw[List.length_map]at this;rw[List.length_map,this,ak];exact Al4 _
 ·obtain⟨x,ar,rfl⟩:=List.mem_map.1 I;exact ab x ar
 ·constructor
  ·intro _;have:=zdi.1 ag i (List.mem_range.2 hi);have Y:i∈c:=by simpa using this
   rw[<-aa]at Y;obtain⟨r,hr,rfl⟩:=List.mem_map.1 Y;exact⟨zdU items r,List.mem_map.2 ⟨r,hr,rfl⟩,rfl⟩
  ·intro _;simp[hi]
 ·intro k Z;by_cases al:j<ops.size<;>simp[al]at W
 ·have e:((Z5 0 c items).map (zdU items)).map (·.2)=zaj items:=by
   rw[List.map_map];exact ao
  rw[e];exact aq
def zti{P:Program}{γ0:Gh}{w0:World}{H0:zb}{F:Fx}{KP:AV->zb->Prop}(U:zjI KP){ops:Array Oper}{Q:Exit->Act->World->Prop}{K:Env->zb->Prop}{c:List Nat}{items:List AItem}(W:∀A a w,zd5 γ0 w0 H0 F KP A a w->Q (.panic A) a w)(J:∀γ w H ρ a,SInv γ0 w0 H0 F γ w H ρ a->K ρ H->Q .normal a w)(h:zgj P F.N F.lo ops c items=true){γ:Gh}{w:World}{H:zb}{ρ:Env}{a:Act}(X:SInv γ0 w0 H0 F γ w H ρ a)(Z:yI P KP (zaj items) ρ H K)(t:Nat):
  wpOps P ops Q (Region.schedule (P.follows .mixedOrders) ops t) a { w with drawn:=w.drawn+1 }:=by
 obtain⟨I,Y⟩:=ztI U W J h X Z;simp only[Region.schedule,Y,Bool.true_or,if_true];exact wpAny_sound ops.size t _ a _ I
def zoe{P:Program}{γ0:Gh}{w0:World}{H0:zb}{F:Fx}{KP:AV->zb->Prop}(J:zjI KP){id:Nat}{ops:Array Oper}{Q:Exit->Act->World->Prop}{K:Env->zb->Prop}{c:List Nat}{items:List AItem}(U:∀A a w,zd5 γ0 w0 H0 F KP A a w->Q (.panic A) a w)(I:∀γ w H ρ a,SInv γ0 w0 H0 F γ w H ρ a->K ρ H->Q .normal a w)(h:zgj P F.N F.lo ops c items=true){γ:Gh}{w:World}{H:zb}{ρ:Env}{a:Act}(W:SInv γ0 w0 H0 F γ w H ρ a)(X:yI P KP (zaj items) ρ H K):(Code.region id ops true).wp P Q a w :=
 wp_region_draw (zti J U I h W X)
def zvq{P:Program}{γ0:Gh}{w0:World}{H0:zb}{F:Fx}{KP:AV->zb->Prop}{ops:Array Oper}{Q:Exit->Act->World->Prop}{K:Env->zb->Prop}{items:List AItem}(W:∀I a w,zd5 γ0 w0 H0 F KP I a w->Q (.panic I) a w)(U:∀γ w H ρ a,SInv γ0 w0 H0 F γ w H ρ a->K ρ H->Q .normal a w)(h:zll P F.N F.lo ops items=true){γ:Gh}{w:World}{H:zb}{ρ:Env}{a:Act}(Y:SInv γ0 w0 H0 F γ w H ρ a)(ab:yI P KP (zaj items) ρ H K):wpOps P ops Q (List.range ops.size) a w:=by
 simp only[zll,Al0,z6]at h;obtain⟨aa,X⟩:=h;refine zbX W U (List.range ops.size) (zaj items) (by simp[zaj,aa]) (λk i it Z hit=>?_) γ w H ρ a Y ab;obtain⟨A,J⟩:=zaB.1 Z;simp at A J;subst J;simp only[zaj,Yg,zbA]at hit;obtain⟨x,ac,rfl⟩:=hit;refine⟨ops[k],by simp[A],?_⟩;have ad:(ops.toList.zip items)[k]?=some (ops[k],x):=by rw[List.getElem?_zip_eq_some];exact⟨by simp[A],ac⟩
 exact zdi.1 X _ (List.mem_of_getElem? ad)
def zqB{P:Program}{γ0:Gh}{w0:World}{H0:zb}{F:Fx}{KP:AV->zb->Prop}{id:Nat}{ops:Array Oper}{Q:Exit->Act->World->Prop}{K:Env->zb->Prop}{items:List AItem}(J:∀A a w,zd5 γ0 w0 H0 F KP A a w->Q (.panic A) a w)(I:∀γ w H ρ a,SInv γ0 w0 H0 F γ w H ρ a->K ρ H->Q .normal a w)(h:zll P F.N F.lo ops items=true){γ:Gh}{w:World}{H:zb}{ρ:Env}{a:Act}(U:SInv γ0 w0 H0 F γ w H ρ a)(W:yI P KP (zaj items) ρ H K):(Code.region id ops false).wp P Q a w :=
 wp_region (zvq J I h U W)
inductive AC where
 | skip
 | reg (c:List Nat) (items:List AItem)
 | seq (a b:AC)
 | cond (c:Opd) (t e:AC)
 | block (id:Nat) (b:AC)
 | loop (keep:List Nat) (b:AC)
 | scope (b:AC)
 | exit (id:Nat)
 | ret
inductive AExit where
 | normal
 | exit (id:Nat)
 | ret
def Zb:List (Nat×AV)->Env
 | [],_=>.any
 | (d,c)::r,n=>if n=d then c else Zb r n
def zoX(l:List (Nat×AV))(d n:Nat)(c:AV):Zb ((d,c)::l) n=if n=d then c else Zb l n:=rfl
def Env.keep(ρ:Env)(l:List Nat):Env:=Zb (l.map λn=>(n,ρ n))
def zp3(K:Env->zb->Prop)(Q:AExit->Env->zb->Prop):AExit->Env->zb->Prop
 | .normal=>K
 | e=>Q e
def zgU(id:Nat)(Q:AExit->Env->zb->Prop):AExit->Env->zb->Prop
 | .exit i=>if i=id then Q .normal else Q (.exit i)
 | e=>Q e
def ztb(c:AV)(X Y:Prop):Prop :=
 match c with
 | .bool true=>X
 | .bool false=>Y
 | .ubool p=>(p->X)/\Y
 | _=>False
def AC.flat:AC->Bool
 | .seq a b|.cond _ a b=>a.flat&&b.flat
 | .block _ b=>b.flat
 | .loop _ _|.scope _=>false
 | _=>true
def AC.plain:AC->Bool
 | .seq a b|.cond _ a b=>a.plain&&b.plain
 | .block _ b|.loop _ b|.scope b=>b.plain
 | _=>true
def awp(P:Program)(KP:AV->zb->Prop):AC->(AExit->Env->zb->Prop)->Env->zb->Prop
 | .skip,Q,ρ,H=>Q .normal ρ H
 | .reg _ items,Q,ρ,H=>yI P KP (zaj items) ρ H (Q .normal)
 | .seq a b,Q,ρ,H=>awp P KP a (zp3 (awp P KP b Q) Q) ρ H
 | .cond c t e,Q,ρ,H=>ztb (c.ev ρ) (awp P KP t Q ρ H) (awp P KP e Q ρ H)
 | .block id b,Q,ρ,H=>awp P KP b (zgU id Q) ρ H
 | .loop keep b,Q,ρ,H=>∃I:Nat->Env->zb->Prop,(∃n,I n (ρ.keep keep) H)/\∀n ρ H,I n ρ H->awp P KP b (zp3 (λρ' H'=>∃m,m<n/\I m (ρ'.keep keep) H') Q) ρ H
 | .scope b,Q,ρ,H=>awp P KP b Q ρ H
 | .exit id,Q,ρ,H=>Q (.exit id) ρ H
 | .ret,Q,ρ,H=>Q .ret ρ H
def yW(P:Program)(N lo:Nat):Code->AC->Bool
 | .skip,.skip=>true
 | .label _,.skip=>true
 | .region _ ops draw,.reg c items=>if draw then zgj P N lo ops c items else zll P N lo ops items
 | .seq a b,.seq a' b'=>yW P N lo a a'&&yW P N lo b b'
 | .cond c t e,.cond c' t' e'=>zN c c'&&yW P N lo t t'&&yW P N lo e e'
 | .block id b,.block id' b'=>decide (id=id')&&yW P N lo b b'
 | .loop b,.loop _ b'=>yW P N lo b b'
 | .scope b,.scope b'=>yW P N lo b b'
 | .exit id,.exit id'=>decide (id=id')
 | .ret,.ret=>true
 | _,_=>false
def lift(γ0:Gh)(w0:World)(H0:zb)(F:Fx)(KP:AV->zb->Prop)(Q:AExit->Env->zb->Prop):Exit->Act->World->Prop
 | .normal,a,w=>∃γ H ρ,SInv γ0 w0 H0 F γ w H ρ a/\Q .normal ρ H
 | .exit id,a,w=>∃γ H ρ,SInv γ0 w0 H0 F γ w H ρ a/\Q (.exit id) ρ H
 | .ret,a,w=>∃γ H ρ,SInv γ0 w0 H0 F γ w H ρ a/\Q .ret ρ H
 | .panic ch,a,w=>zd5 γ0 w0 H0 F KP ch a w
 | .goto _,_,_=>False
 | .outgrown,_,_=>False
def znr{γ:Gh}{w:World}{ρ:Env}{tmps:Array Value}(h:EnvRel γ w ρ tmps)(l:List Nat):EnvRel γ w (ρ.keep l) tmps:=by
 refine⟨h.tab,λn=>?_⟩;unfold Env.keep;induction l with
 | nil=>exact .any _
 | cons x l A =>
  simp only[List.map_cons,Zb];split
  ·rename_i e;subst e;exact h.rep n
  ·exact A
def least{p:Nat->Prop}(h:∃n,p n):∃n,p n/\∀m,p m->n<=m:=by
 obtain⟨n,U⟩:=h;induction n using Nat.strongRecOn with
 | _ n X =>
  by_cases I:∃m,m<n/\p m
  ·obtain⟨m,A,W⟩:=I;exact X m A W
  ·exact⟨n,U,λm A=>Nat.le_of_not_lt λJ=>I ⟨m,J,A⟩⟩
def zrB{P:Program}{Q:Exit->Act->World->Prop}{c:Code}(A:Nat->Act->World->Prop){a:Act}{w:World}{n:Nat}(X:A n a w)(round:∀n a w,A n a w->c.wp P (Exit.then (λI w'=>∃m,m<n/\A m I w') Q) a w):(Code.loop c).wp P Q a w:=by
 classical
 refine wp_loop (λa w=>∃n,A n a w) (λa w=>if h:∃n,A n a w then Classical.choose (least h)else 0) ⟨n,X⟩ (λa w U=>?_);have Y:=Classical.choose_spec (least U);refine wp_mono (round _ a w Y.1) (λe I w' hq=>?_);cases e<;>first|exact hq|skip
 obtain⟨m,aa,J⟩:=hq;refine⟨⟨m,J⟩,?_⟩;have W:∃n,A n I w':=⟨m,J⟩;have Z:=(Classical.choose_spec (least W)).2 m J;simp only[U,W,dif_pos];omega
def cells_of_cell{w:World}{b k:Nat}{v:Value}(h:w.cell? ⟨b,k,none⟩=some v):∃(arr:Array Value) (E:TypeId) (fr:Nat×Nat),w.heap[b]?=some (.cells arr E fr):=by
 unfold World.cell? at h;split at h
 ·rename_i c E fr A;exact⟨c,E,fr,A⟩
 ·cases h
def zwf(γ:Gh){w:World}{l:Nat}{o o':Obj}(h:w.heap[l]?=some o)(U:∀arr E fr,o≠.cells arr E fr)(W:∀arr E fr,o'≠.cells arr E fr):Ext (λb=>b=l) γ w γ (w.putObj l o'):=by
 have I:∀b,b≠l->(w.putObj l o').heap[b]?=w.heap[b]?:=λb A=>World.putObj_heap_other A;have X:∀b o v,w.cell? ⟨b,o,none⟩=some v->b≠l:=λb k v J e=>by subst e;obtain⟨arr,E,fr,A⟩:=cells_of_cell J;rw[h]at A;exact U _ _ _ (Option.some.inj A)
 refine⟨⟨by simp,λb k v J Y=>⟨Y,?_⟩,λb arr E fr A=>⟨arr,?_,rfl⟩⟩,rfl,rfl,λa Z=>?_,λb _ A=>⟨rfl,I b A⟩⟩
 ·simp only[World.cell?,I b (X b k v J)];exact J
 ·rw[I b (λe=>by subst e;rw[h]at A;exact U _ _ _ (Option.some.inj A))];exact A
 ·by_cases e:a.block=l
  ·simp only[World.frozen?,e,h,World.putObj_heap_same (zdF.1 h).1];cases o<;>cases o'<;>first|rfl|exact absurd rfl (U _ _ _)|exact absurd rfl (W _ _ _)
  ·simp only[World.frozen?,I _ e]
def pl2{p q:Bool}{A:Prop}(h:(p&&q)=true∨A):(p=true∨A)/\(q=true∨A):=by
 rcases h with h|h
 ·simp only[Al0]at h;exact⟨.inl h.1,.inl h.2⟩
 ·exact⟨.inr h,.inr h⟩
def zay{P:Program}{γ0:Gh}{w0:World}{H0:zb}{F:Fx}{KP:AV->zb->Prop}(an:zjI KP):∀(ab:AC) (code:Code) (Q:AExit->Env->zb->Prop),(ab.plain=true∨(F.rf=true/\F.keep=[]/\F.base<=w0.heap.size))->yW P F.N F.lo code ab=true ->
  ∀(γ:Gh) (w:World) (H:zb) (ρ:Env) (a:Act),SInv γ0 w0 H0 F γ w H ρ a->awp P KP ab Q ρ H->code.wp P (lift γ0 w0 H0 F KP Q) a w:=by
 intro ab;induction ab with
 | skip =>
  intro code Q W A γ w H ρ a I J;cases code<;>simp only[yW]at A<;>try (cases A;done)
  ·exact wp_skip ⟨γ,H,ρ,I,J⟩
  ·exact wp_label ⟨γ,H,ρ,I,J⟩
 | reg c items =>
  intro code Q W A γ w H ρ a I J;cases code<;>simp only[yW]at A<;>try (cases A;done)
  rename_i id ops draw;have ah:∀ac a w,zd5 γ0 w0 H0 F KP ac a w->lift γ0 w0 H0 F KP Q (.panic ac) a w:=λ_ _ _ h=>h;have ag:∀γ w H ρ a,SInv γ0 w0 H0 F γ w H ρ a->Q .normal ρ H->lift γ0 w0 H0 F KP Q .normal a w:=λγ w H ρ a Y X=>⟨γ,H,ρ,Y,X⟩;cases draw with
  | true=>simp only[if_true]at A;exact zoe an ah ag A I J
  | false=>simp only[Al7,if_false]at A;exact zqB ah ag A I J
 | seq x y av aw =>
  intro code Q W A γ w H ρ a I J;cases code<;>simp only[yW]at A<;>try (cases A;done)
  simp only[Al0]at A;refine wp_seq (wp_mono (av _ _ (pl2 W).1 A.1 γ w H ρ a I J) λe af w' U=>?_);cases e with
  | normal=>obtain⟨γ',H',aa,Y,X⟩:=U;exact aw _ Q (pl2 W).2 A.2 γ' w' H' aa af Y X
  | exit id=>exact U
  | ret=>exact U
  | panic ac=>exact U
  | goto l=>exact U
  | outgrown=>exact U
 | cond c t e aj ai =>
  intro code Q W A γ w H ρ a I J;cases code<;>simp only[yW]at A<;>try (cases A;done)
  simp only[Al0]at A;have hr:=zr A.1.1 I.env;simp only[awp,ztb]at J;cases ar:c.ev ρ<;>simp only[ar]at J hr<;>try (exact False.elim J)
  ·rename_i b;generalize ad:a.eval _=v at hr;cases hr;cases b with
   | true=>exact wp_cond_true ad (aj _ Q (pl2 W).1 A.1.2 γ w H ρ a I J)
   | false=>exact wp_cond_false ad (ai _ Q (pl2 W).2 A.2 γ w H ρ a I J)
  ·rename_i p;generalize ad:a.eval _=v at hr;cases hr with
   | ubool _ b ao =>
    cases b with
    | true=>exact wp_cond_true ad (aj _ Q (pl2 W).1 A.1.2 γ w H ρ a I (J.1 (ao rfl)))
    | false=>exact wp_cond_false ad (ai _ Q (pl2 W).2 A.2 γ w H ρ a I J.2)
 | block id b ae =>
  intro code Q W A γ w H ρ a I J;cases code<;>simp only[yW]at A<;>try (cases A;done)
  simp only[Al0,z6]at A;obtain⟨rfl,A⟩:=A;rename_i au b0;refine wp_block (wp_mono (ae _ _ W A γ w H ρ a I J) λe af w' U=>?_);cases e with
  | normal=>exact U
  | exit i =>
   obtain⟨γ',H',aa,Y,X⟩:=U;simp only[zgU]at X;simp only[Exit.inBlock];by_cases hid:i=au
   ·simp only[hid,if_true]at X ⊢;exact⟨γ',H',aa,Y,X⟩
   ·simp only[hid,if_false]at X ⊢;exact⟨γ',H',aa,Y,X⟩
  | ret=>exact U
  | panic ac=>exact U
  | goto l=>exact U
  | outgrown=>exact U
 | loop keep b ae =>
  intro code Q W A γ w H ρ a I J;cases code<;>simp only[yW]at A<;>try (cases A;done)
  obtain⟨ak,⟨n,al⟩,aq⟩:=J;refine zrB (λn a w=>∃γ H ρ,SInv γ0 w0 H0 F γ w H ρ a/\ak n ρ H) (n:=n) ⟨γ,H,ρ.keep keep,⟨I.ext,I.st,I.keys,znr I.env keep,I.sz,I.fx,I.df⟩,al⟩ (λn a w ⟨γ,H,ρ,Y,X⟩=>?_);refine wp_mono (ae _ _ W A γ w H ρ a Y (aq n ρ H X)) λe af w' U=>?_;cases e with
  | normal =>obtain⟨γ',H',aa,Z,m,ap,am⟩:=U;exact⟨m,ap,γ',H',aa.keep keep,⟨Z.ext,Z.st,Z.keys,znr Z.env keep,Z.sz,Z.fx,Z.df⟩,am⟩
  | exit id=>exact U
  | ret=>exact U
  | panic ac=>exact U
  | goto l=>exact U
  | outgrown=>exact U
 | scope b ae =>
  intro code Q W A γ w H ρ a I J;cases code<;>simp only[yW]at A<;>try (cases A;done)
  refine wp_scope_straight (wp_mono (ae _ Q W A γ w H ρ a I J) λe af w' U=>?_);cases e<;>exact U
 | exit id =>
  intro code Q W A γ w H ρ a I J;cases code<;>simp only[yW]at A<;>try (cases A;done)
  simp only[z6]at A;subst A;exact wp_exit ⟨γ,H,ρ,I,J⟩
 | ret =>
  intro code Q W A γ w H ρ a I J;cases code<;>simp only[yW]at A<;>try (cases A;done)
  exact wp_ret ⟨γ,H,ρ,I,J⟩
inductive ARes where
 | t (n:Nat)
 | c (n sz:Nat) (ag:Bool)
structure AFn where
 N:Nat
 np:Nat
 res:List ARes
 body:AC
def z8(ρ:Env)(H:zb):ARes->Option AV
 | .t n=>some (ρ n)
 | .c n sz ag=>rev ρ H (.ld sz ag (.t n))
def zo(ρ:Env)(H:zb):List ARes->Option (List AV)
 | []=>some []
 | r::rs=>match z8 ρ H r,zo ρ H rs with
  | some v,some vs=>some (v::vs)
  | _,_=>none
def zP:List AV->AV
 | [v]=>v
 | vs=>.tup vs
def zaz(P:Program):List ResultVar->List ARes->Bool
 | [],[]=>true
 | .tmp t::rs,.t n::as=>t==n&&zaz P rs as
 | .cell a t::rs,.c n sz ag::as=>a==n&&((P.info? t).any λti=>decide (ti.size=sz))&&(P.underlying t).isSome&&decide (zev (P.underlying t)=ag)&&(ag||decide (sz=1))&&zaz P rs as
 | _,_=>false
def zfk(P:Program)(f:FuncId)(af:AFn):Bool :=
 match P.funcs[f]? with
 | some fn=>match fn.body with
  | some code=>decide (fn.ntmps=af.N)&&decide (af.np<=af.N)&&zaz P fn.results.toList af.res&&yW P af.N 0 code af.body
  | none=>false
 | none=>false
def Sub(A B:zb):Prop:=∀b o,A b=some o->B b=some o
def Sub.refl(A:zb):Sub A A:=λ_ _ h=>h
structure Low (B A:zb):Prop where
 keys:∀b,(B b).isSome=true->(A b).isSome=true
 st:∀γ w,zq γ w A->zq γ w B
def Low.of_sub{A B:zb}(h:Sub B A):Low B A:=⟨λb J=>by
 cases I:B b with
 | none=>simp[I]at J
 | some o=>simp[h b o I],λγ w U=>U.sub h⟩
def Low.refl(A:zb):Low A A:=Low.of_sub (Sub.refl A)
def Low.trans{A B C:zb}(h:Low A B)(h':Low B C):Low A C:=⟨λb I=>h'.keys b (h.keys b I),λγ w J=>h.st γ w (h'.st γ w J)⟩
def Low.upd{A B:zb}(h:Low B A){b:Nat}{o:AObj}(J:A b=none):Low B (A.upd b o) :=
 h.trans (Low.of_sub λc x I=>by
  have U:c≠b:=λe=>by subst e;rw[J]at I;cases I
  simp only[zb.upd,U,if_false];exact I)
def Low.cells{I:zb}{b:Nat}{cs:List AV}(U:I b=some (.cells cs)):Low (I.upd b (.cells (cs.map AV.strip1))) I:=by
 refine⟨λc A=>?_,λγ w W c o A=>?_⟩
 ·unfold zb.upd at A;split at A
  ·rename_i e;subst e;simp[U]
  ·exact A
 ·unfold zb.upd at A;split at A
  ·rename_i e;subst e;simp only[Al1]at A;subst A;cases W _ _ U with
   | cells _ vs E Z Y aa X hr =>
    refine .cells _ vs E Z Y (by simpa using aa) X λi c v A ab=>?_;rw[Yg]at A;cases J:cs[i]? with
    | none=>simp[J]at A
    | some x=>simp only[J,ZS,Al1]at A;subst A;exact(hr i x v J ab).strip1
  ·exact W c o A
def ZO:Nat->List AV->List (Nat×AV)
 | _,[]=>[]
 | k,c::cs=>(k,c)::ZO (k+1) cs
def zgH(res:List ARes)(Q:AEnd->zb->Prop):AExit->Env->zb->Prop
 | .exit _,_,_=>False
 | _,ρ,H=>match zo ρ H res with
  | some vs=>∃H',Low H' H/\Q (.ret (zP vs)) H'
  | none=>False
def zlV(Q:AEnd->zb->Prop):AV->zb->Prop:=λv H=>∃H',Low H' H/\Q (.pan v) H'
def zeQ(Q:AEnd->zb->Prop):zjI (zlV Q):=λv H b o A ⟨H',I,hq⟩=>⟨H',I.upd A,hq⟩
def zjt:∀(args:List AV) (k n:Nat),Zb (ZO k args) n=if k<=n then args.getD (n-k) .any else .any
 | [],k,n=>by simp[ZO,Zb]
 | c::cs,k,n=>by
  simp only[ZO,Zb,zjt cs (k+1) n];by_cases h:n=k
  ·subst h;simp
  ·simp only[h,if_false];by_cases I:k<=n
   ·have A:k+1<=n:=by omega
    simp only[I,A,if_true];rw[show n-k=(n-(k+1))+1 by omega];simp
   ·have A:¬ k+1<=n:=by omega
    simp[I,A]
def zhg{γ:Gh}{w:World}{args:List AV}{vs:List Value}(W:zan γ w)(h:zR γ w args vs)(m:Nat):EnvRel γ w (Zb (ZO 0 args)) (vs.toArray++Array.replicate m undef):=by
 refine⟨W,λn=>?_⟩;rw[zjt];simp only[Nat.zero_le,if_true,Nat.sub_zero];by_cases A:n<args.length
 ·have J:n<vs.length:=by rw[<-h.1];exact A
  have I:args.getD n .any=args[n]:=by simp[List.getD,A]
  have U:(vs.toArray++Array.replicate m undef).getD n undef=vs[n]:=by simp only[zl6];rw[Array.getElem?_append_left (by simpa using J)];simp[J]
  rw[I,U];exact h.2 n _ _ (Al9 A) (Al9 J)
 ·have I:args.getD n .any=.any:=by simp[List.getD,A]
  rw[I];exact .any _
theorem zgs {P:Program} {γ:Gh} {w:World} {H:zb} {ρ:Env} {a:Act} (he:EnvRel γ w ρ a.tmps) (hs:zq γ w H):∀(rs:List ResultVar) (as:List ARes) (cs:List AV),zaz P rs as=true->zo ρ H as=some cs ->
  ∃vs,(rs.mapM (m:=Sem) fun
   | .tmp t=>pure (a.tmps.getD t undef)
   | .cell x t=>do loadVar t (<-asAddr (a.tmps.getD x undef))).run P w=.ok vs w/\zR γ w cs vs
 | [],[],cs,_,h=>by simp only[zo,Al1]at h;subst h;exact⟨[],rfl,zR.nil⟩
 | [],_::_,_,h,_=>by simp[zaz]at h
 | .tmp t::_,[],_,h,_=>by simp[zaz]at h
 | .cell x t::_,[],_,h,_=>by simp[zaz]at h
 | .tmp t::rs,.c n sz ag::as,_,h,_=>by simp[zaz]at h
 | .cell x t::rs,.t n::as,_,h,_=>by simp[zaz]at h
 | .tmp t::rs,.t n::as,cs,hc,h=>by
  simp only[zaz,Al0,beq_iff_eq]at hc
  obtain⟨rfl,hc⟩:=hc
  simp only[zo,z8]at h
  cases hr:zo ρ H as with
  | none=>simp[hr]at h
  | some ds =>
   simp only[hr,Al1]at h
   subst h
   obtain⟨vs,hv,hrep⟩:=zgs he hs rs as ds hc hr
   exact⟨a.tmps.getD t undef::vs,by simp only[List.mapM_cons,Sem.run_bind,Sem.run_pure,Result.andThen_ok,hv],zR.cons (he.rep t) hrep⟩
 | .cell x t::rs,.c n sz ag::as,cs,hc,h=>by
  simp only[zaz,Al0,beq_iff_eq,z6,zcp]at hc
  obtain⟨⟨⟨⟨⟨rfl,h1⟩,h2⟩,h3⟩,h4⟩,hc⟩:=hc
  obtain⟨ti,hti,h1⟩:=yi h1
  obtain⟨d,hd⟩:=zjB.1 h2
  simp only[zo,z8]at h
  cases hv0:rev ρ H (.ld sz ag (.t x))with
  | none=>simp[hv0]at h
  | some v0 =>
   cases hr:zo ρ H as with
   | none=>simp[hv0,hr]at h
   | some ds =>
    simp only[hv0,hr,Al1]at h
    subst h
    obtain⟨vs,hv,hrep⟩:=zgs he hs rs as ds hc hr
    have hread := zxh (P := P) (o := { dst := none, op := .load t (.tmp x), type := 0, pos := "", after := #[], guard := none }) (x' := .t x) rfl (by simp [zN]) hti (by simpa using h1) hd h3 h4 γ w H ρ a v0 he hs hv0
    obtain⟨u,hu,hru⟩:=hread
    have hex:(do loadVar t (<-asAddr (a.tmps.getD x undef)):Sem Value).run P w=.ok u w:=by
     have hr1:=he.rep x
     simp only[rev,Opd.ev]at hv0
     simp only[execOp,Instr.loadAt,Act.eval,Sem.run_bind]at hu
     cases hx:ρ x<;>simp only[hx]at hv0 hr1<;>try (cases hv0;done)
     all_goals
      generalize hg:a.tmps.getD x undef=g at hr1 hu ⊢
      cases hr1
      simp only[Instr.sureAddr,asAddr,Sem.run_bind,Sem.run_pure,Result.andThen_ok]at hu ⊢
      generalize (loadVar t _).run P w=r at hu ⊢
      cases r with
      | ok v w'=>simp only[Result.andThen_ok,Result.ok.injEq,Next.value.injEq]at hu;rw[hu.1,hu.2]
      | halt x w'=>simp[Result.andThen]at hu
    exact⟨u::vs,by simp only[List.mapM_cons,Sem.run_bind]at hex ⊢;rw[hex];simp only[Result.andThen_ok,hv,Sem.run_pure],zR.cons hru hrep⟩
def zdL{P:Program}{γ:Gh}{w:World}{H:zb}{ρ:Env}{a:Act}{fn:Func}{as:List ARes}{cs:List AV}(I:EnvRel γ w ρ a.tmps)(W:zq γ w H)(A:zaz P fn.results.toList as=true)(h:zo ρ H as=some cs):
  ∃v,(results fn a.tmps).run P w=.ok v w/\Rep γ w (zP cs) v:=by
 obtain⟨vs,X,U⟩:=zgs (P:=P) I W fn.results.toList as cs A h;have J:(fn.results.mapM (m:=Sem) fun
   | .tmp t=>pure (a.tmps.getD t undef)
   | .cell x t=>do loadVar t (<-asAddr (a.tmps.getD x undef))).run P w=.ok vs.toArray w:=by
  rw[Array.mapM_eq_mapM_toList];simp only[Sem.run_map];have e:∀r:Result (List Value),r=.ok vs w->(r.andThen λa w'=>Result.ok a.toArray w')=.ok vs.toArray w:=λr hr=>by subst hr;rfl
  exact e _ X
 unfold results;rw[Sem.run_bind];have e:∀r:Result (Array Value),r=.ok vs.toArray w->(r.andThen λvs w'=>(pure (if h:vs.size=1 then vs[0]else .tuple vs):Sem Value).run P w')=.ok (if h:vs.toArray.size=1 then vs.toArray[0]else .tuple vs.toArray) w:=λr hr=>by subst hr;rfl
 refine⟨_,e _ J,?_⟩
 match cs,vs,U with
 | [],[],_=>exact .tup [] [] rfl (by simp)
 | [c],[v],h=>exact h.2 0 c v rfl rfl
 | c1::c2::cs,v1::v2::vs,h=>exact .tup _ _ h.1 h.2
 | [],_::_,h=>exact absurd h.1 (by simp)
 | _::_,[],h=>exact absurd h.1 (by simp)
 | [_],_::_::_,h=>exact absurd h.1 (by simp)
 | _::_::_,[_],h=>exact absurd h.1 (by simp)
def zdf{P:Program}{fn:Func}{tmps:Array Value}{R:Ending->World->Prop}{u:FrameMode}{γ:Gh}(W:u≠.run):∀(bs:List Nat) (w:World) (H:zb),bs.Nodup->(∀b∈bs,H b=none/\w.heap[b]?=some (.deferred (some [])))->zq γ w H ->
  (∀w',Ext (λb=>b∈bs) γ w γ w'->zq γ w' H->LeavesIn Fence.wide 0 P fn tmps R [] u w')->LeavesInM Fence.wide 0 P fn tmps R (bs.map zAf) u w
 | [],w,H,_,_,hs,h=>h w (.refl _ _ _) hs
 | b::bs,w,H,hnd,hb,hs,h=>by have I:=hb b (zaW ..);obtain⟨Y,Z⟩:=List.nodup_cons.1 hnd;have U:=zwf γ (o':=.deferred none) I.2 (λ_ _ _ h=>by cases h) (λ_ _ _ h=>by cases h);refine⟨W,.inl ⟨b,w.putObj b (.deferred none),rfl,run_takeDeferred I.2,?_⟩⟩;have aa:zq γ (w.putObj b (.deferred none)) H:=hs.kept U (λc o A e=>by subst e;rw[I.1]at A;cases A);refine zdf W bs _ H Z (λc A=>?_) aa λw' X ab=>h w' ((U.weaken λc A=>by subst A;exact zaW ..).trans X λc _ A=>zbR _ A) ab;have J:=hb c (zbR _ A);exact⟨J.1,(World.putObj_heap_other (λe=>by subst e;exact Y A)).trans J.2⟩
def zd.of_fn{P:Program}{f:FuncId}(A:AFn)(Z:zfk P f A=true){args:List AV}{H:zb}{Q:AEnd->zb->Prop}(a2:args.length<=A.np)(h:awp P (zlV Q) A.body (zgH A.res Q) (Zb (ZO 0 args)) H):zd P f args H Q:=by
 intro γ w vs az ax ak;unfold zfk at Z;cases ah:P.funcs[f]? with
 | none=>simp[ah]at Z
 | some ad =>
  simp only[ah]at Z;cases af:ad.body with
  | none=>simp[af]at Z
  | some code =>
   simp only[af,Al0,z6]at Z;obtain⟨⟨⟨al,a3⟩,av⟩,am⟩:=Z;refine(callsIn_wide (n:=0)).1 (callsIn_of_wp_marks ah af trivial (wpIn_wide.2 ?_));have hlen:vs.toArray.size<=A.N:=by simp only[List.size_toArray];rw[<-ak.1];omega
   have ap:SInv γ w H (Fx.marks A.N w.heap.size) γ w H (Zb (ZO 0 args)) { tmps:=vs.toArray++Array.replicate (ad.ntmps-vs.toArray.size) undef,defers:=[] } :=⟨.refl _ _ _,ax,yn.refl _ _,zhg az ak _,by show _=A.N;rw[al,Array.size_append,Array.size_replicate];omega,λn au=>absurd au (Nat.not_lt_zero n),DfOk.init rfl⟩;refine wp_mono (zay (F:=Fx.marks A.N w.heap.size) (zeQ Q) A.body code _ (.inr ⟨rfl,rfl,Al4 _⟩) am γ w H _ _ ap h) λe aa w' I=>?_;have old:∀(H':zb) (bs:List Nat),(∀b∈bs,w.heap.size<=b/\H' b=none/\w'.heap[b]?=some (.deferred (some [])))->∀b,b<w.heap.size->b∈bs->keysOf H b :=λH' bs h b X ar=>absurd (h b ar).1 (by omega);have fin:∀γ' H' W,SInv γ w H (Fx.marks A.N w.heap.size) γ' w' H' W aa->(match zo W H' A.res with|some vs=>∃Y,Low Y H'/\Q (.ret (zP vs)) Y|none=>False) ->
     LeavesInM Fence.wide 0 P ad aa.tmps (λe w'=>∃γ' H' r,Ext (λb=>(H b).isSome=true) γ w γ' w'/\zq γ' w' H' /\ (∀b,(H' b).isSome=true->(H b).isSome=true∨w.heap.size<=b)/\zfv γ' w' e r/\Q r H') aa.defers .returning w':=by
    intro γ' H' W J U;cases hr:zo W H' A.res with
    | none=>simp[hr]at U
    | some cs =>simp only[hr]at U;obtain⟨Y,ac,hq⟩:=U;obtain⟨bs,ag,ai,_,ab⟩:=J.df.eq;rw[ag,show (Fx.marks A.N w.heap.size).D=[] from rfl,List.append_nil];refine zdf (γ:=γ') (by simp) bs w' H' ai (λb X=>(ab b X).2) J.st λa0 I ae=>?_;obtain⟨v,aw,aj⟩:=zdL (P:=P) (J.env.mono I.mono) ae av hr;refine⟨v,aw,γ',Y,.ret (zP cs),J.ext.trans I (old H' bs ab),ac.st _ _ ae,λb X=>?_,aj,hq⟩;exact J.keys b (ac.keys b X)
   cases e with
   | normal=>obtain⟨γ',H',W,J,U⟩:=I;exact fin γ' H' W J U
   | ret=>obtain⟨γ',H',W,J,U⟩:=I;exact fin γ' H' W J U
   | exit id=>obtain⟨γ',H',W,J,U⟩:=I;exact U.elim
   | goto l=>exact I.elim
   | outgrown=>exact I.elim
   | panic a1 =>obtain⟨γ',H',c,v,rfl,ao,ay,aq,aj,⟨Y,ac,hq⟩,_,_,_,an⟩:=I;obtain⟨bs,ag,ai,_,ab⟩:=an.eq;show LeavesInM Fence.wide 0 P ad aa.tmps _ aa.defers _ w';rw[ag,show (Fx.marks A.N w.heap.size).D=[] from rfl,List.append_nil];refine zdf (γ:=γ') (by simp) bs w' H' ai (λb X=>(ab b X).2) ay λa0 I ae=>?_;exact⟨γ',Y,.pan c,ao.trans I (old H' bs ab),ac.st _ _ ae,λb X=>aq b (ac.keys b X),⟨v,rfl,aj.mono I.mono⟩,hq⟩
def ze(P:Program)(f:FuncId)(args:List AV)(r:AV):Prop:=zd P f args zb.emp λe H'=>e=.ret r/\H'=zb.emp
def zkV(H:zb):zb.union zb.emp H=H:=by funext n;simp[zb.union,zb.emp]
def zux(H:zb):zb.Disj zb.emp H:=λ_=>.inl rfl
def ze.use{P:Program}{f:FuncId}{args:List AV}{r:AV}(h:ze P f args r){H:zb}{K KP:AV->zb->Prop}(U:K r H):zd P f args H (ZT K KP):=by have:=h.frame (zux H);rw[zkV]at this;refine this.mono λe H' ⟨W,⟨J,A⟩,_,I⟩=>?_;subst J;subst A;subst I;rw[zkV];exact U
def zd.strip{P:Program}{f:FuncId}{args:List AV}{H:zb}{Q:AEnd->zb->Prop}(h:zd P f args H λe H'=>match e with|.ret v=>Q (.ret v.strip) H'|.pan v=>Q (.pan v) H'):zd P f args H Q :=
 λγ w vs I A J=>(h γ w vs I A J).mono λe w' ⟨γ',H',r,a,b,c,d,q⟩=>by
  cases r with
  | ret v =>
   refine⟨γ',H',.ret v.strip,a,b,c,?_,q⟩;cases e with
   | returned u=>exact Rep.strip d
   | panicked U=>exact d
   | outgrown=>exact d
  | pan v=>exact⟨γ',H',.pan v,a,b,c,d,q⟩
def ztN(r:AV):AEnd->zb->Prop
 | .ret v,H=>v.strip=r/\H=zb.emp
 | .pan _,_=>False
def ze.of_fn{P:Program}{f:FuncId}(A:AFn)(I:zfk P f A=true){args:List AV}{r:AV}(J:args.length<=A.np)(h:awp P (zlV (ztN r)) A.body (zgH A.res (ztN r)) (Zb (ZO 0 args)) zb.emp):ze P f args r:=by
 unfold ze;refine zd.strip ((zd.of_fn A I J h).mono λe H' hq=>?_);cases e with
 | ret v=>exact⟨by rw[hq.1],hq.2⟩
 | pan v=>exact hq.elim
def zrL{res:List ARes}{r:AV}{e:AExit}{ρ:Env}{H:zb}(W:∀i,e≠.exit i)(h:∃I,zo ρ H res=some I/\(zP I).strip=r):zgH res (ztN r) e ρ H:=by
 obtain⟨I,J,U⟩:=h;cases e with
 | exit i=>exact absurd rfl (W i)
 | normal=>simp only[zgH,J];exact⟨zb.emp,Low.of_sub λb o A=>by simp[zb.emp]at A,U,rfl⟩
 | ret=>simp only[zgH,J];exact⟨zb.emp,Low.of_sub λb o A=>by simp[zb.emp]at A,U,rfl⟩
def zsJ(x:Option AItem):List Chk:=match x with|some x=>entry x|none=>[]
def znX(d:Option Nat)(g:Option (Nat×Bool))(op:AOp)(c:List Nat):zsJ (some ⟨d,g,op,c⟩)=match d with|some d=>[(d,g,op)]|none=>[]:=by cases d<;>rfl
inductive Fr where
 | code (b:AC)
 | blk (id:Nat)
 | rep (keep:List Nat) (J:Env->zb->Prop)
def D(P:Program)(KP:AV->zb->Prop)(Q:AExit->Env->zb->Prop):List Fr->AExit->Env->zb->Prop
 | []=>Q
 | .code b::st=>zp3 (awp P KP b (D P KP Q st)) (D P KP Q st)
 | .blk id::st=>zgU id (D P KP Q st)
 | .rep keep J::st=>zp3 (λρ H=>J (ρ.keep keep) H) (D P KP Q st)
def goC(P:Program)(KP:AV->zb->Prop)(Q:AExit->Env->zb->Prop)(c:AC)(st:List Fr)(ρ:Env)(H:zb):Prop:=awp P KP c (D P KP Q st) ρ H
def goD(P:Program)(KP:AV->zb->Prop)(Q:AExit->Env->zb->Prop)(st:List Fr)(ρ:Env)(H:zb):Prop:=D P KP Q st .normal ρ H
def goE(P:Program)(KP:AV->zb->Prop)(Q:AExit->Env->zb->Prop)(e:AExit)(st:List Fr)(ρ:Env)(H:zb):Prop:=D P KP Q st e ρ H
def goI(P:Program)(KP:AV->zb->Prop)(Q:AExit->Env->zb->Prop)(all l:List AItem)(st:List Fr)(ρ:Env)(H:zb):Prop :=yI P KP (l.map λit=>(it,zdz all it.chk)) ρ H (λρ' H'=>D P KP Q st .normal ρ' H')
def goR(P:Program)(KP:AV->zb->Prop)(Q:AExit->Env->zb->Prop)(all l:List AItem)(st:List Fr)(R:List Chk)(ρ:Env)(H:zb):Prop :=Zn ρ H R/\goI P KP Q all l st ρ H
def goG(P:Program)(KP:AV->zb->Prop)(Q:AExit->Env->zb->Prop)(all l:List AItem)(st:List Fr)(g:AV)(want:Bool)(d:Option Nat)(op:AOp)(R:List Chk)(ρ:Env)(H:zb):Prop :=
 match g with
 | .bool b=>if b==want then aop P KP op ρ H (λv H'=>goR P KP Q all l st R (ρ.set d v) H')else goI P KP Q all l st (ρ.set d (.tup [])) H
 | .tup []=>goI P KP Q all l st (ρ.set d (.tup [])) H
 | _=>False
def goO(P:Program)(KP:AV->zb->Prop)(Q:AExit->Env->zb->Prop)(all l:List AItem)(st:List Fr)(d:Option Nat)(op:AOp)(R:List Chk)(ρ:Env)(H:zb):Prop :=aop P KP op ρ H (λv H'=>goR P KP Q all l st R (ρ.set d v) H')
def goV(P:Program)(KP:AV->zb->Prop)(Q:AExit->Env->zb->Prop)(all l:List AItem)(st:List Fr)(d:Option Nat)(ρ:Env)(H:zb)(v:Option AV):Prop :=
 match v with
 | some v=>goI P KP Q all l st (ρ.set d v) H
 | none=>False
def goK(P:Program)(KP:AV->zb->Prop)(Q:AExit->Env->zb->Prop)(all l:List AItem)(st:List Fr)(d:Option Nat)(R:List Chk)(ρ:Env)(f:FuncId)(args:List AV)(H:zb):Prop :=zd P f args H (ZT (λv H'=>goR P KP Q all l st R (ρ.set d v) H') KP)
def goA(P:Program)(KP:AV->zb->Prop)(Q:AExit->Env->zb->Prop)(all l:List AItem)(st:List Fr)(d:Option Nat)(R:List Chk)(ρ:Env)(H:zb)(op:AOp)(x:Option AObj):Prop :=
 match x with
 | some x=>∀b,H b=none->goR P KP Q all l st R (ρ.set d (zdI ρ b op)) (H.upd b x)
 | none=>zds H
def goP(P:Program)(KP:AV->zb->Prop)(Q:AExit->Env->zb->Prop)(all l:List AItem)(st:List Fr)(d:Option Nat)(R:List Chk)(ρ:Env)(sz bytes:Nat)(x y:AV)(H:zb):Prop :=zmH sz bytes x y H (λv H'=>goR P KP Q all l st R (ρ.set d v) H')
def goS(P:Program)(KP:AV->zb->Prop)(Q:AExit->Env->zb->Prop)(all l:List AItem)(st:List Fr)(d:Option Nat)(R:List Chk)(ρ:Env)(n:Nat)(x:AV)(y:List AV)(bx:Bool)(H:zb):Prop :=
 match x with
 | .ptr b off=>match H b with
  | some (.cells cs)=>y.length=n/\off+n<=cs.length/\bx=true/\goR P KP Q all l st R (ρ.set d (.tup [])) (H.upd b (.cells (splice cs off y)))
  | _=>False
 | _=>False
def goB(P:Program)(KP:AV->zb->Prop)(Q:AExit->Env->zb->Prop)(c:AV)(t e:AC)(st:List Fr)(ρ:Env)(H:zb):Prop :=ztb c (goC P KP Q t st ρ H) (goC P KP Q e st ρ H)
def goL(P:Program)(KP:AV->zb->Prop)(Q:AExit->Env->zb->Prop)(keep:List Nat)(b:AC)(st:List Fr)(ρ:Env)(H:zb):Prop:=goC P KP Q (.loop keep b) st ρ H
section
variable {P:Program} {KP:AV->zb->Prop} {Q:AExit->Env->zb->Prop} {st:List Fr} {ρ:Env} {H:zb}
def go_skip:goC P KP Q .skip st ρ H=goD P KP Q st ρ H:=rfl
def zx3(a b:AC):goC P KP Q (.seq a b) st ρ H=goC P KP Q a (.code b::st) ρ H:=rfl
def zyn(c:List Nat)(l:List AItem):goC P KP Q (.reg c l) st ρ H=goI P KP Q l l st ρ H:=rfl
def zu7(c:Opd)(t e:AC):goC P KP Q (.cond c t e) st ρ H=goB P KP Q (c.ev ρ) t e st ρ H:=rfl
def zuo(id:Nat)(b:AC):goC P KP Q (.block id b) st ρ H=goC P KP Q b (.blk id::st) ρ H:=rfl
def zsd(b:AC):goC P KP Q (.scope b) st ρ H=goC P KP Q b st ρ H:=rfl
def zws(id:Nat):goC P KP Q (.exit id) st ρ H=goE P KP Q (.exit id) st ρ H:=rfl
def go_ret:goC P KP Q .ret st ρ H=goE P KP Q .ret st ρ H:=rfl
def go_loop(keep:List Nat)(b:AC):goC P KP Q (.loop keep b) st ρ H=goL P KP Q keep b st ρ H:=rfl
def zte(b:AC):goD P KP Q (.code b::st) ρ H=goC P KP Q b st ρ H:=rfl
def zu5(id:Nat):goD P KP Q (.blk id::st) ρ H=goD P KP Q st ρ H:=rfl
def zvv(keep:List Nat)(A:Env->zb->Prop):goD P KP Q (.rep keep A::st) ρ H=A (ρ.keep keep) H:=rfl
def zwB:goD P KP Q [] ρ H=Q .normal ρ H:=rfl
def zwj(e:AExit):goE P KP Q e [] ρ H=Q e ρ H:=rfl
def zlC(b:AC):goE P KP Q .ret (.code b::st) ρ H=goE P KP Q .ret st ρ H:=rfl
def zm5(id:Nat):goE P KP Q .ret (.blk id::st) ρ H=goE P KP Q .ret st ρ H:=rfl
def znI(keep:List Nat)(A:Env->zb->Prop):goE P KP Q .ret (.rep keep A::st) ρ H=goE P KP Q .ret st ρ H:=rfl
def zjL(i:Nat)(b:AC):goE P KP Q (.exit i) (.code b::st) ρ H=goE P KP Q (.exit i) st ρ H:=rfl
def zlw(i id:Nat):goE P KP Q (.exit i) (.blk id::st) ρ H=if i=id then goD P KP Q st ρ H else goE P KP Q (.exit i) st ρ H:=by simp only[goE,goD,D,zgU];split<;>rfl
def zls(i:Nat)(keep:List Nat)(A:Env->zb->Prop):goE P KP Q (.exit i) (.rep keep A::st) ρ H=goE P KP Q (.exit i) st ρ H:=rfl
variable {all l:List AItem} {d:Option Nat} {R:List Chk}
def zvo:goI P KP Q all [] st ρ H=goD P KP Q st ρ H:=rfl
def ztR(op:AOp)(c:List Nat):goI P KP Q all (⟨d,none,op,c⟩::l) st ρ H=goO P KP Q all l st d op (zdz all c) ρ H:=rfl
def zqR(s:Nat)(w:Bool)(op:AOp)(c:List Nat):goI P KP Q all (⟨d,some (s,w),op,c⟩::l) st ρ H=goG P KP Q all l st (ρ s) w d op (zdz all c) ρ H:=by
 simp only[goI,List.map_cons,yI,ZR,gv,goG];cases A:ρ s<;>try rfl
 ·rename_i b;cases b<;>cases w<;>rfl
 ·rename_i vs;cases vs<;>rfl
def zlx:goR P KP Q all l st [] ρ H=goI P KP Q all l st ρ H:=by simp[goR,Zn]
def zqY(items:List AItem):zdz items []=[]:=rfl
def zyd(op:AOp):goG P KP Q all l st (.bool true) true d op R ρ H=goO P KP Q all l st d op R ρ H:=rfl
def zxn(op:AOp):goG P KP Q all l st (.bool false) false d op R ρ H=goO P KP Q all l st d op R ρ H:=rfl
def zzp(op:AOp):goG P KP Q all l st (.bool true) false d op R ρ H=goI P KP Q all l st (ρ.set d (.tup [])) H:=rfl
def zzc(op:AOp):goG P KP Q all l st (.bool false) true d op R ρ H=goI P KP Q all l st (ρ.set d (.tup [])) H:=rfl
def zxV(w:Bool)(op:AOp):goG P KP Q all l st (.tup []) w d op R ρ H=goI P KP Q all l st (ρ.set d (.tup [])) H:=rfl
def yg(op:AOp)(h:op.cls=.pure):goO P KP Q all l st d op [] ρ H=goV P KP Q all l st d ρ H (pev ρ op):=by
 simp only[goO,aop,h,goV];cases pev ρ op with
 | none=>rfl
 | some v=>simp only[zlx]
def zmS(op:AOp)(h:op.cls=.read):goO P KP Q all l st d op [] ρ H=goV P KP Q all l st d ρ H (rev ρ H op):=by
 simp only[goO,aop,h,goV];cases rev ρ H op with
 | none=>rfl
 | some v=>simp only[zlx]
def zsN(v:AV):goV P KP Q all l st d ρ H (some v)=goI P KP Q all l st (ρ.set d v) H:=rfl
def ze8(op:AOp)(h:op.cls=.alloc):goO P KP Q all l st d op R ρ H=goA P KP Q all l st d R ρ H op (oev ρ op):=by simp only[goO,aop,h,goA];cases oev ρ op<;>rfl
def zBF(x:Opd):goO P KP Q all l st d (.mv x) [] ρ H=goV P KP Q all l st d ρ H (pev ρ (.mv x)):=yg _ rfl
def zxE(c a b:Opd):goO P KP Q all l st d (.pick c a b) [] ρ H=goV P KP Q all l st d ρ H (pev ρ (.pick c a b)):=yg _ rfl
def ztl(x:Opd):goO P KP Q all l st d (.nilchk x) [] ρ H=goV P KP Q all l st d ρ H (pev ρ (.nilchk x)):=yg _ rfl
def zBB(o:BinOp)(k:IntKind)(x y:Opd):goO P KP Q all l st d (.bi o k x y) [] ρ H=goV P KP Q all l st d ρ H (pev ρ (.bi o k x y)):=yg _ rfl
def zAN(o:BinOp)(x y:Opd):goO P KP Q all l st d (.shf o x y) [] ρ H=goV P KP Q all l st d ρ H (pev ρ (.shf o x y)):=yg _ rfl
def zBI(o:BinOp)(x y:Opd):goO P KP Q all l st d (.bs o x y) [] ρ H=goV P KP Q all l st d ρ H (pev ρ (.bs o x y)):=yg _ rfl
def zBZ(neg:Bool)(x y:Opd):goO P KP Q all l st d (.bb neg x y) [] ρ H=goV P KP Q all l st d ρ H (pev ρ (.bb neg x y)):=yg _ rfl
def zzC(neg:Bool)(A:List K1)(x y:Opd):goO P KP Q all l st d (.eqa neg A x y) [] ρ H=goV P KP Q all l st d ρ H (pev ρ (.eqa neg A x y)):=yg _ rfl
def zvS(neg:Bool)(x:Opd):goO P KP Q all l st d (.ifnil neg x) [] ρ H=goV P KP Q all l st d ρ H (pev ρ (.ifnil neg x)):=yg _ rfl
def zA5(t:TypeId)(z:AV)(x:Opd):goO P KP Q all l st d (.tas t z x) [] ρ H=goV P KP Q all l st d ρ H (pev ρ (.tas t z x)):=yg _ rfl
def zzw(x:Opd):goO P KP Q all l st d (.not x) [] ρ H=goV P KP Q all l st d ρ H (pev ρ (.not x)):=yg _ rfl
def zA8(k:IntKind)(x:Opd):goO P KP Q all l st d (.cvi k x) [] ρ H=goV P KP Q all l st d ρ H (pev ρ (.cvi k x)):=yg _ rfl
def zv1(x:Opd):goO P KP Q all l st d (.cvb2s x) [] ρ H=goV P KP Q all l st d ρ H (pev ρ (.cvb2s x)):=yg _ rfl
def zAA(zero:List AV)(parts:List (Nat×Nat×Opd)):goO P KP Q all l st d (.bld zero parts) [] ρ H=goV P KP Q all l st d ρ H (pev ρ (.bld zero parts)):=yg _ rfl
def zAB(sz len:Nat)(zero:List AV)(parts:List (Nat×Opd)):goO P KP Q all l st d (.bls sz len zero parts) [] ρ H=goV P KP Q all l st d ρ H (pev ρ (.bls sz len zero parts)):=yg _ rfl
def zxA(f:FuncId)(first caps:List Opd):goO P KP Q all l st d (.mkfn f first caps) [] ρ H=goV P KP Q all l st d ρ H (pev ρ (.mkfn f first caps)):=yg _ rfl
def zAv(x:Opd)(i:Nat):goO P KP Q all l st d (.ext x i) [] ρ H=goV P KP Q all l st d ρ H (pev ρ (.ext x i)):=yg _ rfl
def zAd(t:TypeId)(x:Opd):goO P KP Q all l st d (.mki t x) [] ρ H=goV P KP Q all l st d ρ H (pev ρ (.mki t x)):=yg _ rfl
def zBl(A:Nat)(x:Opd):goO P KP Q all l st d (.fa A x) [] ρ H=goV P KP Q all l st d ρ H (pev ρ (.fa A x)):=yg _ rfl
def zzx(I n:Nat)(A:Bool)(x:Opd):goO P KP Q all l st d (.fld I n A x) [] ρ H=goV P KP Q all l st d ρ H (pev ρ (.fld I n A x)):=yg _ rfl
def zBO(sz:Nat)(x i:Opd):goO P KP Q all l st d (.ia sz x i) [] ρ H=goV P KP Q all l st d ρ H (pev ρ (.ia sz x i)):=yg _ rfl
def zAx(x i:Opd):goO P KP Q all l st d (.ixs x i) [] ρ H=goV P KP Q all l st d ρ H (pev ρ (.ixs x i)):=yg _ rfl
def zAe(x:Opd)(lo hi:Option Opd):goO P KP Q all l st d (.sls x lo hi) [] ρ H=goV P KP Q all l st d ρ H (pev ρ (.sls x lo hi)):=yg _ rfl
def zAR(sz:Nat)(x:Opd)(lo hi mx:Option Opd):goO P KP Q all l st d (.sll sz x lo hi mx) [] ρ H=goV P KP Q all l st d ρ H (pev ρ (.sll sz x lo hi mx)):=yg _ rfl
def zAq(x:Opd):goO P KP Q all l st d (.len x) [] ρ H=goV P KP Q all l st d ρ H (pev ρ (.len x)):=yg _ rfl
def zxy(x:Opd):goO P KP Q all l st d (.lens x) [] ρ H=goV P KP Q all l st d ρ H (pev ρ (.lens x)):=yg _ rfl
def zBS(mx:Bool)(x:Opd)(A:List Opd):goO P KP Q all l st d (.mm mx x A) [] ρ H=goV P KP Q all l st d ρ H (pev ρ (.mm mx x A)):=yg _ rfl
def zyp(x:Opd):goO P KP Q all l st d (.boxv x) [] ρ H=goV P KP Q all l st d ρ H (pev ρ (.boxv x)):=yg _ rfl
def zBT(n:Nat)(A:Bool)(x:Opd):goO P KP Q all l st d (.ld n A x) [] ρ H=goV P KP Q all l st d ρ H (rev ρ H (.ld n A x)):=zmS _ rfl
def zzJ(A:KT)(zero:AV)(ok:Bool)(m k:Opd):goO P KP Q all l st d (.lkp A zero ok m k) [] ρ H=goV P KP Q all l st d ρ H (rev ρ H (.lkp A zero ok m k)):=zmS _ rfl
def zuR(zero:List AV):goO P KP Q all l st d (.alloc zero) R ρ H=goA P KP Q all l st d R ρ H (.alloc zero) (oev ρ (.alloc zero)):=ze8 _ rfl
def zA7(x:Opd):goO P KP Q all l st d (.box x) R ρ H=goA P KP Q all l st d R ρ H (.box x) (oev ρ (.box x)):=ze8 _ rfl
def zAS(A:KT):goO P KP Q all l st d (.mkm A) R ρ H=goA P KP Q all l st d R ρ H (.mkm A) (oev ρ (.mkm A)):=ze8 _ rfl
def zon(items:List AItem)(k:Nat)(A:List Nat):zdz items (k::A)=zsJ items[k]?++zdz items A:=by simp only[zdz,List.flatMap_cons,zsJ]<;>rfl
def zr0(n:Nat)(o:AOp):goR P KP Q all l st ((n,none,o)::R) ρ H=(rev ρ H o=some (ρ n)/\goR P KP Q all l st R ρ H):=by simp[goR,Zn,gv,and_assoc]
def zuf(n s:Nat)(w:Bool)(o:AOp):goR P KP Q all l st ((n,some (s,w),o)::R) ρ H=((gv (some (s,w)) ρ=some true->rev ρ H o=some (ρ n))/\goR P KP Q all l st R ρ H):=by simp[goR,Zn,and_assoc]
def zc{op:AOp}{x:AObj}(h:∀b,H b=none->goR P KP Q all l st R (ρ.set d (zdI ρ b op)) (H.upd b x)):goA P KP Q all l st d R ρ H op (some x):=h
def zzq(f:FuncId)(args:List Opd):goO P KP Q all l st d (.call f args) R ρ H=goK P KP Q all l st d R ρ f (args.map (Opd.ev ρ)) H:=rfl
def zAi(sz bytes:Nat)(x y:Opd):goO P KP Q all l st d (.app sz bytes x y) R ρ H=goP P KP Q all l st d R ρ sz bytes (x.ev ρ) (y.ev ρ) H:=rfl
def zBu(n:Nat)(x y:Opd):goO P KP Q all l st d (.st n x y) R ρ H=goS P KP Q all l st d R ρ n (x.ev ρ) (y.ev ρ).cells (y.ev ρ).boxable H:=by simp only[goO,aop,AOp.cls,eff,goS];cases x.ev ρ<;>rfl
def goT(P:Program)(KP:AV->zb->Prop)(Q:AExit->Env->zb->Prop)(all l:List AItem)(st:List Fr)(d:Option Nat)(R:List Chk)(ρ:Env)(n b off:Nat)(y:List AV)(bx:Bool)(H:zb)(o:Option AObj):Prop :=
 match o with
 | some (.cells cs)=>y.length=n/\off+n<=cs.length/\bx=true/\goR P KP Q all l st R (ρ.set d (.tup [])) (H.upd b (.cells (splice cs off y)))
 | _=>False
def zu9{b I n:Nat}{y:List AV}{A:Bool}:goS P KP Q all l st d R ρ n (.ptr b I) y A H=goT P KP Q all l st d R ρ n b I y A H (H b):=by simp only[goS,goT]
def zrm{b A n:Nat}{y cs:List AV}{I:Bool}:goT P KP Q all l st d R ρ n b A y I H (some (.cells cs))=(y.length=n/\A+n<=cs.length/\I=true/\goR P KP Q all l st R (ρ.set d (.tup [])) (H.upd b (.cells (splice cs A y)))):=rfl
def za{f:FuncId}{args:List AV}{r:AV}(h:ze P f args r)(A:goR P KP Q all l st R (ρ.set d r) H):goK P KP Q all l st d R ρ f args H:=h.use A
def zQ{f:FuncId}{args:List AV}{A:AEnd->zb->Prop}(h:zd P f args H A)(I:∀e H',A e H'->ZT (λv H'=>goR P KP Q all l st R (ρ.set d v) H') KP e H'):goK P KP Q all l st d R ρ f args H:=h.mono I
def zA3(t e:AC):goB P KP Q (.bool true) t e st ρ H=goC P KP Q t st ρ H:=rfl
def zz9(t e:AC):goB P KP Q (.bool false) t e st ρ H=goC P KP Q e st ρ H:=rfl
def zsr{keep:List Nat}{b:AC}(A:Nat->Env->zb->Prop)(U:Nat)(W:A U (ρ.keep keep) H)(hr:∀n ρ H (J:Env->zb->Prop),A n ρ H->(∀m I H',m<n->A m I H'->J I H')->goC P KP Q b (.rep keep J::st) ρ H):goL P KP Q keep b st ρ H:=by
 refine⟨A,⟨U,W⟩,λn ρ H X=>?_⟩;exact hr n ρ H (λI H'=>∃m,m<n/\A m I H') X λm I H' Y hi=>⟨m,Y,hi⟩
end
def upd_same(H:zb)(b:Nat)(o:AObj):(H.upd b o) b=some o:=by simp[zb.upd]
def upd_ne{H:zb}{b c:Nat}{o:AObj}(h:c≠b):(H.upd b o) c=H c:=by simp[zb.upd,h]
def zlM(H:zb)(b:Nat)(o o':AObj):(H.upd b o).upd b o'=H.upd b o':=by funext c;simp only[zb.upd];split<;>rfl
def yS{H:zb}{b c:Nat}{o:AObj}(h:(H.upd b o) c=none):c≠b:=λe=>by subst e;simp[zb.upd]at h
def zkb(ρ:Env):List Nat->List (Nat×AV)
 | []=>[]
 | n::l=>(n,ρ n)::zkb ρ l
def zrJ(ρ:Env):zkb ρ []=[]:=rfl
def zpf(ρ:Env)(n:Nat)(l:List Nat):zkb ρ (n::l)=(n,ρ n)::zkb ρ l:=rfl
def zvG(ρ:Env)(l:List Nat):ρ.keep l=Zb (zkb ρ l):=by
 unfold Env.keep
 congr 1
 induction l with
 | nil=>rfl
 | cons n l A=>simp[zkb,A]
def zwJ(ρ:Env):[].map (Opd.ev ρ)=[]:=rfl
def zsb(ρ:Env)(x:Opd)(xs:List Opd):(x::xs).map (Opd.ev ρ)=x.ev ρ::xs.map (Opd.ev ρ):=rfl
def zzY(a b:Prop):(if True then a else b)=a:=if_pos trivial
def zAp(a b:Prop):(if False then a else b)=b:=if_neg id
def zzN(a b:Option AV):(if True then a else b)=a:=if_pos trivial
def zAK(a b:Option AV):(if False then a else b)=b:=if_neg id
def zAG(a b:AV):(if True then a else b)=a:=if_pos trivial
def zAP(a b:AV):(if False then a else b)=b:=if_neg id
def ztF(ρ:Env)(c:AV):ρ.set none c=ρ:=rfl
def ztT(l:List (Nat×AV))(d:Nat)(c:AV):(Zb l).set (some d) c=Zb ((d,c)::l):=rfl
def zqC(n:Nat):Zb [] n=.any:=rfl
def zBy(ρ:Env)(n:Nat):(Opd.t n).ev ρ=ρ n:=rfl
def zBv(ρ:Env)(c:AV):(Opd.k c).ev ρ=c:=rfl
def zBR(a b:Int):(a==b)=decide (a=b):=rfl
def zBp(a b:Int):(a != b)=decide (a≠b):=by rw[decide_not];rfl
def zBm(a b:List UInt8):(a==b)=decide (a=b):=by by_cases h:a=b<;>simp[h]
def wrap64{n:Int}(A:-9223372036854775808<=n)(I:n<9223372036854775808):IntKind.wrap .i64 n=n:=by rw[IntKind.wrap_i64];omega
section
variable {P:Program} {KP:AV->zb->Prop} {Q:AExit->Env->zb->Prop} {st:List Fr} {ρ:Env} {H:zb} {all l:List AItem} {d:Option Nat} {R:List Chk}
def zyM(sz n:Nat)(zero:List AV)(A:List (Nat×Opd)):goO P KP Q all l st d (.blsm sz n zero A) R ρ H=goA P KP Q all l st d R ρ H (.blsm sz n zero A) (oev ρ (.blsm sz n zero A)):=ze8 _ rfl
end
def zY{a b:Prop}(x:a)(y:b):a/\b:=⟨x,y⟩
def steps:=zY @go_skip<|zY @zx3<|zY @zyn<|zY @zu7<|zY @zuo<|zY @zsd<|zY @zws<|zY @go_ret<|zY @go_loop<|zY @zte<|zY @zu5<|zY @zvv<|zY @zwB<|zY @zwj<|zY @zlC<|zY @zm5<|zY @znI<|zY @zjL<|zY @zlw<|zY @zls<|zY @zvo<|zY @ztR<|zY @zqR<|zY @zlx<|zY @zqY<|zY @zon<|zY @znX<|zY @zr0<|zY @zuf<|zY @zyd<|zY @zxn<|zY @zzp<|zY @zzc<|zY @zxV<|zY @zsN<|zY @zBF<|zY @zxE<|zY @ztl<|zY @zBB<|zY @zAN<|zY @zBI<|zY @zBZ<|zY @zzC<|zY @zvS<|zY @zA5<|zY @zzw<|zY @zA8<|zY @zv1<|zY @zAA<|zY @zAB<|zY @zxA<|zY @zAv<|zY @zAd<|zY @zBl<|zY @zzx<|zY @zBO<|zY @zAx<|zY @zAe<|zY @zyM<|zY @zAR<|zY @zAq<|zY @zxy<|zY @zBS<|zY @zyp<|zY @zBT<|zY @zzJ<|zY @zuR<|zY @zA7<|zY @zAS<|zY @zzq<|zY @zAi<|zY @zBu<|zY @zu9<|zY @zrm<|zY @zA3<|zY @zz9<|zY @zvG<|zY @ztF<|zY @ztT<|zY @zqC<|zY @zoX<|zY @zBy<|zY @zBv<|zY @zBR<|zY @zBp<|zY @zBm<|zY @upd_same<|zY @zlM<|zY @zsb<|zY @zwJ<|zY @zpf<|zY @zrJ<|zY @zzY<|zY @zAp<|zY @zzN<|zY @zAK<|zY @zAG<|zY @zAP<|zY @and_self<|zY @true_and<|@and_true
def ze.go{P:Program}{f:FuncId}(A:AFn)(I:zfk P f A=true){args:List AV}{r:AV}(U:args.length<=A.np)(h:∀KP Q,(∀e ρ H vs,(∀i,e≠.exit i)->zo ρ H A.res=some vs->(zP vs).strip=r->Q e ρ H)->goC P KP Q A.body [] (Zb (ZO 0 args)) zb.emp):ze P f args r :=
 ze.of_fn A I U (h _ _ λe ρ H vs J W hr=>zrL J ⟨vs,W,hr⟩)
def zA(H:zb)(o:Own)(n sz:Nat):Prop :=
 match o with
 | .no=>False
 | .nil=>n=0
 | .full=>True
 | .tip b d=>H b=some (.tip (d+n) sz)
def Kept(H:zb)(o:Own)(H':zb):Prop:=∀b x,H b=some x->(∀d,o≠.tip b d)->H' b=some x
def zsk(H:zb)(o o':Own):Prop:=∀b d,o'=.tip b d->H b=none∨∃d0,o=.tip b d0
def zA.nil(H:zb)(sz:Nat):zA H .nil 0 sz:=rfl
def zA.full(H:zb)(n sz:Nat):zA H .full n sz:=trivial
def zvt{P:Program}{KP:AV->zb->Prop}{Q:AExit->Env->zb->Prop}{st:List Fr}{ρ:Env}{H:zb}{all l:List AItem}{d:Option Nat}{R:List Chk}{sz bytes:Nat}{o o2:Own}{xs W:List (List AV)}(how:zA H o xs.length sz)(af:(xs.length+W.length)*bytes<=140737488355328)(ag:xs.length+W.length<=maxLen)(J:∀o' H',zA H' o' (xs.length+W.length) sz->Kept H o H'->zsk H o o'->goR P KP Q all l st R (ρ.set d (.sl o' sz (xs++W.map (·.map AV.strip1)))) H'):
  goP P KP Q all l st d R ρ sz bytes (.sl o sz xs) (.sl o2 sz W) H:=by
 refine⟨rfl,rfl,af,ag,?_⟩;cases o with
 | no=>exact how.elim
 | nil =>
  refine⟨λU=>?_,λU b I=>J _ _ (by simp[zA,zb.upd]) (λc x A Y=>?_) (λc X e=>?_)⟩
  ·subst U;have ai:xs=[]:=List.eq_nil_of_length_eq_zero how;subst ai;exact J .nil H rfl (λb x I _=>I) (λb X e=>by cases e)
  ·have Z:c≠b:=λe=>by subst e;rw[I]at A;cases A
   simp[zb.upd,Z,A]
  ·cases e;exact .inl I
 | full =>
  refine⟨λU=>?_,λU b I=>J _ _ (by simp[zA,zb.upd]) (λc x A Y=>?_) (λc X e=>?_)⟩
  ·subst U;have:=J .full H trivial (λb x I _=>I) (λb X e=>by cases e);simpa using this
  ·have Z:c≠b:=λe=>by subst e;rw[I]at A;cases A
   simp[zb.upd,Z,A]
  ·cases e;exact .inl I
 | tip b ab =>
  refine⟨how,λaa aj ac=>J _ _ (by simp[zA,zb.upd]) (λc x A Y=>?_) (λc X e=>?_)⟩
  ·have ae:c≠b:=λe=>by subst e;exact Y ab rfl
   have ah:c≠aa:=λe=>by subst e;simp[zb.del,ae,A]at ac
   simp[zb.upd,zb.del,ae,ah,A]
  ·cases e;by_cases ad:aa=b
   ·subst ad;exact .inr ⟨ab,rfl⟩
   ·left;simpa[zb.del,ad]using ac
def zd.go{P:Program}{f:FuncId}(I:AFn)(W:zfk P f I=true){args:List AV}{H:zb}{R:AV->zb->Prop}(Y:args.length<=I.np)(h:∀KP Q,(∀e ρ H1 A vs,(∀i,e≠.exit i)->zo ρ H1 I.res=some vs->Low A H1->R (zP vs).strip A->Q e ρ H1)->goC P KP Q I.body [] (Zb (ZO 0 args)) H):zd P f args H (λe H'=>∃v,e=.ret v/\R v H'):=by
 refine zd.strip ((zd.of_fn (Q:=λe H'=>match e with|.ret v=>R v.strip H'|.pan _=>False) I W Y (h _ _ λe ρ H1 A vs X U J hr=>?_)).mono λe H' hq=>?_)
 ·cases e with
  | exit i=>exact absurd rfl (X i)
  | normal=>simp only[zgH,U];exact⟨A,J,hr⟩
  | ret=>simp only[zgH,U];exact⟨A,J,hr⟩
 ·cases e with
  | ret v=>exact⟨_,rfl,hq⟩
  | pan v=>exact hq.elim
def zC{P:Program}{KP:AV->zb->Prop}{Q:AExit->Env->zb->Prop}{st:List Fr}{ρ:Env}{H:zb}{all l:List AItem}{d:Option Nat}{R:List Chk}{f:FuncId}{args:List AV}{A:AV->zb->Prop}(h:zd P f args H (λe H'=>∃v,e=.ret v/\A v H'))(J:∀v H',A v H'->goR P KP Q all l st R (ρ.set d v) H'):goK P KP Q all l st d R ρ f args H :=
 h.mono λe H' ⟨v,I,U⟩=>by subst I;exact J v H' U
def zd.low{P:Program}{f:FuncId}{args:List AV}{H:zb}{Q:AEnd->zb->Prop}(h:zd P f (args.map AV.strip) H Q):zd P f args H Q :=
 λγ w vs W U J=>h γ w vs W U ⟨by simpa using J.1,λi c v A X=>by
  rw[Yg]at A;cases I:args[i]? with
  | none=>simp[I]at A
  | some x=>simp only[I,ZS,Al1]at A;subst A;exact(J.2 i x v I X).strip⟩
def ze.low{P:Program}{f:FuncId}{args:List AV}{r:AV}(h:ze P f (args.map AV.strip) r):ze P f args r:=zd.low h
def zA.upd{H:zb}{o:Own}{n sz b:Nat}{x:AObj}(h:zA H o n sz)(I:H b=none):zA (H.upd b x) o n sz:=by
 cases o with
 | tip c d =>
  have A:H c=some (.tip (d+n) sz):=h;have J:c≠b:=λe=>by subst e;rw[I]at A;cases A
  show (H.upd b x) c=_;simp[zb.upd,J,A]
 | no=>exact h
 | nil=>exact h
 | full=>exact h
def zfw{H:zb}{b c:Nat}{x:AObj}(I:H b=none)(A:H c=some x):b≠c:=λe=>by subst e;rw[I]at A;cases A
def zhP(c:AV)(cs:List AV)(v:AV)(vs:List AV):splice (c::cs) 0 (v::vs)=v::splice cs 0 vs:=by simp[splice]
def zhx(c:AV)(cs:List AV)(n:Nat)(vs:List AV):splice (c::cs) (n+1) vs=c::splice cs n vs:=by simp[splice,Nat.add_right_comm]
def zhy(cs:List AV):splice cs 0 []=cs:=by simp[splice]
open Go.ChangeAt Go.ChangeShapes Go.RowKit Go.WideElems Go.WideShapes
def zjh:Gh:=λ_=>.imm
section
variable {P:Program} {m:Nat} {t:TypeId}
def zcD{γ:Gh}{w:World}{c:AV}{v:Value}(h:Rep γ w c v)(J:v.oneCell'=true):zv γ w [c] [v] :=⟨rfl,λi u A=>by cases i<;>simp at A;subst A;exact J,λi d u I A=>by cases i<;>simp at I A;subst I;subst A;exact h⟩
def addr_add_add(a:Addr)(x y:Nat):(a.add x).add y=a.add (x+y):=by
 unfold Addr.add;by_cases A:x=0
 ·subst A;simp
 ·by_cases I:y=0
  ·subst I;simp[A]
  ·simp[A,I,Nat.add_assoc]
def zhF{H:Type}{e:TypeId}:∀ {ds:List (DataW H)} {d:DataW H},d∈ds->∀n∈d.weights P e,n∈DataW.weightsAll P e ds
 | x::ds,d,A,n,hn=>by
  simp only[DataW.weightsAll,List.mem_append];rcases List.mem_cons.1 A with rfl|A
  ·exact .inl hn
  ·exact .inr (zhF A n hn)
def flds(P:Program)(t:TypeId):Option (List (Nat×TypeId)) :=
 match P.underlying t with
 | some (.struct fs)=>some (fs.toList.map λf=>(f.offset,f.type))
 | _=>none
def zkX{P:Program}{t:TypeId}{l:List (Nat×TypeId)}(h:flds P t=some l):∃A:Array Field,P.underlying t=some (.struct A)/\A.toList.map (λf=>(f.offset,f.type))=l:=by
 unfold flds at h;split at h
 ·rename_i A I;simp only[Al1]at h;exact⟨A,I,h⟩
 ·cases h
end
def isAgg{P:Program}{A:World}{r:Reach}{b:Nat}{t:TypeId}{v:Value}{l:List (Nat×TypeId)}(J:flds P t=some l)(h:Value.okWide P A r b t v):∃cs,v=.agg cs:=by obtain⟨U,I,_⟩:=zkX J;simp only[Value.okWide,I]at h;obtain⟨cs,rfl,_⟩:=h;exact⟨cs,rfl⟩
def sized{P:Program}{H:Type}{ts:List TypeId}{ds:List (DataW H)}(h:(DataW.weightsEach P ts ds).all (·<=reachBytes)=true){j:Nat}{t:TypeId}{d:DataW H}(J:ts[j]?=some t)(A:ds[j]?=some d):∀n∈d.weights P t,n<=reachBytes:=λn I=>by have:=zdi.1 h n (DataW.weights_mem_each J A n I);simpa using this
def zfe{P:Program}{H:Type}{enc:TypeId×Value->H}(U:laidOutB P=true){I J:World}{W:Nat->Bool}:∀ {ts:List TypeId} {vs:List Value} {ds:List (DataW H)} {ps:List MemPlace},
  (∀t∈ts,P.readableRec t=true/\t<P.types.size)->DataW.TrodAll enc P I 0 (λ_=>true) true ts vs ds ps->(∀p∈ps,I.sameAt J p)->(∀p∈ps,W p.block=true)->DataW.TrodAll enc P J 0 W true ts vs ds ps
 | [],_,_,_,_,h,_,_=>by obtain⟨rfl,rfl,rfl⟩:=trodAll_nil h;exact rfl
 | t::ts,_,_,_,hr,h,hs,hsp=>by obtain⟨v,ab,d,aa,a,b,rfl,rfl,rfl,X,Y⟩:=trodAll_cons h;exact⟨a,b,Trod_stays U (hr t (zaW ..)).1 (hr t (zaW ..)).2 X (λp A=>hs p (zfa _ A)) (λp A=>hsp p (zfa _ A)),zfe U (λt Z=>hr t (zbR _ Z)) Y (λp A=>hs p (List.mem_append_right _ A)) (λp A=>hsp p (List.mem_append_right _ A)),rfl⟩
def zhq{P:Program}{H:Type}{enc:TypeId×Value->H}{f:Func}{s:ChangeSpec}{apart fresh af again:Bool}{I J:World}{args:Array Value}{v:Value}{ds U:List (DataW H)}{before pa pv:List MemPlace}(X:DataW.Whole enc P f.params.toList s.vars apart I args.toList ds U before)(ab:∀(b:Nat) (sp:Nat->Bool) (ag:Bool),DataW.TrodAll enc P J b sp ag f.resultTypes.toList (v.resultList f.resultTypes.size) (s.fn H (ds++U)).results [])(Y:∀sp:Nat->Bool,(∀p∈before,sp p.block=true)->DataW.TrodAll enc P J 0 sp true f.params.toList args.toList (s.fn H (ds++U)).args pa)(ac:∀sp:Nat->Bool,(∀p∈before,sp p.block=true)->DataW.TrodVars enc P J sp s.vars (s.fn H (ds++U)).vars pv)(W:before=pa++pv)(ai:I.keptBut J (·∈before))(ah:∀a,a.block<I.heap.size->J.frozen? a=I.frozen? a)(ak:∀(j:Nat) (t:TypeId) (r:Value),f.resultTypes[j]?=some t->(v.resultList f.resultTypes.size)[j]?=some r->Value.okWide P J .any 0 t r):
  s.post enc P f apart fresh af again I args v J:=by
 have Z:∀p∈before,p.block<I.heap.size:=λp A=>X.lt p A;have hold:∀p∈before,(λb=>decide (b<I.heap.size)) p.block=true:=λp A=>by simpa using Z p A
 refine⟨ds,U,before,[],pa,pv,X,ab _ _ _,Y _ hold,ac _ hold,World.keptBut_mono (λp A=>⟨A,?_⟩) ai,λ_=>?_⟩
 ·rw[W,List.mem_append]at A;exact Or.inr A
 ·obtain⟨_,_,_,_,_,al,aj⟩:=X;refine⟨ak,_,_,([]++pa)++pv,⟨[]++pa,pv,trodAll_append (Y _ (λ_ _=>rfl)) (ab _ _ _),ac _ (λ_ _=>rfl),rfl,?_,?_⟩,?_⟩
  ·intro b ad A;have aa:MemPlace.cell b ad∈before:=by rw[W];simpa using A
   rw[ah _ (Z _ aa)];exact al b ad aa
  ·intro ae;have:=aj ae;rw[W]at this;simpa using this
  ·intro p A _;rw[W];simpa using A
def zln{P:Program}{f:FuncId}{fn:Func}{s:ChangeSpec}{apart fresh am again:Bool}{H:Type}{enc:TypeId×Value->H}{A:World}{args:Array Value}{ds ac:List (DataW H)}{before:List MemPlace}{tb:TypeId}(an:laidOutB P=true)(ai:s.vars=[])(hr:∀t∈fn.params.toList,P.readableRec t=true/\t<P.types.size)(af:fn.resultTypes=#[tb])(ah:P.underlying tb=some .bool)(X:DataW.Whole enc P fn.params.toList s.vars apart A args.toList ds ac before)(aa:s.fn H (ds++ac)={ results:=[.lit (.bool true)],args:=ds }){ab:List AV}(au:zan zjh A)(aq:zR zjh A ab args.toList)(ap:ze P f ab (.bool true)):
  Calls P f args A λe I=>∃v,e=.returned v/\s.post enc P fn apart fresh am again A args v I:=by
 have h:=ap zjh A args.toList au (λb o Y=>by simp[zb.emp]at Y) aq;have al:args.toList.toArray=args:=by simp
 rw[al]at h;refine h.mono λe I ⟨γ',H',r,U,_,_,Z,hq,_⟩=>?_;subst hq;cases e with
 | panicked aw=>exact Z.elim
 | outgrown=>exact Z.elim
 | returned v =>
  have av:Rep γ' I (.bool true) v:=Z;cases av;refine⟨_,rfl,?_⟩;have ae:∀b,b<A.heap.size->I.heap[b]?=A.heap[b]?:=λb Y=>(U.frame b Y (by simp[zb.emp])).2;obtain⟨p,q,ak,ad,rfl,ay,az⟩:=id X;rw[ai]at ad;obtain⟨rfl,rfl⟩:=trodVars_none ad;have ao:∀x∈p,x.block<A.heap.size:=λx J=>X.lt x (zfa _ J);have ar:∀x∈p,A.sameAt I x:=λx J=>by
   have W:=ae _ (ao x J);cases x with
   | cell b a0 =>simp only[MemPlace.block]at W;simp only[World.sameAt,World.cell?,W]
   | map b=>exact W
  refine zhq (pa:=p) (pv:=[]) X (λb aj ax=>?_) (λaj ag=>?_) (λaj ag=>?_) rfl ⟨U.os,U.output,λi hi=>?_⟩ U.frozen ?_
  ·rw[af,aa];exact trodAll_mk1 (shut_bool ah true)
  ·rw[aa];exact zfe an hr ak ar λx J=>ag x (zfa _ J)
  ·rw[aa,ai];exact rfl
  ·rw[ae i hi];cases A.heap[i]? with
   | none=>rfl
   | some o=>cases o<;>first|exact⟨rfl,rfl,rfl,λ_ _=>rfl⟩|exact .inr ⟨rfl,rfl⟩|rfl
  ·exact ok_one af rfl (okWide_bool_mk ah true)
end Go.Ab
namespace Go.Ab
def zah(ρ:Env):List (Nat×AV)->Env
 | []=>ρ
 | (d,v)::r=>(zah ρ r).set (some d) v
def zia(ρ:Env):zah ρ []=ρ:=rfl
def zhQ(ρ:Env)(d:Nat)(v:AV)(r:List (Nat×AV)):zah ρ ((d,v)::r)=(zah ρ r).set (some d) v:=rfl
section
variable {P:Program} {KP:AV->zb->Prop} {Q:AExit->Env->zb->Prop} {st:List Fr} {ρ:Env} {H:zb} {keep:List Nat} {b:AC}
def goJ{A:Env->zb->Prop}{a b:Env}{H:zb}(h:A a H)(e:b=a):A b H:=e▸h
def Ze{σ:Type}(m:σ->List (Nat×AV))(I:σ->zb->Prop)(meas:σ->Nat)(U:σ)(ac:ρ.keep keep=(zah ρ (m U)).keep keep)(Y:I U H)(hr:∀s H' J,I s H'->(∀A W,meas A<meas s->I A W->J ((zah ρ (m A)).keep keep) W)->goC P KP Q b (.rep keep J::st) ((zah ρ (m s)).keep keep) H'):goL P KP Q keep b st ρ H:=by
 refine zsr (λn X H'=>∃s,n=meas s/\X=(zah ρ (m s)).keep keep/\I s H') (meas U) ⟨U,rfl,ac,Y⟩ ?_;rintro n X H' J ⟨s,rfl,rfl,ad⟩ ab;exact hr s H' J ad λA W Z aa=>ab _ _ _ Z ⟨A,rfl,rfl,aa⟩
def zf{α σ:Type}(l:List α)(J:Nat)(m:σ->List (Nat×AV))(I:List α->List α->σ->zb->Prop)(Y:σ)(ae:ρ.keep keep=(zah ρ ((J,.int .i64 0)::m Y)).keep keep)(Z:I [] l Y H)(ac:∀s H' A,I l [] s H'->¬ ((l.length:Int)<l.length)->goC P KP Q b (.rep keep A::st) ((zah ρ ((J,.int .i64 l.length)::m s)).keep keep) H')(hr:∀done x rest s H' A,l=done++x::rest->(done.length:Int)<l.length->done.length<l.length->I done (x::rest) s H' -> (∀X W,I (done++[x]) rest X W->A ((zah ρ ((J,.int .i64 ((done.length:Int)+1))::m X)).keep keep) W)->goC P KP Q b (.rep keep A::st) ((zah ρ ((J,.int .i64 done.length)::m s)).keep keep) H'):goL P KP Q keep b st ρ H:=by
 refine Ze (σ:=List α×List α×σ) (λs=>(J,.int .i64 s.1.length)::m s.2.2) (λs H'=>l=s.1++s.2.1/\I s.1 s.2.1 s.2.2 H') (λs=>s.2.1.length) ([],l,Y) (by simpa using ae) ⟨rfl,Z⟩ ?_;rintro⟨done,rest,s⟩ H' A ⟨U,hi⟩ ab;cases rest with
 | nil =>simp only[List.append_nil]at U;subst U;exact ac s H' A hi (by omega)
 | cons x rest =>
  have aa:done.length<l.length:=by rw[U];simp
  refine hr done x rest s H' A U (by omega) aa hi λX W ad=>?_;have:=ab (done++[x],rest,X) W (by simp) ⟨by simp[U],ad⟩;simpa using this
end
section
variable {P:Program} {KP:AV->zb->Prop} {Q:AExit->Env->zb->Prop} {st:List Fr} {ρ:Env} {H:zb} {all l:List AItem} {d:Option Nat} {R:List Chk}
def goW(P:Program)(KP:AV->zb->Prop)(Q:AExit->Env->zb->Prop)(all l:List AItem)(st:List Fr)(d:Option Nat)(R:List Chk)(ρ:Env)(v:AV)(args:List AV)(H:zb):Prop :=
 match v with
 | .clo f first caps=>Program.callable P f=true/\goK P KP Q all l st d R ρ f (first++args++caps) H
 | _=>False
def zpu(g:Opd)(args:List Opd):goO P KP Q all l st d (.callv g args) R ρ H=goW P KP Q all l st d R ρ (g.ev ρ) (args.map (Opd.ev ρ)) H:=by simp only[goO,aop,AOp.cls,eff,goW,goK];cases g.ev ρ<;>rfl
def zqi(f:FuncId)(first caps args:List AV):goW P KP Q all l st d R ρ (.clo f first caps) args H=(Program.callable P f=true/\goK P KP Q all l st d R ρ f (first++args++caps) H):=rfl
def goX(P:Program)(KP:AV->zb->Prop)(Q:AExit->Env->zb->Prop)(all l:List AItem)(st:List Fr)(d:Option Nat)(R:List Chk)(ρ:Env)(x y:AV)(H:zb):Prop :=
 match y with
 | .str s=>goP P KP Q all l st d R ρ 1 1 x (.sl .no 1 (bytesOf s)) H
 | _=>False
def zr7(x y:Opd):goO P KP Q all l st d (.apps x y) R ρ H=goX P KP Q all l st d R ρ (x.ev ρ) (y.ev ρ) H:=by simp only[goO,aop,AOp.cls,eff,goX,goP];cases y.ev ρ<;>rfl
def zpz(x:AV)(s:List UInt8):goX P KP Q all l st d R ρ x (.str s) H=goP P KP Q all l st d R ρ 1 1 x (.sl .no 1 (bytesOf s)) H:=rfl
def goN(KP:AV->zb->Prop)(v:AV)(H:zb):Prop :=
 match v with
 | .ifc t y=>KP (.ifc t y) H
 | _=>False
def zxg(x:Opd):goO P KP Q all l st d (.pan x) R ρ H=goN KP (x.ev ρ) H:=by simp only[goO,aop,AOp.cls,eff,goN];cases x.ev ρ<;>rfl
def zpH(t:TypeId)(y:AV):goN KP (.ifc t y) H=KP (.ifc t y) H:=rfl
def goM(P:Program)(KP:AV->zb->Prop)(Q:AExit->Env->zb->Prop)(all l:List AItem)(st:List Fr)(d:Option Nat)(R:List Chk)(ρ:Env)(kt:KT)(b:Nat)(k v:AV)(H:zb)(o:Option AObj):Prop :=
 match o with
 | some (.map kt' es)=>kt'=kt/\kt.fits k=true/\goR P KP Q all l st R (ρ.set d (.tup [])) (H.upd b (.map kt (zbW es k v)))
 | _=>False
def zx5(P:Program)(KP:AV->zb->Prop)(Q:AExit->Env->zb->Prop)(all l:List AItem)(st:List Fr)(d:Option Nat)(R:List Chk)(ρ:Env)(kt:KT)(m k v:AV)(H:zb):Prop :=
 match m with
 | .mp b=>goM P KP Q all l st d R ρ kt b k v H (H b)
 | _=>False
def zxd(A:KT)(m k v:Opd):goO P KP Q all l st d (.mup A m k v) R ρ H=zx5 P KP Q all l st d R ρ A (m.ev ρ) (k.ev ρ) (v.ev ρ) H:=by simp only[goO,aop,AOp.cls,eff,zx5,goM];cases m.ev ρ<;>rfl
def zpp(A:KT)(b:Nat)(k v:AV):zx5 P KP Q all l st d R ρ A (.mp b) k v H=goM P KP Q all l st d R ρ A b k v H (H b):=rfl
def zpP(A I:KT)(b:Nat)(es:List (AV×AV))(k v:AV):goM P KP Q all l st d R ρ A b k v H (some (.map I es))=(I=A/\A.fits k=true/\goR P KP Q all l st R (ρ.set d (.tup [])) (H.upd b (.map A (zbW es k v)))):=rfl
def zd.goO{P:Program}{f:FuncId}(I:AFn)(W:zfk P f I=true){args:List AV}{H:zb}{R RP:AV->zb->Prop}(Z:args.length<=I.np)(h:∀KP Q,(∀e ρ H1 A vs,(∀i,e≠.exit i)->zo ρ H1 I.res=some vs->Low A H1->R (zP vs) A->Q e ρ H1)->(∀v H1 A,Low A H1->RP v A->KP v H1)->goC P KP Q I.body [] (Zb (ZO 0 args)) H):
  zd P f args H (λe H'=>match e with|.ret v=>R v H'|.pan v=>RP v H'):=by
 refine zd.of_fn (Q:=λe H'=>match e with|.ret v=>R v H'|.pan v=>RP v H') I W Z (h _ _ (λe ρ H1 A vs X U J hr=>?_) λv H1 A Y hr=>⟨A,Y,hr⟩);cases e with
 | exit i=>exact absurd rfl (X i)
 | normal=>simp only[zgH,U];exact⟨A,J,hr⟩
 | ret=>simp only[zgH,U];exact⟨A,J,hr⟩
def zi{f:FuncId}{args:List AV}{A XP:AV->zb->Prop}(h:zd P f args H (λe H'=>match e with|.ret v=>A v H'|.pan v=>XP v H'))(J:∀v H',A v H'->goR P KP Q all l st R (ρ.set d v) H')(U:∀v H',XP v H'->KP v H'):
  goK P KP Q all l st d R ρ f args H :=
 h.mono λe H' I=>by cases e with|ret v=>exact J v H' I|pan v=>exact U v H' I
end
structure OwnS (H:zb) (o:Own) (H':zb) (o':Own) (n sz:Nat):Prop where
 own:zA H' o' n sz
 kept:Kept H o H'
 new:zsk H o o'
def OwnS.refl{H:zb}{o:Own}{n sz:Nat}(h:zA H o n sz):OwnS H o H o n sz:=⟨h,λb x A _=>A,λb d e=>.inr ⟨d,e⟩⟩
def OwnS.trans{H H1 U:zb}{o Z o2:Own}{n Y sz:Nat}(h:OwnS H o H1 Z n sz)(h':OwnS H1 Z U o2 Y sz):OwnS H o U o2 Y sz:=by
 refine⟨h'.own,λb x I W=>h'.kept b x (h.kept b x I W) λd e=>?_,λb d e=>?_⟩
 ·rcases h.new b d e with A|⟨J,A⟩
  ·rw[I]at A;cases A
  ·exact W J A
 ·rcases h'.new b d e with A|⟨J,A⟩
  ·cases I:H b with
   | none=>exact .inl rfl
   | some x =>
    by_cases X:∃d,o=.tip b d
    ·exact .inr X
    ·have:=h.kept b x I (λd e=>X ⟨d,e⟩);rw[A]at this;cases this
  ·exact h.new b J A
def OwnS.upd{H H1:zb}{o I:Own}{n sz b:Nat}{x:AObj}(h:OwnS H o H1 I n sz)(A:H1 b=none):OwnS H o (H1.upd b x) I n sz:=by
 refine⟨h.own.upd A,λc y J U=>?_,h.new⟩;have:=h.kept c y J U;have W:c≠b:=λe=>by subst e;rw[A]at this;cases this
 simp only[zb.upd,W,if_false];exact this
def zj{P:Program}{KP:AV->zb->Prop}{Q:AExit->Env->zb->Prop}{st:List Fr}{ρ:Env}{H:zb}{all l:List AItem}{d:Option Nat}{R:List Chk}{sz bytes:Nat}{o o2:Own}{xs A:List (List AV)}(how:zA H o xs.length sz)(I:(xs.length+A.length)*bytes<=140737488355328)(J:xs.length+A.length<=maxLen)(U:∀o' H',OwnS H o H' o' (xs.length+A.length) sz->goR P KP Q all l st R (ρ.set d (.sl o' sz (xs++A.map (·.map AV.strip1)))) H'):
 goP P KP Q all l st d R ρ sz bytes (.sl o sz xs) (.sl o2 sz A) H:=zvt how I J λo' H' a b c=>U o' H' ⟨a,b,c⟩
def yz{α:Type}{f:α->List AV}{l a:List α}{x:α}{b:List α}(h:l=a++x::b):(List.map f l).getD a.length []=f x:=by subst h;simp
def ze.of_calls{P:Program}{f:FuncId}{args:List AV}{r:AV}(h:∀(γ:Gh) (w:World) (vs:List Value),zan γ w->zR γ w args vs->Calls P f vs.toArray w λe w'=>w'=w/\∃v,e=.returned v/\Rep γ w r v):ze P f args r:=by intro γ w vs J _ U;refine(h γ w vs J U).mono λe w' ⟨W,v,I,hr⟩=>?_;subst W;subst I;exact⟨γ,zb.emp,.ret r,.refl _ _ _,λb o A=>by simp[zb.emp]at A,λb A=>by simp[zb.emp]at A,hr,rfl,rfl⟩
def zqg(γ:Gh)(w:World):Option AV->FrameMode->Prop
 | none,u=>u=.returning
 | some c,u=>∃v,u=.panicking [{ v,recovered:=false }]/\Rep γ w c v
def YM:FrameMode->FrameMode
 | .panicking ({ v,recovered:=false,goexit:=false }::older)=>.panicking ({ v,recovered:=true }::older)
 | u=>u
def Ym(P:Program)(f:FuncId)(args:List AV)(rv:Option AV)(H:zb)(Q:zb->Prop):Prop :=∀(γ:Gh) (w:World) (vs:List Value) (u:FrameMode),zan γ w->zq γ w H->zR γ w args vs->zqg γ w rv u -> CallsD P f vs.toArray u w λe u' w'=>∃γ' H' v,e=.returned v/\u'=YM u/\Ext (λb=>(H b).isSome=true) γ w γ' w'/\zq γ' w' H' /\ (∀b,(H' b).isSome=true->(H b).isSome=true∨w.heap.size<=b)/\Q H'
def Ym.mono{P:Program}{f:FuncId}{args:List AV}{I:Option AV}{H:zb}{Q A:zb->Prop}(h:Ym P f args I H Q)(hq:∀H',Q H'->A H'):Ym P f args I H A :=λγ w vs u U J X W=>(h γ w vs u U J X W).mono λ_ _ _ ⟨γ',H',v,a,b,c,d,e,q⟩=>⟨γ',H',v,a,b,c,d,e,hq _ q⟩
def Ym.beside{P:Program}{f:FuncId}{args:List AV}{Z:Option AV}{H:zb}{Q:zb->Prop}{b:Nat}{o:AObj}(J:H b=none)(h:Ym P f args Z H Q):
  Ym P f args Z (H.upd b o) (λH'=>∃H0,H0 b=none/\H'=H0.upd b o/\Q H0):=by
 intro γ w vs u af Y ai ag;have ad:∀c x,H c=some x->c≠b:=λc x A e=>by subst e;rw[J]at A;cases A
 have aa:zq γ w H:=Y.sub λc x A=>by simp[zb.upd,ad c x A,A]
 have I:ObjRel γ w b o:=Y b o (by simp[zb.upd]);refine(h γ w vs u af aa ai ag).mono λe ak w' ⟨γ',H',v,ac,ah,U,ae,X,hq⟩=>?_;have ab:H' b=none:=by
  cases aj:H' b with
  | none=>rfl
  | some x =>
   rcases X b (by simp[aj])with W|W
   ·simp[J]at W
   ·have:=I.lt;omega
 refine⟨γ',H'.upd b o,v,ac,ah,U.weaken λc A=>?_,λc x A=>?_,λc A=>?_,H',ab,rfl,hq⟩
 ·unfold zb.upd;split
  ·rfl
  ·exact A
 ·unfold zb.upd at A;split at A
  ·rename_i e;subst e;simp only[Al1]at A;subst A;obtain⟨g,k⟩:=U.frame _ I.lt (by simp[J]);exact I.kept U.mono g k
  ·exact ae c x A
 ·unfold zb.upd at A ⊢;split at A
  ·rename_i e;subst e;left;simp
  ·rename_i e;simp only[e,if_false];exact X c A
def YN{P:Program}{ops:Array Oper}{Q:Exit->Act->List Frame->World->Prop}{cs:List Frame}(A:∀a w,¬ Q .outgrown a cs w):∀(l:List Nat) (a:Act) (w:World),wpOps P ops (λe a w=>Q e a cs w) l a w->wpOpsS P ops Q l a cs w
 | [],a,w,h=>h
 | i::rest,a,w,h=>by
  simp only[wpOps]at h;simp only[wpOpsS];cases ho:ops[i]? with
  | none=>simp only[ho]at h ⊢;exact YN A rest a w h
  | some o =>
   simp only[ho]at h ⊢;by_cases J:Region.wanted o (yielded ops a.tmps)=true
   ·simp only[J,if_true]at h ⊢;rcases h with h|⟨_,Z,w0,X⟩
    ·unfold Oper.wp at h;generalize (execOp a.eval o).run P w=r at h ⊢;have I:=YN (P:=P) (ops:=ops) A rest;cases r with
     | ok n w' =>
      cases n<;>first|exact I _ _ h|exact h.elim|skip
      ·exact Calls.mono h λe U hq=>by cases e<;>first|exact I _ _ hq|exact hq
      ·rename_i row args;intro c W;obtain⟨v,U,hq,Y⟩:=h c W;exact⟨v,U,I _ _ hq,Y⟩
     | halt x w'=>cases x<;>first|exact h|exact h.elim
    ·exact(A _ _ X).elim
   ·simp only[J,if_false,Al7]at h ⊢;exact YN A rest _ _ h
structure ADfn where
 N:Nat
 np:Nat
 d:Nat
 items:List AItem
 body:AC
def isRecover(o:Oper)(n:Nat):Bool :=
 decide (o.dst=some n)&&o.guard.isNone&&(match o.op with
  | .call c=>(match c.callee with|.builtin .recover=>true|_=>false)&&decide (c.args.size=0)
  | _=>false)
def zoS(P:Program)(f:FuncId)(ad:ADfn):Bool :=
 match P.funcs[f]? with
 | some fn=>match fn.body with
  | some (.seq (.region _ ops false) code)=>decide (fn.ntmps=ad.N)&&decide (ad.np<=ad.N)&&decide (ad.d<ad.N)&&decide (fn.results.size=0) && (match ops.toList with|o::r=>isRecover o ad.d&&decide (r.length=ad.items.length)&&((r.zip ad.items).all λx=>zaC ad.N 0 ops P x.1 x.2)|[]=>false)&&yW P ad.N 0 code ad.body&&ad.body.plain
  | _=>false
 | none=>false
def zyD(Q:zb->Prop):AExit->Env->zb->Prop
 | .exit _,_,_=>False
 | _,_,H=>Q H
def zif{o:Oper}{d:Nat}(h:isRecover o d=true):o.dst=some d/\o.guard=none/\∃c,o.op=.call c/\c.callee=.builtin .recover/\c.args=#[]:=by
 unfold isRecover at h;simp only[Al0,z6,Option.isNone_iff_eq_none]at h;obtain⟨⟨I,J⟩,A⟩:=h;refine⟨I,J,?_⟩;split at A
 ·rename_i c W;simp only[Al0,z6]at A;obtain⟨A,U⟩:=A;split at A
  ·rename_i X;exact⟨c,W,X,by simpa using U⟩
  ·cases A
 ·cases A
def Ym.of_fn{P:Program}{f:FuncId}(A:ADfn)(Y:zoS P f A=true){args:List AV}{ad:Option AV}{H:zb}{Q:zb->Prop}(bv:args.length<=A.np)(h:yI P (λ_ _=>False) (zaj A.items) ((Zb (ZO 0 args)).set (some A.d) (ad.getD (.oth .nilIface))) H λX H'=>awp P (λ_ _=>False) A.body (zyD Q) X H'):Ym P f args ad H Q:=by
 intro γ w vs u bo ar av au;unfold zoS at Y;cases ai:P.funcs[f]? with
 | none=>simp[ai]at Y
 | some U =>
  simp only[ai]at Y;split at Y
  ·rename_i id ops code a4;simp only[Al0,z6]at Y;obtain⟨⟨⟨⟨⟨⟨a0,bw⟩,a7⟩,bl⟩,af⟩,a6⟩,bj⟩:=Y;split at af
   ·rename_i o r aj;simp only[Al0,z6]at af;obtain⟨⟨bk,hlen⟩,a1⟩:=af;obtain⟨a8,a9,bt,bg,a5,a2⟩:=zif bk;have hsz:ops.size=A.items.length+1:=by have:=congrArg List.length aj;simpa[hlen]using this
    have az:ops[0]?=some o:=by rw[<-Array.getElem?_toList,aj];rfl
    have bd:∀k,ops[k+1]?=r[k]?:=λk=>by rw[<-Array.getElem?_toList,aj];rfl
    refine callsD_of_wpS ai a4 (λI cs ah=>wpS_seq (wpS_region ?_));rw[hsz,List.range_succ_eq_map];simp only[wpOpsS,az];have bq:Region.wanted o (yielded ops (vs.toArray++Array.replicate (U.ntmps-vs.toArray.size) undef))=true:=by simp[Region.wanted,a9]
    simp only[bq,if_true];have bn:∀a:Act,(execOp a.eval o).run P w=.ok .recover w:=λa=>by simp[execOp,bg,a5,a2,resolve,invoke,builtin,Sem.run_bind,Result.andThen]
    rw[bn];have bu:vs.toArray.size<=A.N:=by simp only[List.size_toArray];rw[<-av.1];omega
    have key:∀v,Rep γ w (ad.getD (.oth .nilIface)) v->wpOpsS P ops (Exit.thenS (code.wpS P (bodyPostS P U I cs λe ab w'=>∃γ' H' v,e=.returned v/\ab=YM u/\Ext (λb=>(H b).isSome=true) γ w γ' w'/\zq γ' w' H' /\
      (∀b,(H' b).isSome=true->(H b).isSome=true∨w.heap.size<=b)/\Q H')) (bodyPostS P U I cs λe ab w'=>∃γ' H' v,e=.returned v/\ab=YM u/\Ext (λb=>(H b).isSome=true) γ w γ' w'/\zq γ' w' H' /\
      (∀b,(H' b).isSome=true->(H b).isSome=true∨w.heap.size<=b)/\Q H')) ((List.range A.items.length).map Nat.succ) (Act.put { tmps:=vs.toArray++Array.replicate (U.ntmps-vs.toArray.size) undef,defers:=[] } o.dst v) ({ I with mode:=YM u }::cs) w:=by
     intro v al;have bc:SInv γ w H (Fx.plain A.N) γ w H (Zb (ZO 0 args)) { tmps:=vs.toArray++Array.replicate (U.ntmps-vs.toArray.size) undef,defers:=[] } :=⟨.refl _ _ _,ar,yn.refl _ _,zhg bo av _,by show _=A.N;rw[a0,Array.size_append,Array.size_replicate];omega,λn bf=>absurd bf (Nat.not_lt_zero n),DfOk.init rfl⟩;have ba:SInv γ w H (Fx.plain A.N) γ w H ((Zb (ZO 0 args)).set (some A.d) (ad.getD (.oth .nilIface))) (Act.put { tmps:=vs.toArray++Array.replicate (U.ntmps-vs.toArray.size) undef,defers:=[] } o.dst v):=by rw[a8];exact bc.step (.refl _ _ _) ar (yn.refl _ _) (λx am=>by cases am;exact⟨Nat.zero_le _,a7⟩) al
     refine YN (λa w' hq=>?_) _ _ _ ?_
     ·obtain⟨ab,_,_,_,J,_⟩:=hq;cases J
     ·have ao:∀(e:Exit) γ' w' H' X Z,(e=.normal∨e=.ret)->SInv γ w H (Fx.plain A.N) γ' w' H' X Z->Q H'->bodyPostS P U I cs (λe ab w'=>∃γ' H' v,e=.returned v/\ab=YM u/\Ext (λb=>(H b).isSome=true) γ w γ' w'/\zq γ' w' H' /\
        (∀b,(H' b).isSome=true->(H b).isSome=true∨w.heap.size<=b)/\Q H') e Z ({ I with mode:=YM u }::cs) w':=by
       intro e γ' w' H' X Z J hi hq;have hr:(results U Z.tmps).run P w'=.ok (.tuple #[]) w':=by
        have:U.results=#[]:=by simpa using bl
        simp[results,this,Sem.run_bind]
       rcases J with rfl|rfl<;>exact⟨hi.df.plain rfl,_,rfl,_,hr,γ',H',_,rfl,rfl,hi.ext,hi.st,hi.keys,hq⟩
      refine zbX (F:=Fx.plain A.N) (KP:=λ_ _=>False) (K:=λX H'=>awp P (λ_ _=>False) A.body (zyD Q) X H') (λax a w' bh=>?_) (λγ' w' H' X Z hi a3=>?_) _ (zaj A.items) (by simp[zaj]) (λk i it ap hit=>?_) γ w H _ _ ba h
      ·obtain⟨_,_,_,_,_,_,_,_,_,ac,_⟩:=bh;exact ac.elim
      ·refine wpS_of_wp (wp_mono (zay (F:=Fx.plain A.N) (KP:=λ_ _=>False) (λ_ _ _ _ _ ac=>ac) A.body code (zyD Q) (.inl bj) a6 γ' w' H' X Z hi a3) λe an aw J=>?_);cases e with
       | normal=>obtain⟨g,ae,ag,aa,W⟩:=J;exact ao .normal g aw ae ag an (.inl rfl) aa W
       | ret=>obtain⟨g,ae,ag,aa,W⟩:=J;exact ao .ret g aw ae ag an (.inr rfl) aa W
       | exit id=>obtain⟨g,ae,ag,aa,W⟩:=J;exact W.elim
       | goto l=>exact J.elim
       | outgrown=>exact J.elim
       | panic ax=>obtain⟨_,_,_,_,_,_,_,_,_,ac,_⟩:=J;exact ac.elim
      ·rw[Yg,zbA]at ap;obtain⟨bx,be,rfl⟩:=ap;obtain⟨aa,W⟩:=zaB.1 be;simp at aa W;subst W;simp only[zaj,Yg,zbA]at hit;obtain⟨x,am,rfl⟩:=hit;have aq:k<r.length:=by omega
       refine⟨r[k],by show ops[k+1]?=_;rw[bd,Al9 aq],?_⟩;have br:(r.zip A.items)[k]?=some (r[k],x):=by rw[List.getElem?_zip_eq_some];exact⟨Al9 aq,am⟩
       exact zdi.1 a1 _ (List.mem_of_getElem? br)
    cases ad with
    | none =>
     have bp:u=.returning:=au;subst bp;have ak:recoverD (I::cs)=none:=by simp[recoverD,ah]
     have ay:({ I with mode:=YM .returning }:Frame)=I:=by
      have:YM .returning=I.mode:=by rw[ah];rfl
      rw[this]
     simp only[ak];have:=key .nilIface (.oth _)
     rwa [ay]at this
    | some c =>
     obtain⟨v,rfl,al⟩:=au;have ak:recoverD (I::cs)=some (v,{ I with mode:=YM (.panicking [{ v,recovered:=false }]) }::cs):=by simp[recoverD,ah,YM]
     simp only[ak];exact key v al
   ·cases af
  ·cases Y
def st2:type_of% (And.intro @zpu<|And.intro @zqi<|And.intro @zr7<|And.intro @zpz<|And.intro @zxg<|And.intro @zpH<|And.intro @zxd<|And.intro @zpp<|And.intro @zpP<|And.intro @List.append_nil.{0}<|And.intro @zia<|And.intro @zhQ<|And.intro @zhP<|And.intro @zhx<|And.intro @zhy<|And.intro @decide_true<|And.intro @decide_false<|And.intro @List.take_succ_cons.{0}<|And.intro @List.take_zero.{0}<|And.intro @List.drop_succ_cons.{0}<|And.intro @List.drop_zero.{0}<|And.intro @List.length_cons.{0}<|And.intro @List.length_nil.{0}<|And.intro @List.take_length.{0}<|And.intro @List.headD_cons.{0}<|And.intro @List.cons_append.{0}<|And.intro @List.nil_append.{0}<|And.intro @Option.map_some.{0,0}<|And.intro @Bool.not_true<|And.intro @Bool.not_false<|And.intro @Bool.false_eq_true<|And.intro @eq_self.{1}<|And.intro @List.replicate_zero.{0}<|And.intro @List.replicate_succ.{0}<|And.intro @List.set_cons_zero.{0}<|And.intro @List.set_cons_succ.{0}<|And.intro @Nat.lt_add_one<|And.intro @Nat.zero_lt_succ<|And.intro @Nat.le_refl<|And.intro @if_pos.{1}<|And.intro @upd_ne<|And.intro @List.getElem?_cons_succ.{0}<|And.intro @List.getElem?_cons_zero.{0}<|And.intro @Option.some.injEq.{0}<|And.intro @Int.cast_ofNat_Int<|And.intro @List.getD_cons_zero.{0}<|And.intro @List.getD_cons_succ.{0}<|And.intro @Int.toNat_natCast<|And.intro @Int.natCast_zero<|And.intro @Int.natCast_eq_zero<|And.intro @Int.zero_add<|And.intro @Int.natCast_nonneg<|And.intro @true_and<|And.intro @and_true<|And.intro @not_false_eq_true<|And.intro @not_true_eq_false<|And.intro @ne_eq.{1}<|And.intro @List.map_nil.{0,0}<|And.intro @List.map_cons.{0,0}<|And.intro @beq_self_eq_true.{0}<|And.intro @implies_true.{0}<|@Bool.true_eq_false) :=And.intro @zpu<|And.intro @zqi<|And.intro @zr7<|And.intro @zpz<|And.intro @zxg<|And.intro @zpH<|And.intro @zxd<|And.intro @zpp<|And.intro @zpP<|And.intro @List.append_nil.{0}<|And.intro @zia<|And.intro @zhQ<|And.intro @zhP<|And.intro @zhx<|And.intro @zhy<|And.intro @decide_true<|And.intro @decide_false<|And.intro @List.take_succ_cons.{0}<|And.intro @List.take_zero.{0}<|And.intro @List.drop_succ_cons.{0}<|And.intro @List.drop_zero.{0}<|And.intro @List.length_cons.{0}<|And.intro @List.length_nil.{0}<|And.intro @List.take_length.{0}<|And.intro @List.headD_cons.{0}<|And.intro @List.cons_append.{0}<|And.intro @List.nil_append.{0}<|And.intro @Option.map_some.{0,0}<|And.intro @Bool.not_true<|And.intro @Bool.not_false<|And.intro @Bool.false_eq_true<|And.intro @eq_self.{1}<|And.intro @List.replicate_zero.{0}<|And.intro @List.replicate_succ.{0}<|And.intro @List.set_cons_zero.{0}<|And.intro @List.set_cons_succ.{0}<|And.intro @Nat.lt_add_one<|And.intro @Nat.zero_lt_succ<|And.intro @Nat.le_refl<|And.intro @if_pos.{1}<|And.intro @upd_ne<|And.intro @List.getElem?_cons_succ.{0}<|And.intro @List.getElem?_cons_zero.{0}<|And.intro @Option.some.injEq.{0}<|And.intro @Int.cast_ofNat_Int<|And.intro @List.getD_cons_zero.{0}<|And.intro @List.getD_cons_succ.{0}<|And.intro @Int.toNat_natCast<|And.intro @Int.natCast_zero<|And.intro @Int.natCast_eq_zero<|And.intro @Int.zero_add<|And.intro @Int.natCast_nonneg<|And.intro @true_and<|And.intro @and_true<|And.intro @not_false_eq_true<|And.intro @not_true_eq_false<|And.intro @ne_eq.{1}<|And.intro @List.map_nil.{0,0}<|And.intro @List.map_cons.{0,0}<|And.intro @beq_self_eq_true.{0}<|And.intro @implies_true.{0}<|@Bool.true_eq_false
open Go.ChangeAt Go.ChangeShapes Go.RowKit Go.WideElems Go.WideShapes
mutual
def blk{H:Type}:DataW H->Nat
 | .lit (.string bytes)=>bytes.length+1
 | .lit _=>1
 | .nil=>1
 | .ptr d=>blk d+1
 | .slice elems spare=>Yy elems+Yy spare+1
 | .agg parts=>Yy parts+1
 | .iface _ d=>blk d+1
 | .map entries=>zpm entries+1
 | .held _=>1
def Yy{H:Type}:List (DataW H)->Nat
 | []=>0
 | d::r=>blk d+Yy r
def zpm{H:Type}:List (Lit×DataW H)->Nat
 | []=>0
 | x::r=>zoT x+zpm r
def zoT{H:Type}:Lit×DataW H->Nat
 | (.string bytes,d)=>bytes.length+blk d+1
 | (_,d)=>blk d+1
end
def zqj{H:Type}(d:DataW H):1<=blk d:=by
 cases d with
 | lit l=>cases l<;>simp[blk]
 | nil=>simp[blk]
 | ptr d=>simp[blk]
 | slice elems A=>simp[blk]
 | agg parts=>simp[blk]
 | iface t d=>simp[blk]
 | map entries=>simp[blk]
 | held h=>simp[blk]
def zjH{H:Type}(l:List (DataW H))(k:Nat)(h:k<l.length):Yy (l.take (k+1))=Yy (l.take k)+blk (l.getD k .nil):=by
 induction l generalizing k with
 | nil=>simp at h
 | cons d r A =>
  cases k with
  | zero=>simp[Yy]
  | succ k =>simp only[zfF,Yy,List.getD_cons_succ];rw[A k (by simpa using h)];omega
def zI(P:Program)(m:Nat)(t:TypeId)(sz:Nat){α:Type}(f:α->List AV)(ok:α->Prop)(g:α->Nat):Prop :=∀ {H:Type} (enc:TypeId×Value->H) (W:World) (cs:List Value) (d:DataW H) (ps:List MemPlace),DataW.trod enc P W 0 (λ_=>true) true m t cs=some (d,ps) -> (∀n∈d.weights P t,n<=reachBytes)->∃a,ok a/\g a<=blk d/\(f a).length=sz/\zv zjh W (f a) cs
section
variable {P:Program} {m:Nat} {t:TypeId}
def zI.zero{sz:Nat}{α:Type}{f:α->List AV}{ok:α->Prop}{g:α->Nat}:zI P 0 t sz f ok g:=λenc A cs d ps h _=>by simp[DataW.trod]at h
def zI.int{k:IntKind}(I:P.underlying t=some (.int k)):zI P m t 1 (λn:Int=>[.int k n]) (λn=>(Lit.int k n).wf=true) (λ_=>1):=by intro H enc U cs d ps h _;obtain⟨n,rfl,A,J⟩:=DataW.trod_int I h;simp only[Al8]at A;obtain⟨rfl,rfl⟩:=A;exact⟨n,J,Al4 _,rfl,zcD (.int k n) rfl⟩
def zI.bool(I:P.underlying t=some .bool):zI P m t 1 (λb:Bool=>[.bool b]) (λ_=>True) (λ_=>1):=by intro H enc J cs d ps h _;obtain⟨b,rfl,A⟩:=DataW.trod_bool I h;simp only[Al8]at A;obtain⟨rfl,rfl⟩:=A;exact⟨b,trivial,Al4 _,rfl,zcD (.bool b) rfl⟩
def zI.str(I:P.underlying t=some .string):zI P m t 1 (λs:List UInt8=>[.str s]) (λs=>s.length<=reachBytes) (λs=>s.length+1):=by intro H enc U cs d ps h J;obtain⟨s,rfl,A,W⟩:=DataW.trod_string I h;simp only[Al8]at A;obtain⟨rfl,rfl⟩:=A;refine⟨s.data.toList,J _ (by simp[DataW.weights]),Al4 _,rfl,zcD ?_ rfl⟩;exact .str _
def zI.slice{e:TypeId}{sz B:Nat}{α:Type}{f:α->List AV}{ok:α->Prop}{g:α->Nat}(al:P.underlying t=some (.slice e))(ar:P.bytesOf e=B)(hsz:P.cellsOf e=sz)(a6:0<sz)(ay:zI P m e sz f ok g):
  zI P (m+1) t 1 (λl:List α=>[.sl .no sz (l.map f)]) (λl=>l.length*B<=reachBytes/\l.length<=maxLen/\∀x∈l,ok x) (λl=>(l.map g).sum+1):=by
 intro H enc U cs d ps h ap;rcases DataW.trod_slice al h with ⟨rfl,_⟩|⟨a,len,cap,elems,rest,n,a3,rfl,W,bh,bn,aw,az,am,a9,_⟩
 ·exact⟨[],⟨by simp,by simp,by simp⟩,by simp[zqj],rfl,zcD (.slnil .no sz (by simp)) rfl⟩
 ·cases a3;simp only[Al8]at W;obtain⟨rfl,rfl⟩:=W;obtain⟨bo,a7⟩:=a9 rfl;subst hsz;have bc:∀y∈elems,∀n∈y.1.weights P e,n<=reachBytes:=λy J n a5=>ap n (by simp only[DataW.weights,al,List.mem_cons,List.mem_append];exact .inr (.inl (zhF (List.mem_map_of_mem J) n a5)));have a1:len*P.bytesOf e<=reachBytes:=by have:=ap ((elems.length+rest.length)*P.bytesOf e) (by simp[DataW.weights,al]);rw[az]at this;exact Nat.le_trans (Nat.mul_le_mul_right _ (Nat.le_add_right _ _)) this
  have each:∀i,i<len->∃(x:α) (A:List Value),ok x/\g x<=blk ((elems.map (·.1)).getD i .nil)/\(f x).length=P.cellsOf e/\zv zjh U (f x) A/\(∀j,j<P.cellsOf e->U.cell? (a.add (i*P.cellsOf e+j))=A[j]?)/\A.length=P.cellsOf e:=by
   intro i hi;have Z:=am i hi;have aj:i<elems.length:=by omega
   rw[Al9 aj,Option.bind_eq_some_iff]at Z;obtain⟨A,ba,ax⟩:=Z;obtain⟨x,hx1,bf,bd,be⟩:=ay enc U A elems[i].1 elems[i].2 ax (bc _ (List.getElem_mem aj));obtain⟨_,aa,ai⟩:=World.cells?_some ba;refine⟨x,A,hx1,by simpa[aj]using bf,bd,be,λj ab=>?_,aa⟩;have:=ai j ab
   rwa [addr_add_add]at this
  rcases Nat.eq_zero_or_pos cap with au|bj
  ·have ak:len=0:=by omega
   subst ak;subst au;exact⟨[],⟨by simp,by simp,by simp⟩,by simp[zqj],rfl,zcD (.sl0 .no _ a (.inl rfl)) rfl⟩
  ·-- some cell is read: the address is plain
   have an:a.spot=none:=by
    have Z:∃A,U.cells? 0 (a.add 0) (P.cellsOf e)=some A:=by
     rcases Nat.eq_zero_or_pos len with ak|a2
     ·have Y:=a7 0 (by omega);rw[Al9 (by omega),Option.bind_eq_some_iff]at Y;obtain⟨A,I,_⟩:=Y;rw[ak]at I;simp only[Nat.add_zero,Nat.zero_mul]at I;exact⟨A,I⟩
     ·have Y:=am 0 a2;rw[Al9 (by omega),Option.bind_eq_some_iff]at Y;obtain⟨A,I,_⟩:=Y;simp only[Nat.zero_mul]at I;exact⟨A,I⟩
    obtain⟨A,Z⟩:=Z;obtain⟨_,aa,ai⟩:=World.cells?_some Z;have I:=ai 0 a6;have aq:(a.add 0).add 0=a:=rfl;rw[aq]at I;have X:(U.cell? a).isSome=true:=by rw[I,Al9 (by omega)];rfl
    unfold World.cell? at X;split at X
    ·split at X
     ·cases X
     ·rename_i a8;cases ae:a.spot with
      | none=>rfl
      | some s=>simp[ae]at a8
    ·cases X
   obtain⟨b,ad,bp⟩:=a;simp only at an;subst an;have av:∀k,k<=len->∃l:List α,l.length=k/\(l.map g).sum<=Yy ((elems.map (·.1)).take k)/\∀i x,l[i]?=some x->ok x/\(f x).length=P.cellsOf e/\∃A:List Value,zv zjh U (f x) A/\(∀j,j<P.cellsOf e->U.cell? (Addr.add ⟨b,ad,none⟩ (i*P.cellsOf e+j))=A[j]?)/\A.length=P.cellsOf e:=by
    intro k;induction k with
    | zero=>intro _;exact⟨[],rfl,by simp,by simp⟩
    | succ k bg =>
     intro bl;obtain⟨l,aa,ao,ac⟩:=bg (by omega);obtain⟨x,A,Z,bk,Y,I,X,ae⟩:=each k (by omega);refine⟨l++[x],by simp[aa],?_,λi y J=>?_⟩
     ·rw[List.map_append,List.sum_append,zjH _ k (by simp;omega)];simp only[List.map_cons,List.map_nil,List.sum_cons,List.sum_nil];omega
     rcases Nat.lt_or_ge i l.length with hi|hi
     ·rw[zeA hi]at J;exact ac i y J
     ·rw[zhT hi]at J;have:i=l.length:=by
       rcases Nat.lt_or_ge 0 (i-l.length)with h|h
       ·rw[List.getElem?_eq_none (by simp;omega)]at J;cases J
       ·omega
      subst this;simp at J;subst J;exact⟨Z,Y,A,I,by rw[aa];exact X,ae⟩
   obtain⟨l,aa,ao,ac⟩:=av len (Al4 _);refine⟨l,⟨by rw[aa,<-ar];exact a1,by omega,λx W=>?_⟩,?_,rfl,zcD ?_ rfl⟩
   ·obtain⟨i,hi⟩:=List.mem_iff_getElem?.1 W;exact(ac i x hi).1
   ·rw[List.take_of_length_le (by simp;omega)]at ao;simp only[blk];omega
   ·have a4:(l.map f).length=len:=by simp[aa]
    rw[<-a4];refine .sl .no _ (l.map f) b ad cap (λi j=>(U.cell? ⟨b,ad+(i*P.cellsOf e+j),none⟩).getD undef) (by omega) aw (λx W=>?_) (λi x W j ab=>?_) (λi x W j c ab=>?_) trivial
    ·obtain⟨y,J,rfl⟩:=List.mem_map.1 W;obtain⟨i,hi⟩:=List.mem_iff_getElem?.1 J;exact(ac i y hi).2.1
    ·simp only[Yg,zbA]at W;obtain⟨y,J,rfl⟩:=W;obtain⟨_,Y,A,I,X,ae⟩:=ac i y J;have ah:=X j ab;have af:A[j]?=some A[j]:=Al9 (by omega);have ag:U.cell? ⟨b,ad+(i*P.cellsOf e+j),none⟩=some A[j]:=by rw[<-af,<-ah,addr_add]
     refine⟨by rw[ag];rfl,trivial,?_⟩;rw[ag];exact I.2.1 j _ af
    ·simp only[Yg,zbA]at W;obtain⟨y,J,rfl⟩:=W;obtain⟨_,Y,A,I,X,ae⟩:=ac i y J;have a0:j<P.cellsOf e:=by have:=(zaB.1 ab).1;omega
     have ah:=X j a0;have af:A[j]?=some A[j]:=Al9 (by omega);have ag:U.cell? ⟨b,ad+(i*P.cellsOf e+j),none⟩=some A[j]:=by rw[<-af,<-ah,addr_add]
     show Rep zjh U c ((U.cell? ⟨b,ad+(i*P.cellsOf e+j),none⟩).getD undef);rw[ag];exact I.2.2 j c _ ab af
def zy(P:Program)(m:Nat)(off:Nat)(fs:List (Nat×TypeId))(sz:Nat){α:Type}(f:α->List AV)(ok:α->Prop)(gg:α->Nat):Prop :=
 ∀ {H:Type} (enc:TypeId×Value->H) (W:World) (cs:List Value) (xs:List (DataW H×List MemPlace)),
  (∀(i:Nat) (g:Nat×TypeId),fs[i]?=some g->DataW.trod enc P W 0 (λ_=>true) true m g.2 ((cs.drop g.1).take (P.cellsOf g.2))=xs[i]?)->xs.length=fs.length ->
  (∀n∈DataW.weightsEach P (fs.map (·.2)) (xs.map (·.1)),n<=reachBytes)->off+sz<=cs.length->∃a,ok a/\gg a<=Yy (xs.map (·.1))/\(f a).length=sz/\zv zjh W (f a) ((cs.drop off).take sz)
def zy.nil{A:Nat}:zy P m A [] 0 (λ_:Unit=>[]) (λ_=>True) (λ_=>0):=by intro H enc I cs xs _ _ _ _;exact⟨(),trivial,Nat.zero_le _,rfl,rfl,by simp,by simp⟩
def zy.cons{A sz J:Nat}{u:TypeId}{aa:List (Nat×TypeId)}{α U:Type}{f:α->List AV}{ok:α->Prop}{Z:U->List AV}{ok':U->Prop}{g:α->Nat}{I:U->Nat}(hsz:P.cellsOf u=sz)(h:zI P m u sz f ok g)(h':zy P m (A+sz) aa J Z ok' I):
  zy P m A ((A,u)::aa) (sz+J) (λx:α×U=>f x.1++Z x.2) (λx=>ok x.1/\ok' x.2) (λx=>g x.1+I x.2):=by
 intro H enc Y cs xs ad ab ac ao;cases xs with
 | nil=>simp at ab
 | cons y al =>
  have W:=ad 0 (A,u) rfl;rw[hsz]at W;simp only[List.getElem?_cons_zero]at W;obtain⟨a,ae,am,af,ag⟩:=h enc Y _ y.1 y.2 W (λn X=>ac n (by simp only[List.map_cons,DataW.weightsEach,List.mem_append];exact .inl X));obtain⟨b,ah,an,ai,aj⟩:=h' enc Y cs al (λi I ak=>by have:=ad (i+1) I (by simpa using ak);simpa using this) (by simpa using ab) (λn X=>ac n (by simp only[List.map_cons,DataW.weightsEach,List.mem_append];exact .inr X)) (by omega);refine⟨(a,b),⟨ae,ah⟩,by simp only[List.map_cons,Yy];omega,by simp[af,ai],?_⟩;have e:(cs.drop A).take (sz+J)=(cs.drop A).take sz++(cs.drop (A+sz)).take J:=by rw[List.take_add,List.drop_drop]
  rw[e];exact ag.append aj
def zI.struct{X:List (Nat×TypeId)}{sz:Nat}{α I:Type}{f:α->List AV}{ok:α->Prop}{Y:α->Nat}(h:zy P m 0 X sz f ok Y)(am:flds P t=some X)(hsz:P.cellsOf t=sz)(g:I->List AV)(ok':I->Prop)(J:I->Nat)(k:α->I)(Z:∀a,g (k a)=f a)(al:∀a,ok a->ok' (k a))(aj:∀a,J (k a)<=Y a+1):
  zI P (m+1) t sz g ok' J:=by
 intro H enc ad cs d ps ah an;obtain⟨ae,aa,W⟩:=zkX am;obtain⟨xs,n,ak,ac,ap,hlen,ai⟩:=DataW.trod_struct aa ah;cases ak;simp only[Al8]at ac;obtain⟨rfl,rfl⟩:=ac;obtain⟨a,af,ao,ag,U⟩:=h enc ad cs xs (λi J A=>by
   rw[<-W,Yg]at A;cases hi:ae.toList[i]? with
   | none=>simp[hi]at A
   | some z=>simp only[hi,ZS,Al1]at A;subst A;exact ai i z (by simpa using hi)) (by rw[<-W];simpa using hlen) (λn ab=>an n (by
   rw[<-W,List.map_map]at ab;simpa[DataW.weights,aa,Function.comp_def]using ab)) (by omega)
 refine⟨k a,al a af,by have:=aj a;simp only[blk];omega,by rw[Z];exact ag,?_⟩;rw[Z];simp only[List.drop_zero]at U;rw[List.take_of_length_le (by omega)]at U;exact U
def zI.argS{sz:Nat}{α:Type}{f:α->List AV}{ok:α->Prop}{g:α->Nat}(h:∀m,zI P m t sz f ok g){H:Type}{enc:TypeId×Value->H}{I:World}{cs:Array Value}{d:DataW H}{ps:List MemPlace}(W:DataW.Trod enc P I 0 (λ_=>true) true t (.agg cs) d ps)(Y:∀n∈d.weights P t,n<=reachBytes):∃a,ok a/\g a<=blk d/\Rep zjh I (.agg (f a)) (.agg cs):=by
 obtain⟨n,X⟩:=W;obtain⟨a,J,U,Z,A⟩:=h n enc I _ d ps X Y;simp only[Value.cells]at A;have:=Rep.agg (f a) cs.toList A.1 A.2.1 A.2.2;exact⟨a,J,U,by simpa using this⟩
end
end Go.Ab
namespace Go.Ab
structure ASp where
 N:Nat
 np:Nat
 lo:Nat
 pre:AC
 blk:AC
 items:List AItem
 g:Nat
 body:AC
 res:List ARes
 mid:Option AC:=none
def zlF(o:Oper)(g:Nat):Bool :=
 o.dst.isNone&&o.guard.isNone&&(match o.op with
  | .defer c=>(match c.callee with|.value (.tmp t)=>decide (t=g)|_=>false)&&decide (c.args.size=0)
  | _=>false)
def zlB{o:Oper}{g:Nat}(h:zlF o g=true):o.dst=none/\o.guard=none/\∃c,o.op=.defer c/\c.callee=.value (.tmp g)/\c.args=#[]:=by
 unfold zlF at h;simp only[Al0,Option.isNone_iff_eq_none]at h;obtain⟨⟨I,J⟩,A⟩:=h;refine⟨I,J,?_⟩;split at A
 ·rename_i c W;simp only[Al0,z6]at A;obtain⟨A,U⟩:=A;split at A
  ·rename_i t X;simp only[z6]at A;subst A;exact⟨c,W,X,by simpa using U⟩
  ·cases A
 ·cases A
def zh2(P:Program)(sp:ASp):Code->Bool
 | .seq cb (.seq (.region _ ops false) rest)=>yW P sp.N 0 cb sp.blk&&decide (ops.size=sp.items.length+1) && ((ops.toList.zip sp.items).all λx=>zaC sp.N 0 ops P x.1 x.2)&&(match ops[sp.items.length]? with|some o=>zlF o sp.g|none=>false)&&yW P sp.N sp.lo rest sp.body&&sp.blk.plain&&sp.body.plain
 | _=>false
def zs1(P:Program)(sp:ASp):Option AC->Code->Bool
 | none,r=>zh2 P sp r
 | some m,.seq cm r=>yW P sp.N 0 cm m&&m.plain&&zh2 P sp r
 | some _,_=>false
def zug(P:Program)(f:FuncId)(sp:ASp):Bool :=
 match P.funcs[f]? with
 | some fn=>match fn.body with
  | some (.seq c0 r)=>decide (fn.ntmps=sp.N)&&decide (sp.np<=sp.N)&&decide (sp.lo<=sp.N)&&zaz P fn.results.toList sp.res && yW P sp.N 0 c0 sp.pre&&sp.pre.plain&&zs1 P sp sp.mid r
  | _=>false
 | none=>false
def zzs(sp:ASp)(Q:AEnd->zb->Prop)(ρ1:Env):zb->Prop:=λH=>∃vs,zo (ρ1.keep (List.range sp.lo)) H sp.res=some vs/\∃H',Low H' H/\Q (.ret (zP vs)) H'
def zAH(P:Program)(Q:AEnd->zb->Prop)(sp:ASp)(ρ1:Env)(H1:zb):Prop :=∃f caps,ρ1 sp.g=.clo f [] caps/\Program.callable P f=true /\ awp P (λc H=>∃H0,Low H0 H/\Ym P f caps (some c) H0 (zzs sp Q ρ1)) sp.body (λe _ H=>match e with|.exit _=>False|_=>∃H0,Low H0 H/\Ym P f caps none H0 (zzs sp Q ρ1)) ρ1 H1
def zl1(fin:Env->zb->Prop)(K:Env->zb->Prop):AExit->Env->zb->Prop
 | .normal,ρ,H=>K ρ H
 | .ret,ρ,H=>fin ρ H
 | .exit _,_,_=>False
def zyH(P:Program)(Q:AEnd->zb->Prop)(sp:ASp)(ρ:Env)(H:zb):Prop :=awp P (zlV Q) sp.blk (zl1 (zgH sp.res Q .ret) λρ H=>yI P (zlV Q) (zaj sp.items) ρ H λρ1 H1=>zAH P Q sp ρ1 H1) ρ H
def zBK(P:Program)(Q:AEnd->zb->Prop)(sp:ASp):Option AC->Env->zb->Prop
 | none,ρ,H=>zyH P Q sp ρ H
 | some m,ρ,H=>awp P (zlV Q) m (zl1 (zgH sp.res Q .ret) λρ H=>zyH P Q sp ρ H) ρ H
def zzu(P:Program)(Q:AEnd->zb->Prop)(sp:ASp)(ρ:Env)(H:zb):Prop :=awp P (zlV Q) sp.pre (zl1 (zgH sp.res Q .ret) λρ H=>zBK P Q sp sp.mid ρ H) ρ H
def zgv{P:Program}{ops:Array Oper}{Q:Exit->Act->World->Prop}(J:List Nat):∀(W:List Nat) (a:Act) (w:World),
  wpOps P ops (λe=>match e with|.normal=>wpOps P ops Q J|e=>Q e) W a w->wpOps P ops Q (W++J) a w
 | [],a,w,h=>h
 | i::l,a,w,h=>by
  rw[Al6];simp only[wpOps]at h ⊢;have A:=zgv (P:=P) (ops:=ops) (Q:=Q) J l;cases ho:ops[i]? with
  | none=>simp only[ho]at h;exact A _ _ h
  | some o =>
   simp only[ho]at h;by_cases U:Region.wanted o (yielded ops a.tmps)=true
   ·simp only[U,if_true]at h ⊢;rcases h with h|⟨Z,X,w0,Y⟩
    ·left;unfold Oper.wp at *
     generalize (execOp a.eval o).run P w=r at *
     cases r with
     | ok n w' =>
      cases n<;>simp only[Oper.upon]at h ⊢ <;>
       first
        | exact A _ _ h
        | exact Calls.mono h (λe aa I=>by cases e<;>first|exact A _ _ I|exact I)
        | exact Rows.mono h (λ_ _ I=>A _ _ I)
     | halt x w'=>cases x<;>simp only[Oper.upon]at h ⊢<;>exact h
    ·exact .inr ⟨Z,X,w0,Y⟩
   ·simp only[U,Al7,if_false]at h ⊢;exact A _ _ h
def zmi(ρ:Env)(l:List Nat)(n:Nat):(ρ.keep l) n=if n∈l then ρ n else .any:=by
 unfold Env.keep;induction l with
 | nil=>rfl
 | cons x l A =>
  simp only[List.map_cons,Zb,A,List.mem_cons];by_cases h:n=x
  ·subst h;simp
  ·simp[h]
def zd.of_sp{P:Program}{f:FuncId}(sp:ASp)(ac:zug P f sp=true){args:List AV}{H:zb}{Q:AEnd->zb->Prop}(dx:args.length<=sp.np)(h:zzu P Q sp (Zb (ZO 0 args)) H):zd P f args H Q:=by
 intro γ w vs dc bo a5
 unfold zug at ac
 cases bf:P.funcs[f]? with
 | none=>simp[bf]at ac
 | some ap =>
  simp only[bf]at ac
  split at ac
  ·rename_i c0 dj ce
   simp only[Al0,z6]at ac
   obtain⟨⟨⟨⟨⟨⟨b8,dy⟩,dt⟩,bx⟩,cg⟩,c4⟩,af⟩:=ac
   refine calls_of_wp_defers bf ce ?_
   have hlen:vs.toArray.size<=sp.N:=by simp only[List.size_toArray];rw[<-a5.1];omega
   have co:SInv γ w H (Fx.plain sp.N) γ w H (Zb (ZO 0 args)) { tmps:=vs.toArray++Array.replicate (ap.ntmps-vs.toArray.size) undef,defers:=[] } :=
    ⟨.refl _ _ _,bo,yn.refl _ _,zhg dc a5 _,by show _=sp.N;rw[b8,Array.size_append,Array.size_replicate];omega,λn bl=>absurd bl (Nat.not_lt_zero n),DfOk.init rfl⟩
   have fin:∀γ' w' H' Y J,SInv γ w H (Fx.plain sp.N) γ' w' H' Y J->zgH sp.res Q .ret Y H'->Leaves P ap J.tmps (λe w'=>∃γ' H' r,Ext (λb=>(H b).isSome=true) γ w γ' w'/\zq γ' w' H' /\
      (∀b,(H' b).isSome=true->(H b).isSome=true∨w.heap.size<=b)/\zfv γ' w' e r/\Q r H') J.defers .returning w':=by
    intro γ' w' H' Y J A U
    simp only[zgH]at U
    cases hr:zo Y H' sp.res with
    | none=>simp[hr]at U
    | some cs =>
     simp only[hr]at U
     obtain⟨a1,az,hq⟩:=U
     obtain⟨v,ax,al⟩:=zdL (P:=P) A.env A.st bx hr
     rw[A.df.plain rfl]
     exact⟨v,ax,γ',a1,.ret (zP cs),A.ext,az.st _ _ A.st,λb Z=>A.keys b (az.keys b Z),al,hq⟩
   have pan:∀W J w',zd5 γ w H (Fx.plain sp.N) (zlV Q) W J w'->Leaves P ap J.tmps (λe w'=>∃γ' H' r,Ext (λb=>(H b).isSome=true) γ w γ' w'/\zq γ' w' H' /\
      (∀b,(H' b).isSome=true->(H b).isSome=true∨w.heap.size<=b)/\zfv γ' w' e r/\Q r H') J.defers (.panicking W) w':=by
    intro W J w' I
    obtain⟨γ',H',c,v,rfl,ag,ay,ah,al,⟨a1,az,hq⟩,_,_,_,aw⟩:=I
    rw[aw.plain rfl]
    exact⟨γ',a1,.pan c,ag,az.st _ _ ay,λb Z=>ah b (az.keys b Z),⟨v,rfl,al⟩,hq⟩
   have core:∀(r:Code),zh2 P sp r=true->∀aq w' H1 ao J,SInv γ w H (Fx.plain sp.N) aq w' H1 ao J->zyH P Q sp ao H1->r.wp P (bodyPostD P ap (λe w'=>∃γ' H' r,Ext (λb=>(H b).isSome=true) γ w γ' w'/\zq γ' w' H' /\
      (∀b,(H' b).isSome=true->(H b).isSome=true∨w.heap.size<=b)/\zfv γ' w' e r/\Q r H')) J w':=by
    intro r av aq w' H1 ao J a3 A
    unfold zh2 at av
    split at av
    rotate_left
    ·cases av
    rename_i b6 id ops rest
    simp only[Al0,z6]at av
    obtain⟨⟨⟨⟨⟨⟨ci,hsz⟩,ca⟩,bc⟩,c9⟩,c5⟩,c6⟩:=av
    refine wp_seq (wp_mono (zay (F:=Fx.plain sp.N) (zeQ Q) sp.blk b6 _ (.inl c5) ci aq w' H1 ao J a3 A) λe aj am I=>?_)
    cases e with
    | ret=>obtain⟨γ',H',Y,A,U⟩:=I;exact fin γ' am H' Y aj A U
    | exit id=>obtain⟨γ',H',Y,A,U⟩:=I;exact U.elim
    | goto l=>exact I.elim
    | outgrown=>exact I.elim
    | panic W=>exact pan W aj am I
    | normal =>
     obtain⟨bq,a9,br,bj,U⟩:=I
     refine wp_seq (wp_region ?_)
     rw[hsz,List.range_succ]
     refine zgv _ _ _ _ ?_
     refine zbX (F:=Fx.plain sp.N) (KP:=zlV Q) (K:=λρ H=>zAH P Q sp ρ H) (λW a w c3=>pan W a w c3) (λa7 an ar a8 ae aa b9=>?_) (List.range sp.items.length) (zaj sp.items) (by simp[zaj]) (λk i it bt hit=>?_) bq am a9 br aj bj U
     ·cases ho:ops[sp.items.length]? with
      | none=>simp[ho]at bc
      | some o =>
       simp only[ho]at bc
       obtain⟨ck,cn,dq,c2,ch,cb⟩:=zlB bc
       obtain⟨ab,b5,cj,a2,cf⟩:=b9
       have bn:=aa.env.rep sp.g
       rw[cj]at bn
       generalize cm:ae.tmps.getD sp.g undef=gv at bn
       cases bn with
       | clo _ _ _ dk ai cr ct hr c7 =>
        have de:dk=[]:=List.eq_nil_of_length_eq_zero (by simpa using cr.symm)
        subst de
        have dg:Region.wanted o (yielded ops ae.tmps)=true:=by simp[Region.wanted,cn]
        simp only[wpOps,ho,dg,if_true]
        left
        unfold Oper.wp
        have ax:(execOp ae.eval o).run P an=.ok (.defer ⟨.fn (.func ab) ai.toArray,#[]⟩) an:=by
         simp[execOp,c2,ch,cb,resolve,Sem.run_bind,Result.andThen,Act.eval,cm,Deferred.ofValue]
        rw[ax]
        simp only[Oper.upon,wpOps,ck,Act.put]
        have cp:SInv a7 an ar ⟨sp.N,sp.lo,ae.tmps,[⟨.fn (.func ab) ai.toArray,#[]⟩],false,[],0⟩ a7 an ar a8 { tmps:=ae.tmps,defers:=⟨.fn (.func ab) ai.toArray,#[]⟩::ae.defers } :=
         ⟨.refl _ _ _,aa.st,yn.refl _ _,aa.env,aa.sz,λn _=>rfl,by rw[aa.df.plain rfl];exact DfOk.init rfl⟩
        have bd:∀(γ':Gh) (w':World) (H' H0:zb) (J:Act) (a6:Option AV) (u:FrameMode),Ext (keysOf ar) a7 an γ' w'->zq γ' w' H'->yn ar an H'->(∀n,n<sp.lo->J.tmps.getD n undef=ae.tmps.getD n undef) ->
          J.defers=[⟨.fn (.func ab) ai.toArray,#[]⟩]->(u=.returning∨∃W,u=.panicking W)->zqg γ' w' a6 u->zan γ' w'->Low H0 H'->Ym P ab b5 a6 H0 (zzs sp Q a8) ->
          Leaves P ap J.tmps (λe w'=>∃γ' H' r,Ext (λb=>(H b).isSome=true) γ w γ' w'/\zq γ' w' H' /\
           (∀b,(H' b).isSome=true->(H b).isSome=true∨w.heap.size<=b)/\zfv γ' w' e r/\Q r H') J.defers u w':=by
         intro γ' w' H' H0 J a6 u ag ay ah bh aw dd bk a4 ad ak
         rw[aw]
         refine⟨by rcases dd with rfl|⟨W,rfl⟩<;>simp,.func ab,ai.toArray,ab,ai.toArray,rfl,?_,?_⟩
         ·unfold Program.callable at a2
          cases bg:P.funcs[ab]? with
          | none=>simp[bg]at a2
          | some dr =>
           simp only[bg,Al0,bne_iff_ne,ne_eq]at a2
           obtain⟨cc,cz⟩:=a2
           obtain⟨dn,cd⟩:=zjB.1 cc
           simp[invoke,callFunc,bg,cz,cd]
         ·refine CallsD.mono (ak γ' w' ai u a4 (ad.st _ _ ay) ⟨ct,λi c v ac a5=>(c7 i c v ac a5).mono ag.mono⟩ bk) λe d1 b2 hq=>?_
          obtain⟨b3,a1,v,rfl,rfl,be,bz,cq,dl,c8,b4,bv,hq⟩:=hq
          have da:settle (YM u)=.returning:=by
           cases a6 with
           | none=>have:u=.returning:=bk;subst this;rfl
           | some c=>obtain⟨v,rfl,_⟩:=bk;rfl
          show Leaves P ap J.tmps _ [] (settle (YM u)) b2
          rw[da]
          have cu:=ag.mono.trans be.mono
          have cl:EnvRel b3 b2 (a8.keep (List.range sp.lo)) J.tmps:=by
           refine⟨a4.mono be.mono,λn=>?_⟩
           rw[zmi]
           split
           ·rename_i bl
            rw[bh n (List.mem_range.1 bl)]
            exact(aa.env.rep n).mono cu
           ·exact .any _
          have du:=aa.ext.mono.size
          have dv:=ag.mono.size
          have b1:∀b,(H' b).isSome=true->(H b).isSome=true∨w.heap.size<=b:=λb Z=>by
           rcases ah b Z with A|A
           ·exact aa.keys b A
           ·exact .inr (by omega)
          obtain⟨v,ax,al⟩:=zdL (P:=P) (a:=J) cl bz bx c8
          refine⟨v,ax,b3,b4,.ret (zP dl),?_,bv.st _ _ bz,λb Z=>?_,al,hq⟩
          ·refine(aa.ext.trans ag λb Z h=>?_).trans be λb Z h=>?_
           ·rcases aa.keys b h with A|A
            ·exact A
            ·omega
           ·rcases b1 b (ad.keys b h)with A|A
            ·exact A
            ·omega
          ·rcases cq b (bv.keys b Z)with A|A
           ·exact b1 b (ad.keys b A)
           ·exact .inr (by omega)
        refine wp_mono (zay (F:=⟨sp.N,sp.lo,ae.tmps,[⟨.fn (.func ab) ai.toArray,#[]⟩],false,[],0⟩) (λv H b o Z ⟨H0,bo,hq⟩=>⟨H0,bo.upd Z,hq⟩) sp.body rest _ (.inl c6) c9 a7 an ar a8 _ cp cf) λe ba bp I=>?_
        cases e with
        | exit id=>obtain⟨_,_,_,_,X⟩:=I;exact X.elim
        | goto l=>exact I.elim
        | outgrown=>exact I.elim
        | normal =>
         obtain⟨a0,au,dm,X,H0,ad,ak⟩:=I
         exact bd a0 bp au H0 ba none .returning X.ext X.st X.keys X.fx (X.df.plain rfl) (.inl rfl) rfl X.env.tab ad ak
        | ret =>
         obtain⟨a0,au,dm,X,H0,ad,ak⟩:=I
         exact bd a0 bp au H0 ba none .returning X.ext X.st X.keys X.fx (X.df.plain rfl) (.inl rfl) rfl X.env.tab ad ak
        | panic W =>
         obtain⟨a0,au,c,v,rfl,ag,ay,ah,al,⟨H0,ad,ak⟩,a4,dz,bh,aw⟩:=I
         exact bd a0 bp au H0 ba (some c) _ ag ay ah bh (aw.plain rfl) (.inr ⟨_,rfl⟩) ⟨v,rfl,al⟩ a4 ad ak
     ·have ah:k<sp.items.length/\i=k:=by
       rw[zaB]at bt
       obtain⟨A,U⟩:=bt
       simp at A U
       exact⟨A,U.symm⟩
      obtain⟨ah,rfl⟩:=ah
      simp only[zaj,Yg,zbA]at hit
      obtain⟨x,dh,rfl⟩:=hit
      have bu:i<ops.size:=by omega
      refine⟨ops[i],Array.getElem?_eq_getElem bu,?_⟩
      have di:(ops.toList.zip sp.items)[i]?=some (ops[i],x):=by
       rw[List.getElem?_zip_eq_some]
       exact⟨by rw[Array.getElem?_toList];exact Array.getElem?_eq_getElem bu,dh⟩
      exact zdi.1 ca _ (List.mem_of_getElem? di)
   refine wp_seq (wp_mono (zay (F:=Fx.plain sp.N) (zeQ Q) sp.pre c0 _ (.inl c4) cg γ w H _ _ co h) λe J w' I=>?_)
   cases e with
   | ret=>obtain⟨γ',H',Y,A,U⟩:=I;exact fin γ' w' H' Y J A U
   | exit id=>obtain⟨γ',H',Y,A,U⟩:=I;exact U.elim
   | goto l=>exact I.elim
   | outgrown=>exact I.elim
   | panic W=>exact pan W J w' I
   | normal =>
    obtain⟨aq,H1,ao,a3,A⟩:=I
    cases bw:sp.mid with
    | none=>rw[bw]at af A;exact core dj af aq w' H1 ao J a3 A
    | some m =>
     rw[bw]at af A
     unfold zs1 at af
     split at af
     ·rename_i e;cases e
     ·rename_i d0 b7 r e
      cases e
      simp only[Al0]at af
      obtain⟨⟨cw,cx⟩,cy⟩:=af
      refine wp_seq (wp_mono (zay (F:=Fx.plain sp.N) (zeQ Q) m b7 _ (.inl cx) cw aq w' H1 ao J a3 A) λe aj am I=>?_)
      cases e with
      | ret=>obtain⟨γ',H',Y,A,U⟩:=I;exact fin γ' am H' Y aj A U
      | exit id=>obtain⟨γ',H',Y,A,U⟩:=I;exact U.elim
      | goto l=>exact I.elim
      | outgrown=>exact I.elim
      | panic W=>exact pan W aj am I
      | normal =>
       obtain⟨bq,a9,br,bj,U⟩:=I
       exact core r cy bq am a9 br aj bj U
     ·cases af
  ·cases ac
attribute [push_cast] steps st2 pev rev oev zdI zfD zuD ztu bound zdx mm2 mk ZO AV.cells AV.boxable AV.one AV.strip1 AV.strip2 zdB zb8
attribute [go_sem] steps st2 pev rev oev zdI zfD zuD ztu bound zdx mm2 mk ZO AV.cells AV.boxable AV.one AV.strip1 AV.strip2 zdB zb8 Nat.reduceEqDiff reduceCtorEq Nat.reduceAdd Int.reduceNeg Nat.reduceLeDiff Int.reduceToNat Int.reduceEq Int.reduceLT Int.reduceLE Int.reduceAdd
attribute [go_sem ↓] reduceIte
abbrev AV.i(n:Int):AV:=.int .i64 n
abbrev AV.e:AV:=.str []
abbrev AV.n(k:Nat):AV:=.sl .nil k []
abbrev Opd.i(n:Int):Opd:=.k (.int .i64 n)
abbrev Opd.e:Opd:=.k (.str [])
abbrev Opd.n(k:Nat):Opd:=.k (.sl .nil k [])
abbrev Opd.y:Opd:=.k (.bool true)
abbrev Opd.f:Opd:=.k (.bool false)
inductive IC where
 | one (f:Nat->AOp)
 | two (f g:Nat->AOp)
 | con (x:AItem)
 | it (f:Nat->AItem)
def IC.op:IC->Nat->AOp
 | .one f,n=>f n
 | .two f _,n=>f n
 | .con x,_=>x.op
 | .it f,n=>(f n).op
def ics:Nat->List IC->List AItem
 | _,[]=>[]
 | n,.one f::r=>⟨some n,none,f n,[]⟩::ics (n+1) r
 | n,.two f g::r=>⟨some n,none,f n,[]⟩::⟨some (n+1),none,g n,[]⟩::ics (n+2) r
 | n,.con x::r=>x::ics n r
 | n,.it f::r=>f n::ics (n+1) r
namespace IC
abbrev m(a:Nat):IC:=.one λ_=>.mv (.t a)
abbrev M:IC:=.one λn=>.mv (.t (n-1))
abbrev z(x:Opd):IC:=.one λ_=>.mv x
abbrev f(k s:Nat):IC:=.one λ_=>.fa k (.t s)
abbrev F(k:Nat):IC:=.one λn=>.fa k (.t (n-1))
abbrev v(k s:Nat):IC:=.two (λ_=>.fa k (.t s)) λn=>.ld 1 false (.t n)
abbrev V(k:Nat):IC:=.two (λn=>.fa k (.t (n-1))) λn=>.ld 1 false (.t n)
abbrev l(c s:Nat):IC:=.one λ_=>.ld c false (.t s)
abbrev L(c:Nat):IC:=.one λn=>.ld c false (.t (n-1))
abbrev b(c s:Nat):IC:=.one λ_=>.ld c true (.t s)
abbrev B(c:Nat):IC:=.one λn=>.ld c true (.t (n-1))
abbrev N:IC:=.one λn=>.len (.t (n-1))
abbrev G:IC:=.one λn=>.not (.t (n-1))
abbrev x(s:Nat):IC:=.one λ_=>.boxv (.t s)
abbrev E(s k:Nat):IC:=.one λ_=>.ext (.t s) k
abbrev d(a:Nat)(i:Int):IC:=.one λ_=>.bi .add .i64 (.t a) (.k (.int .i64 i))
abbrev D(i:Int):IC:=.one λn=>.bi .add .i64 (.t (n-1)) (.k (.int .i64 i))
abbrev q(a:Nat)(i:Int):IC:=.one λ_=>.bi .eql .i64 (.t a) (.k (.int .i64 i))
abbrev Q(i:Int):IC:=.one λn=>.bi .eql .i64 (.t (n-1)) (.k (.int .i64 i))
abbrev S(a b:Nat):IC:=.one λ_=>.bi .lss .i64 (.t a) (.t b)
abbrev T:IC:=.one λn=>.bi .lss .i64 (.t (n-1)) (.t (n-2))
abbrev p(a:Nat):IC:=.one λn=>.pick (.t a) (.t (n-1)) (.k (.bool false))
abbrev w(a:Nat):IC:=.one λn=>.pick (.t a) (.k (.bool true)) (.t (n-1))
abbrev i(k a b:Nat):IC:=.one λ_=>.ia k (.t a) (.t b)
abbrev a(f:Nat)(l:List Nat):IC:=.one λ_=>.call f (l.map .t)
abbrev o(x:AOp):IC:=.one λ_=>x
abbrev s(k a b:Nat):IC:=.con ⟨none,none,.st k (.t a) (.t b),[]⟩
abbrev c(x:AItem):IC:=.con x
abbrev C(x:AOp)(l:List Nat):IC:=.it λn=>⟨some n,none,x,l⟩
abbrev k(d a:Nat):IC:=.con ⟨some d,none,.mv (.t a),[]⟩
abbrev O(d:Nat)(x:AOp):IC:=.con ⟨some d,none,x,[]⟩
abbrev j(g:Nat)(x:IC):IC:=.it λn=>⟨some n,some (g,true),x.op n,[]⟩
abbrev h(g:Nat)(x:IC):IC:=.it λn=>⟨some n,some (g,false),x.op n,[]⟩
end IC
namespace AC
abbrev K:AC:=.skip
abbrev R:AC:=.ret
abbrev r(n:Nat)(l:List IC):AC:=.reg [] (ics n l)
abbrev g(k:List Nat)(n:Nat)(l:List IC):AC:=.reg k (ics n l)
def Q:AC->List AC->AC
 | a,[]=>a
 | a,b::r=>.seq a (Q b r)
abbrev u(d i:Nat):AC:=.cond (.t d) .skip (.exit i)
abbrev w(d:Nat)(a:AC):AC:=.cond (.t d) a .skip
abbrev c(d:Nat)(a b:AC):AC:=.cond (.t d) a b
abbrev B(i:Nat)(a:AC):AC:=.block i a
abbrev L(k:List Nat)(a:AC):AC:=.loop k a
abbrev E(i:Nat):AC:=.exit i
end AC
attribute [go_sem] AV.i AV.e AV.n Opd.i Opd.e Opd.n Opd.y Opd.f IC.op ics IC.m IC.M IC.z IC.f IC.F IC.v IC.V IC.l IC.L IC.b IC.B IC.N IC.G IC.x IC.E IC.d IC.D IC.q IC.Q IC.S IC.T IC.p IC.w IC.i IC.a IC.o IC.s IC.c IC.C IC.k IC.O IC.j IC.h AC.K AC.R AC.r AC.g AC.Q AC.u AC.w AC.c AC.B AC.L AC.E List.map_cons List.map_nil Nat.reduceSub
attribute [push_cast] AV.i AV.e AV.n Opd.i Opd.e Opd.n Opd.y Opd.f IC.op ics IC.m IC.M IC.z IC.f IC.F IC.v IC.V IC.l IC.L IC.b IC.B IC.N IC.G IC.x IC.E IC.d IC.D IC.q IC.Q IC.S IC.T IC.p IC.w IC.i IC.a IC.o IC.s IC.c IC.C IC.k IC.O IC.j IC.h AC.K AC.R AC.r AC.g AC.Q AC.u AC.w AC.c AC.B AC.L AC.E List.map_cons List.map_nil
attribute [simp] zP Zb AV.strip AV.strip1
end Go.Ab
