import Derived.RangeFuncSeq
import Derived.Below
import Derived.RangeFuncLeaves
import Derived.ProofKit
import Derived.SizedLaws
import Derived.WideKeyArgs
import Derived.Recover
import Derived.Test.YtcbfcliickppiaaGreatDoorM1
set_option maxRecDepth 100000
set_option linter.all false
namespace Go.Ab
def SI(items:List yo)(l:List Nat):List VQ:=l.flatMap λk=>match items[k]? with|some x=>entry x|none=>[]
def QB(items:List yo):List (yo×List VQ):=items.map λit=>(it,SI items it.chk)
abbrev Row:=Nat×Nat×yo
def X3:Nat->List Nat->List yo->List Row
 | k,i::c,it::its=>(k,i,it)::X3 (k+1) c its
 | _,_,_=>[]
def Ri(items:List yo)(r:Row):WA:=(r.2.1,r.2.2,SI items r.2.2.chk)
def znK(ops:Array Oper)(pre:List (List Nat))(items:List yo)(r:List Row)(x:Row):Bool :=
 (r.all λi=>(pre.getD i.2.1 []).contains x.2.1 || (V1 (Ri items x).2 (Ri items i).2&&((Vx x.2.2 i.2.2).isEmpty||(i.2.2.chk.contains x.1&&r.all λf=>match f.2.2.dst with|some d=>x.2.2.dst != some d&&!x.2.2.looks.contains d|none=>true)))) &&
 (match ops[x.2.1]? with|some o=>o.after.all λe=>!Region.binds .any e||(decide (e.on<ops.size)&&e.on != x.2.1&&r.all λf=>f.2.1 != e.on)|none=>false) &&
 (r.all λf=>f.2.1 != x.2.1)
def znn(ops:Array Oper)(pre:List (List Nat))(items:List yo):List Row->Bool
 | []=>true
 | x::r=>znK ops pre items r x&&znn ops pre items r
def zhK(ops:Array Oper):List (List Nat) :=ops.toList.foldl (λf o=>f++[((o.after.toList.filter (Region.binds .any)).flatMap λe=>e.on::f.getD e.on []).eraseDups]) []
def preB(ops:Array Oper)(pre:List (List Nat)):Bool :=
 (List.range ops.size).all λi=>(pre.getD i []).all λk=>match ops[i]? with
  | some o=>o.after.any λe=>Region.binds .any e&&(e.on==k||(pre.getD e.on []).contains k)
  | none=>true
def Pz(P:Program)(N lo:Nat)(ops:Array Oper)(c:List Nat)(items:List yo):Bool :=
 let rows:=X3 0 c items
 P.follows .mixedOrders&&decide (c.length=items.length)&&decide (c.length=ops.size)&&((List.range ops.size).all λi=>c.contains i) &&
 (rows.all λr=>match ops[r.2.1]? with|some o=>Tu N lo ops P o r.2.2|none=>false)&&preB ops (zhK ops)&&znn ops (zhK ops) items rows
def zaL(P:Program)(N lo:Nat)(ops:Array Oper)(items:List yo):Bool :=decide (ops.size=items.length)&&((ops.toList.zip items).all λx=>Tu N lo ops P x.1 x.2)
def L8{items:List yo}:∀(c:List Nat) (f:List yo) (k:Nat),c.length=f.length->(∀g x,f[g]?=some x->items[k+g]?=some x) ->
  (X3 k c f).map (λr=>(Ri items r).2)=f.map (λit=>(it,SI items it.chk))/\(X3 k c f).map (·.2.1)=c/\∀r∈X3 k c f,items[r.1]?=some r.2.2
 | [],[],_,_,_=>by simp[X3]
 | [],_::_,_,h,_=>by simp at h
 | _::_,[],_,h,_=>by simp at h
 | i::c,it::f,k,h,hi=>by
  obtain⟨p,v,y⟩:=L8 c f (k+1) (by simpa using h) (λg x z=>by have:=hi (g+1) x (by simpa using z);rwa [show k+(g+1)=k+1+g by omega]at this);refine⟨by rw[X3,List.map_cons,List.map_cons,p];rfl,by simp[X3,v],λr j=>?_⟩;simp only[X3,List.mem_cons]at j;rcases j with rfl|j
  ·have:=hi 0 it rfl;simpa using this
  ·exact y r j
def zbU{ops:Array Oper}{pre:List (List Nat)}{items:List yo}:∀(r:List Row),(∀x∈r,items[x.1]?=some x.2.2)->znn ops pre items r=true->(∀x∈r,∃o,ops[x.2.1]?=some o)->POK ops (λi=>pre.getD i []) (r.map (Ri items))
 | [],_,_,_=>trivial
 | x::r,hi,h,ho=>by
  simp only[znn,yu,znK]at h;obtain⟨⟨⟨C,v⟩,G⟩,I⟩:=h;refine⟨⟨λi W=>?_,λo aa e O J=>?_,λf g=>?_⟩,zbU r (λf g=>hi f (YN _ g)) I (λf g=>ho f (YN _ g))⟩
  ·obtain⟨i,X,rfl⟩:=List.mem_map.1 W;have:=Yh.1 C i X;simp only[Uz,yu]at this;rcases this with y|⟨y,j⟩
   ·left;show x.2.1∈pre.getD i.2.1 [];simpa using y
   ·right;refine⟨y,λc A=>?_,λZ f g d L=>?_⟩
    ·have z:(Vx x.2.2 i.2.2).isEmpty=false:=by
      have:c∈Vx x.2.2 i.2.2:=A;cases U:Vx x.2.2 i.2.2<;>simp_all
     rw[z]at j;simp only[Ql,false_or]at j;have Y:x.1∈i.2.2.chk:=by simpa using j.1
     have K:c∈entry x.2.2:=by
      have:c∈Vx x.2.2 i.2.2:=A;unfold Vx at this;split at this
      ·exact this
      ·cases this
     show c∈SI items i.2.2.chk;unfold SI;rw[List.mem_flatMap];exact⟨x.1,Y,by rw[hi x (YS ..)];exact K⟩
    ·obtain⟨f,p,rfl⟩:=List.mem_map.1 g;have z:(Vx x.2.2 i.2.2).isEmpty=false:=by
      have:Vx x.2.2 i.2.2≠[]:=Z;cases U:Vx x.2.2 i.2.2<;>simp_all
     rw[z]at j;simp only[Ql,false_or]at j;have:=Yh.1 j.2 f p;have M:f.2.2.dst=some d:=L;rw[M]at this;simp only[yu,bne_iff_ne,ne_eq,Bool.not_eq_true']at this;exact⟨this.1,by show ¬ d∈x.2.2.looks;simpa using this.2⟩
  ·have ab:ops[x.2.1]?=some o:=aa;rw[ab]at v;simp only at v;have:=Array.all_eq_true_iff_forall_mem.1 v e O;simp only[J,Bool.not_true,Bool.false_or,yu,Zh,bne_iff_ne,ne_eq]at this;refine⟨this.1.1,this.1.2,λf g=>?_⟩;obtain⟨f,p,rfl⟩:=List.mem_map.1 g;have:=Yh.1 this.2 f p;show f.2.1≠e.on;simpa using this
  ·obtain⟨f,p,rfl⟩:=List.mem_map.1 g;have:=Yh.1 G f p;simpa[Ri]using this
def zjK{P:Program}{γ0:Gh}{w0:World}{H0:zd}{F:Fx}{KP:AV->zd->Prop}(O:Ly KP){ops:Array Oper}{Q:Exit->Act->World->Prop}{K:Env->zd->Prop}{c:List Nat}{items:List yo}(U:∀z a w,QD γ0 w0 H0 F KP z a w->Q (.panic z) a w)(M:∀γ w H ρ a,Vo γ0 w0 H0 F γ w H ρ a->K ρ H->Q .normal a w)(h:Pz P F.N F.lo ops c items=true){γ:Gh}{w:World}{H:zd}{ρ:Env}{a:Act}(f:Vo γ0 w0 H0 F γ w H ρ a)(ah:Yt P KP (QB items) ρ H K):wpAny P .any ops Q ops.size (Array.replicate ops.size false) a { w with drawn:=w.drawn+1 }/\P.follows .mixedOrders=true:=by
 simp only[Pz,yu,Zh]at h;obtain⟨⟨⟨⟨⟨⟨ac,Z⟩,aa⟩,W⟩,hit⟩,hpre⟩,ad⟩:=h;obtain⟨af,G,ag⟩:=L8 (items:=items) c items 0 Z (λJ x y=>by simpa using y);refine⟨?_,ac⟩;have Y:Vo γ0 w0 H0 F γ w.drew H ρ a :=⟨f.ext.trans (Wh (λ_=>False) γ w) (λ_ _ j=>j.elim),f.st.kept (Wh (λ_=>False) γ w) (λ_ _ _ j=>j),f.keys,f.env.mono (Wh (λ_=>False) γ w).mono,f.sz,f.fx,f.df.step (Wh (keysOf H) γ w) (ZL.refl _ _)⟩;have I:∀x∈X3 0 c items,∃o,ops[x.2.1]?=some o/\Tu F.N F.lo ops P o x.2.2=true:=λx g=>by
  have:=Yh.1 hit x g;split at this
  ·rename_i o ho;exact⟨o,ho,this⟩
  ·cases this
 refine zgP O (pre:=λi=>(zhK ops).getD i []) U M (λi o ho k C=>?_) ops.size ((X3 0 c items).map (Ri items)) _ γ w.drew H ρ a (by simp) ?_ (zbU _ ag ad λx g=>let ⟨o,ho,_⟩:=I x g;⟨o,ho⟩) (λx g=>?_) (λi hi=>?_) (λJ y=>?_) Y ?_
 ·have L:=Yh.1 hpre i (List.mem_range.2 (TQ.1 ho).1);have p:=Yh.1 L k C;rw[ho]at p;simp only at p;obtain⟨e,X,v⟩:=Array.any_eq_true'.1 p;simp only[yu,Uz,beq_iff_eq]at v;exact⟨e,X,v.1,v.2.imp (λh=>h) (λh=>by simpa using h)⟩
 ·have:=congrArg List.length G;rw[List.length_map]at this;rw[List.length_map,this,aa];exact ZG _
 ·obtain⟨x,ai,rfl⟩:=List.mem_map.1 g;exact I x ai
 ·constructor
  ·intro _;have:=Yh.1 W i (List.mem_range.2 hi);have A:i∈c:=by simpa using this
   rw[<-G]at A;obtain⟨r,ae,rfl⟩:=List.mem_map.1 A;exact⟨Ri items r,List.mem_map.2 ⟨r,ae,rfl⟩,rfl⟩
  ·intro _;simp[hi]
 ·intro k C;by_cases ab:J<ops.size<;>simp[ab]at y
 ·have e:((X3 0 c items).map (Ri items)).map (·.2)=QB items:=by
   rw[List.map_map];exact af
  rw[e];exact ah
def zji{P:Program}{γ0:Gh}{w0:World}{H0:zd}{F:Fx}{KP:AV->zd->Prop}(p:Ly KP){ops:Array Oper}{Q:Exit->Act->World->Prop}{K:Env->zd->Prop}{c:List Nat}{items:List yo}(v:∀f a w,QD γ0 w0 H0 F KP f a w->Q (.panic f) a w)(j:∀γ w H ρ a,Vo γ0 w0 H0 F γ w H ρ a->K ρ H->Q .normal a w)(h:Pz P F.N F.lo ops c items=true){γ:Gh}{w:World}{H:zd}{ρ:Env}{a:Act}(y:Vo γ0 w0 H0 F γ w H ρ a)(A:Yt P KP (QB items) ρ H K)(t:Nat):
  wpOps P ops Q (Region.schedule (P.follows .mixedOrders) ops t) a { w with drawn:=w.drawn+1 }:=by
 obtain⟨g,z⟩:=zjK p v j h y A;simp only[Region.schedule,z,Bool.true_or,if_true];exact wpAny_sound ops.size t _ a _ g
def zd8{P:Program}{γ0:Gh}{w0:World}{H0:zd}{F:Fx}{KP:AV->zd->Prop}(j:Ly KP){id:Nat}{ops:Array Oper}{Q:Exit->Act->World->Prop}{K:Env->zd->Prop}{c:List Nat}{items:List yo}(p:∀f a w,QD γ0 w0 H0 F KP f a w->Q (.panic f) a w)(g:∀γ w H ρ a,Vo γ0 w0 H0 F γ w H ρ a->K ρ H->Q .normal a w)(h:Pz P F.N F.lo ops c items=true){γ:Gh}{w:World}{H:zd}{ρ:Env}{a:Act}(v:Vo γ0 w0 H0 F γ w H ρ a)(y:Yt P KP (QB items) ρ H K):(Code.region id ops true).wp P Q a w :=
 wp_region_draw (zji j p g h v y)
def zlJ{P:Program}{γ0:Gh}{w0:World}{H0:zd}{F:Fx}{KP:AV->zd->Prop}{ops:Array Oper}{Q:Exit->Act->World->Prop}{K:Env->zd->Prop}{items:List yo}(v:∀g a w,QD γ0 w0 H0 F KP g a w->Q (.panic g) a w)(p:∀γ w H ρ a,Vo γ0 w0 H0 F γ w H ρ a->K ρ H->Q .normal a w)(h:zaL P F.N F.lo ops items=true){γ:Gh}{w:World}{H:zd}{ρ:Env}{a:Act}(z:Vo γ0 w0 H0 F γ w H ρ a)(G:Yt P KP (QB items) ρ H K):wpOps P ops Q (List.range ops.size) a w:=by
 simp only[zaL,yu,Zh]at h;obtain⟨C,y⟩:=h;refine O4 v p (List.range ops.size) (QB items) (by simp[QB,C]) (λk i it A hit=>?_) γ w H ρ a z G;obtain⟨f,j⟩:=Vj.1 A;simp at f j;subst j;simp only[QB,W5,SV]at hit;obtain⟨x,I,rfl⟩:=hit;refine⟨ops[k],by simp[f],?_⟩;have J:(ops.toList.zip items)[k]?=some (ops[k],x):=by rw[List.getElem?_zip_eq_some];exact⟨by simp[f],I⟩
 exact Yh.1 y _ (List.mem_of_getElem? J)
def zgz{P:Program}{γ0:Gh}{w0:World}{H0:zd}{F:Fx}{KP:AV->zd->Prop}{id:Nat}{ops:Array Oper}{Q:Exit->Act->World->Prop}{K:Env->zd->Prop}{items:List yo}(j:∀f a w,QD γ0 w0 H0 F KP f a w->Q (.panic f) a w)(g:∀γ w H ρ a,Vo γ0 w0 H0 F γ w H ρ a->K ρ H->Q .normal a w)(h:zaL P F.N F.lo ops items=true){γ:Gh}{w:World}{H:zd}{ρ:Env}{a:Act}(p:Vo γ0 w0 H0 F γ w H ρ a)(v:Yt P KP (QB items) ρ H K):(Code.region id ops false).wp P Q a w :=
 wp_region (zlJ j g h p v)
inductive AC where
 | skip
 | reg (c:List Nat) (items:List yo)
 | seq (a b:AC)
 | join (keep:List Nat) (a b:AC)
 | cond (c:yY) (t e:AC)
 | block (id:Nat) (b:AC)
 | loop (keep:List Nat) (b:AC)
 | scope (b:AC)
 | exit (id:Nat)
 | ret
inductive ZV where
 | normal
 | exit (id:Nat)
 | ret
def Xf:List (Nat×AV)->Env
 | [],_=>.any
 | (d,c)::r,n=>if n=d then c else Xf r n
def zdm(l:List (Nat×AV))(d n:Nat)(c:AV):Xf ((d,c)::l) n=if n=d then c else Xf l n:=rfl
def Env.keep(ρ:Env)(l:List Nat):Env:=Xf (l.map λn=>(n,ρ n))
def zcs(K:Env->zd->Prop)(Q:ZV->Env->zd->Prop):ZV->Env->zd->Prop
 | .normal=>K
 | e=>Q e
def PC(id:Nat)(Q:ZV->Env->zd->Prop):ZV->Env->zd->Prop
 | .exit i=>if i=id then Q .normal else Q (.exit i)
 | e=>Q e
def zij(c:AV)(f g:Prop):Prop :=
 match c with
 | .bool true=>f
 | .bool false=>g
 | .ubool p=>(p->f)/\g
 | _=>False
def AC.flat:AC->Bool
 | .seq a b|.cond _ a b=>a.flat&&b.flat
 | .block _ b=>b.flat
 | .join _ _ _|.loop _ _|.scope _=>false
 | _=>true
def AC.plain:AC->Bool
 | .seq a b|.cond _ a b|.join _ a b=>a.plain&&b.plain
 | .block _ b|.loop _ b|.scope b=>b.plain
 | _=>true
def awp(P:Program)(KP:AV->zd->Prop):AC->(ZV->Env->zd->Prop)->Env->zd->Prop
 | .skip,Q,ρ,H=>Q .normal ρ H
 | .reg _ items,Q,ρ,H=>Yt P KP (QB items) ρ H (Q .normal)
 | .seq a b,Q,ρ,H=>awp P KP a (zcs (awp P KP b Q) Q) ρ H
 | .join keep a b,Q,ρ,H=>∃h:Env->zd->Prop,awp P KP a (zcs (λg H'=>h (g.keep keep) H') Q) ρ H/\∀ρ H,h ρ H->awp P KP b Q ρ H
 | .cond c t e,Q,ρ,H=>zij (c.ev ρ) (awp P KP t Q ρ H) (awp P KP e Q ρ H)
 | .block id b,Q,ρ,H=>awp P KP b (PC id Q) ρ H
 | .loop keep b,Q,ρ,H=>∃f:Nat->Env->zd->Prop,(∃n,f n (ρ.keep keep) H)/\∀n ρ H,f n ρ H->awp P KP b (zcs (λg H'=>∃m,m<n/\f m (g.keep keep) H') Q) ρ H
 | .scope b,Q,ρ,H=>awp P KP b Q ρ H
 | .exit id,Q,ρ,H=>Q (.exit id) ρ H
 | .ret,Q,ρ,H=>Q .ret ρ H
def YC(P:Program)(N lo:Nat):Code->AC->Bool
 | .skip,.skip=>true
 | .label _,.skip=>true
 | .region _ ops draw,.reg c items=>if draw then Pz P N lo ops c items else zaL P N lo ops items
 | .seq a b,.seq a' b'=>YC P N lo a a'&&YC P N lo b b'
 | .seq a b,.join _ a' b'=>YC P N lo a a'&&YC P N lo b b'
 | .cond c t e,.cond c' t' e'=>yG c c'&&YC P N lo t t'&&YC P N lo e e'
 | .block id b,.block id' b'=>decide (id=id')&&YC P N lo b b'
 | .loop b,.loop _ b'=>YC P N lo b b'
 | .scope b,.scope b'=>YC P N lo b b'
 | .exit id,.exit id'=>decide (id=id')
 | .ret,.ret=>true
 | _,_=>false
def lift(γ0:Gh)(w0:World)(H0:zd)(F:Fx)(KP:AV->zd->Prop)(Q:ZV->Env->zd->Prop):Exit->Act->World->Prop
 | .normal,a,w=>∃γ H ρ,Vo γ0 w0 H0 F γ w H ρ a/\Q .normal ρ H
 | .exit id,a,w=>∃γ H ρ,Vo γ0 w0 H0 F γ w H ρ a/\Q (.exit id) ρ H
 | .ret,a,w=>∃γ H ρ,Vo γ0 w0 H0 F γ w H ρ a/\Q .ret ρ H
 | .panic ch,a,w=>QD γ0 w0 H0 F KP ch a w
 | .goto _,_,_=>False
 | .outgrown,_,_=>False
def MY{γ:Gh}{w:World}{ρ:Env}{tmps:Array Value}(h:Xg γ w ρ tmps)(l:List Nat):Xg γ w (ρ.keep l) tmps:=by
 refine⟨h.tab,λn=>?_⟩;unfold Env.keep;induction l with
 | nil=>exact .any _
 | cons x l f =>
  simp only[List.map_cons,Xf];split
  ·rename_i e;subst e;exact h.rep n
  ·exact f
def least{p:Nat->Prop}(h:∃n,p n):∃n,p n/\∀m,p m->n<=m:=by
 obtain⟨n,v⟩:=h;induction n using Nat.strongRecOn with
 | _ n z =>
  by_cases g:∃m,m<n/\p m
  ·obtain⟨m,f,y⟩:=g;exact z m f y
  ·exact⟨n,v,λm f=>Nat.le_of_not_lt λj=>g ⟨m,j,f⟩⟩
def zf9{P:Program}{Q:Exit->Act->World->Prop}{c:Code}(f:Nat->Act->World->Prop){a:Act}{w:World}{n:Nat}(z:f n a w)(round:∀n a w,f n a w->c.wp P (Exit.then (λg w'=>∃m,m<n/\f m g w') Q) a w):(Code.loop c).wp P Q a w:=by
 classical
 refine wp_loop (λa w=>∃n,f n a w) (λa w=>if h:∃n,f n a w then Classical.choose (least h)else 0) ⟨n,z⟩ (λa w p=>?_);have A:=Classical.choose_spec (least p);refine wp_mono (round _ a w A.1) (λe g w' y=>?_);cases e<;>first|exact y|skip
 obtain⟨m,G,j⟩:=y;refine⟨⟨m,j⟩,?_⟩;have v:∃n,f n g w':=⟨m,j⟩;have C:=(Classical.choose_spec (least v)).2 m j;simp only[p,v,dif_pos];omega
def cells_of_cell{w:World}{b k:Nat}{v:Value}(h:w.cell? ⟨b,k,none⟩=some v):∃(arr:Array Value) (E:TypeId) (fr:Nat×Nat),w.heap[b]?=some (.cells arr E fr):=by
 unfold World.cell? at h;split at h
 ·rename_i c E fr f;exact⟨c,E,fr,f⟩
 ·cases h
def zlv(γ:Gh){w:World}{l:Nat}{o o':Obj}(h:w.heap[l]?=some o)(v:∀arr E fr,o≠.cells arr E fr)(y:∀arr E fr,o'≠.cells arr E fr):U9 (λb=>b=l) γ w γ (w.putObj l o'):=by
 have g:∀b,b≠l->(w.putObj l o').heap[b]?=w.heap[b]?:=λb f=>World.putObj_heap_other f;have z:∀b o p,w.cell? ⟨b,o,none⟩=some p->b≠l:=λb k p j e=>by subst e;obtain⟨arr,E,fr,f⟩:=cells_of_cell j;rw[h]at f;exact v _ _ _ (Option.some.inj f)
 refine⟨⟨by simp,λb k p j A=>⟨A,?_⟩,λb arr E fr f=>⟨arr,?_,rfl⟩⟩,rfl,rfl,λa C=>?_,λb _ f=>⟨rfl,g b f⟩⟩
 ·simp only[World.cell?,g b (z b k p j)];exact j
 ·rw[g b (λe=>by subst e;rw[h]at f;exact v _ _ _ (Option.some.inj f))];exact f
 ·by_cases e:a.block=l
  ·simp only[World.frozen?,e,h,World.putObj_heap_same (TQ.1 h).1];cases o<;>cases o'<;>first|rfl|exact absurd rfl (v _ _ _)|exact absurd rfl (y _ _ _)
  ·simp only[World.frozen?,g _ e]
def pl2{p q:Bool}{f:Prop}(h:(p&&q)=true∨f):(p=true∨f)/\(q=true∨f):=by
 rcases h with h|h
 ·simp only[yu]at h;exact⟨.inl h.1,.inl h.2⟩
 ·exact⟨.inr h,.inr h⟩
def zes{P:Program}{γ0:Gh}{w0:World}{H0:zd}{F:Fx}{KP:AV->zd->Prop}(ae:Ly KP):∀(I:AC) (code:Code) (Q:ZV->Env->zd->Prop),(I.plain=true∨(F.rf=true/\F.keep=[]/\F.base<=w0.heap.size))->YC P F.N F.lo code I=true ->
  ∀(γ:Gh) (w:World) (H:zd) (ρ:Env) (a:Act),Vo γ0 w0 H0 F γ w H ρ a->awp P KP I Q ρ H->code.wp P (lift γ0 w0 H0 F KP Q) a w:=by
 intro I;induction I with
 | skip =>
  intro code Q p f γ w H ρ a g j;cases code<;>simp only[YC]at f<;>try (cases f;done)
  ·exact wp_skip ⟨γ,H,ρ,g,j⟩
  ·exact wp_label ⟨γ,H,ρ,g,j⟩
 | reg c items =>
  intro code Q p f γ w H ρ a g j;cases code<;>simp only[YC]at f<;>try (cases f;done)
  rename_i id an draw;have X:∀G a w,QD γ0 w0 H0 F KP G a w->lift γ0 w0 H0 F KP Q (.panic G) a w:=λ_ _ _ ab=>ab;have W:∀γ w H ρ a,Vo γ0 w0 H0 F γ w H ρ a->Q .normal ρ H->lift γ0 w0 H0 F KP Q .normal a w:=λγ w H ρ a v y=>⟨γ,H,ρ,v,y⟩;cases draw with
  | true=>simp only[if_true]at f;exact zd8 ae X W f g j
  | false=>simp only[Ql,if_false]at f;exact zgz X W f g j
 | seq x al O U =>
  intro code Q p f γ w H ρ a g j;cases code<;>simp only[YC]at f<;>try (cases f;done)
  simp only[yu]at f;refine wp_seq (wp_mono (O _ _ (pl2 p).1 f.1 γ w H ρ a g j) λe C w' h=>?_);cases e with
  | normal=>obtain⟨γ',H',z,v,y⟩:=h;exact U _ Q (pl2 p).2 f.2 γ' w' H' z C v y
  | exit id=>exact h
  | ret=>exact h
  | panic G=>exact h
  | goto l=>exact h
  | outgrown=>exact h
 | join keep x al O U =>
  intro code Q p f γ w H ρ a g j;cases code<;>simp only[YC]at f<;>try (cases f;done)
  simp only[yu]at f;obtain⟨am,M,ad⟩:=j;refine wp_seq (wp_mono (O _ _ (pl2 p).1 f.1 γ w H ρ a g M) λe C w' h=>?_);cases e with
  | normal=>obtain⟨γ',H',z,v,y⟩:=h;exact U _ Q (pl2 p).2 f.2 γ' w' H' (z.keep keep) C ⟨v.ext,v.st,v.keys,MY v.env keep,v.sz,v.fx,v.df⟩ (ad _ _ y)
  | exit id=>exact h
  | ret=>exact h
  | panic G=>exact h
  | goto l=>exact h
  | outgrown=>exact h
 | cond c t e Z Y =>
  intro code Q p f γ w H ρ a g j;cases code<;>simp only[YC]at f<;>try (cases f;done)
  simp only[yu]at f;have J:=zP f.1.1 g.env;simp only[awp,zij]at j;cases ai:c.ev ρ<;>simp only[ai]at j J<;>try (exact False.elim j)
  ·rename_i b;generalize K:a.eval _=ak at J;cases J;cases b with
   | true=>exact wp_cond_true K (Z _ Q (pl2 p).1 f.1.2 γ w H ρ a g j)
   | false=>exact wp_cond_false K (Y _ Q (pl2 p).2 f.2 γ w H ρ a g j)
  ·rename_i ao;generalize K:a.eval _=ak at J;cases J with
   | ubool _ b af =>
    cases b with
    | true=>exact wp_cond_true K (Z _ Q (pl2 p).1 f.1.2 γ w H ρ a g (j.1 (af rfl)))
    | false=>exact wp_cond_false K (Y _ Q (pl2 p).2 f.2 γ w H ρ a g j.2)
 | block id b L =>
  intro code Q p f γ w H ρ a g j;cases code<;>simp only[YC]at f<;>try (cases f;done)
  simp only[yu,Zh]at f;obtain⟨rfl,f⟩:=f;rename_i aj b0;refine wp_block (wp_mono (L _ _ p f γ w H ρ a g j) λe C w' h=>?_);cases e with
  | normal=>exact h
  | exit i =>
   obtain⟨γ',H',z,v,y⟩:=h;simp only[PC]at y;simp only[Exit.inBlock];by_cases hid:i=aj
   ·simp only[hid,if_true]at y ⊢;exact⟨γ',H',z,v,y⟩
   ·simp only[hid,if_false]at y ⊢;exact⟨γ',H',z,v,y⟩
  | ret=>exact h
  | panic G=>exact h
  | goto l=>exact h
  | outgrown=>exact h
 | loop keep b L =>
  intro code Q p f γ w H ρ a g j;cases code<;>simp only[YC]at f<;>try (cases f;done)
  obtain⟨aa,⟨n,M⟩,ah⟩:=j;refine zf9 (λn a w=>∃γ H ρ,Vo γ0 w0 H0 F γ w H ρ a/\aa n ρ H) (n:=n) ⟨γ,H,ρ.keep keep,⟨g.ext,g.st,g.keys,MY g.env keep,g.sz,g.fx,g.df⟩,M⟩ (λn a w ⟨γ,H,ρ,v,y⟩=>?_);refine wp_mono (L _ _ p f γ w H ρ a v (ah n ρ H y)) λe C w' h=>?_;cases e with
  | normal =>obtain⟨γ',H',z,A,m,ag,ac⟩:=h;exact⟨m,ag,γ',H',z.keep keep,⟨A.ext,A.st,A.keys,MY A.env keep,A.sz,A.fx,A.df⟩,ac⟩
  | exit id=>exact h
  | ret=>exact h
  | panic G=>exact h
  | goto l=>exact h
  | outgrown=>exact h
 | scope b L =>
  intro code Q p f γ w H ρ a g j;cases code<;>simp only[YC]at f<;>try (cases f;done)
  refine wp_scope_straight (wp_mono (L _ Q p f γ w H ρ a g j) λe C w' h=>?_);cases e<;>exact h
 | exit id =>
  intro code Q p f γ w H ρ a g j;cases code<;>simp only[YC]at f<;>try (cases f;done)
  simp only[Zh]at f;subst f;exact wp_exit ⟨γ,H,ρ,g,j⟩
 | ret =>
  intro code Q p f γ w H ρ a g j;cases code<;>simp only[YC]at f<;>try (cases f;done)
  exact wp_ret ⟨γ,H,ρ,g,j⟩
inductive zcH where
 | t (n:Nat)
 | c (n sz:Nat) (ag:Bool)
structure AFn where
 N:Nat
 np:Nat
 res:List zcH
 body:AC
def yB(ρ:Env)(H:zd):zcH->Option AV
 | .t n=>some (ρ n)
 | .c n sz ag=>rev ρ H (.ld sz ag (.t n))
def zx(ρ:Env)(H:zd):List zcH->Option (List AV)
 | []=>some []
 | r::rs=>match yB ρ H r,zx ρ H rs with
  | some v,some vs=>some (v::vs)
  | _,_=>none
def Yz:List AV->AV
 | [v]=>v
 | vs=>.tup vs
def Uf(P:Program):List ResultVar->List zcH->Bool
 | [],[]=>true
 | .tmp t::rs,.t n::as=>t==n&&Uf P rs as
 | .cell a t::rs,.c n sz ag::as=>a==n&&((P.info? t).any λf=>decide (f.size=sz))&&(P.underlying t).isSome&&decide (OG (P.underlying t)=ag)&&(ag||decide (sz=1))&&Uf P rs as
 | _,_=>false
def Rp(P:Program)(f:FuncId)(g:AFn):Bool :=
 match P.funcs[f]? with
 | some h=>match h.body with
  | some code=>decide (h.ntmps=g.N)&&decide (g.np<=g.N)&&Uf P h.results.toList g.res&&YC P g.N 0 code g.body
  | none=>false
 | none=>false
def Nm(f B:zd):Prop:=∀b o,f b=some o->B b=some o
def Nm.refl(f:zd):Nm f f:=λ_ _ g=>g
structure yT (B A:zd):Prop where
 keys:∀b,(B b).isSome=true->(A b).isSome=true
 st:∀γ w,zU γ w A->zU γ w B
def yT.of_sub{f B:zd}(h:Nm B f):yT B f:=⟨λb j=>by
 cases g:B b with
 | none=>simp[g]at j
 | some o=>simp[h b o g],λγ w p=>p.sub h⟩
def yT.refl(f:zd):yT f f:=yT.of_sub (Nm.refl f)
def yT.trans{f B C:zd}(h:yT f B)(h':yT B C):yT f C:=⟨λb g=>h'.keys b (h.keys b g),λγ w j=>h.st γ w (h'.st γ w j)⟩
def yT.upd{f B:zd}(h:yT B f){b:Nat}{o:Yr}(j:f b=none):yT B (f.upd b o) :=
 h.trans (yT.of_sub λc x g=>by
  have p:c≠b:=λe=>by subst e;rw[j]at g;cases g
  simp only[zd.upd,p,if_false];exact g)
def yT.cells{g:zd}{b:Nat}{h:List AV}(p:g b=some (.cells h)):yT (g.upd b (.cells (h.map AV.strip1))) g:=by
 refine⟨λc f=>?_,λγ w v c o f=>?_⟩
 ·unfold zd.upd at f;split at f
  ·rename_i e;subst e;simp[p]
  ·exact f
 ·unfold zd.upd at f;split at f
  ·rename_i e;subst e;simp only[Y1]at f;subst f;cases v _ _ p with
   | cells _ K E A z C y G =>
    refine .cells _ K E A z (by simpa using C) y λi c J f I=>?_;rw[W5]at f;cases j:h[i]? with
    | none=>simp[j]at f
    | some x=>simp only[j,VF,Y1]at f;subst f;exact(G i x J j I).strip1
  ·exact v c o f
def yf:Nat->List AV->List (Nat×AV)
 | _,[]=>[]
 | k,c::cs=>(k,c)::yf (k+1) cs
def zbc(f:List zcH)(Q:Tf->zd->Prop):ZV->Env->zd->Prop
 | .exit _,_,_=>False
 | _,ρ,H=>match zx ρ H f with
  | some g=>∃H',yT H' H/\Q (.ret (Yz g)) H'
  | none=>False
def zoH(Q:Tf->zd->Prop):AV->zd->Prop:=λf H=>∃H',yT H' H/\Q (.pan f) H'
def zgB(Q:Tf->zd->Prop):Ly (zoH Q):=λj H b o f ⟨H',h,g⟩=>⟨H',h.upd f,g⟩
def Le:∀(args:List AV) (k n:Nat),Xf (yf k args) n=if k<=n then args.getD (n-k) .any else .any
 | [],k,n=>by simp[yf,Xf]
 | c::cs,k,n=>by
  simp only[yf,Xf,Le cs (k+1) n];by_cases g:n=k
  ·subst g;simp
  ·simp only[g,if_false];by_cases h:k<=n
   ·have f:k+1<=n:=by omega
    simp only[h,f,if_true];rw[show n-k=(n-(k+1))+1 by omega];simp
   ·have f:¬ k+1<=n:=by omega
    simp[h,f]
def zg4{γ:Gh}{w:World}{args:List AV}{vs:List Value}(v:UO γ w)(h:Ze γ w args vs)(m:Nat):Xg γ w (Xf (yf 0 args)) (vs.toArray++Array.replicate m undef):=by
 refine⟨v,λn=>?_⟩;rw[Le];simp only[Nat.zero_le,if_true,Nat.sub_zero];by_cases f:n<args.length
 ·have j:n<vs.length:=by rw[<-h.1];exact f
  have g:args.getD n .any=args[n]:=by simp[List.getD,f]
  have p:(vs.toArray++Array.replicate m undef).getD n undef=vs[n]:=by simp only[zas];rw[Array.getElem?_append_left (by simpa using j)];simp[j]
  rw[g,p];exact h.2 n _ _ (Qh f) (Qh j)
 ·have g:args.getD n .any=.any:=by simp[List.getD,f]
  rw[g];exact .any _
theorem K2 {P:Program} {γ:Gh} {w:World} {H:zd} {ρ:Env} {a:Act} (he:Xg γ w ρ a.tmps) (hs:zU γ w H):∀(rs:List ResultVar) (as:List zcH) (cs:List AV),Uf P rs as=true->zx ρ H as=some cs ->
  ∃vs,(rs.mapM (m:=Sem) fun
   | .tmp t=>pure (a.tmps.getD t undef)
   | .cell x t=>do loadVar t (<-asAddr (a.tmps.getD x undef))).run P w=.ok vs w/\Ze γ w cs vs
 | [],[],cs,_,h=>by simp only[zx,Y1]at h;subst h;exact⟨[],rfl,Ze.nil⟩
 | [],_::_,_,h,_=>by simp[Uf]at h
 | .tmp t::_,[],_,h,_=>by simp[Uf]at h
 | .cell x t::_,[],_,h,_=>by simp[Uf]at h
 | .tmp t::rs,.c n sz ag::as,_,h,_=>by simp[Uf]at h
 | .cell x t::rs,.t n::as,_,h,_=>by simp[Uf]at h
 | .tmp t::rs,.t n::as,cs,hc,h=>by
  simp only[Uf,yu,beq_iff_eq]at hc
  obtain⟨rfl,hc⟩:=hc
  simp only[zx,yB]at h
  cases hr:zx ρ H as with
  | none=>simp[hr]at h
  | some ds =>
   simp only[hr,Y1]at h
   subst h
   obtain⟨vs,hv,hrep⟩:=K2 he hs rs as ds hc hr
   exact⟨a.tmps.getD t undef::vs,by simp only[List.mapM_cons,Sem.run_bind,Sem.run_pure,Result.andThen_ok,hv],Ze.cons (he.rep t) hrep⟩
 | .cell x t::rs,.c n sz ag::as,cs,hc,h=>by
  simp only[Uf,yu,beq_iff_eq,Zh,Uz]at hc
  obtain⟨⟨⟨⟨⟨rfl,h1⟩,h2⟩,h3⟩,h4⟩,hc⟩:=hc
  obtain⟨ti,hti,h1⟩:=any_some h1
  obtain⟨d,hd⟩:=zcF.1 h2
  simp only[zx,yB]at h
  cases hv0:rev ρ H (.ld sz ag (.t x))with
  | none=>simp[hv0]at h
  | some v0 =>
   cases hr:zx ρ H as with
   | none=>simp[hv0,hr]at h
   | some ds =>
    simp only[hv0,hr,Y1]at h
    subst h
    obtain⟨vs,hv,hrep⟩:=K2 he hs rs as ds hc hr
    have hread := zn3 (P := P) (o := { dst := none, op := .load t (.tmp x), type := 0, pos := "", after := #[], guard := none }) (x' := .t x) rfl (by simp [yG]) hti (by simpa using h1) hd h3 h4 γ w H ρ a v0 he hs hv0
    obtain⟨u,hu,hru⟩:=hread
    have hex:(do loadVar t (<-asAddr (a.tmps.getD x undef)):Sem Value).run P w=.ok u w:=by
     have hr1:=he.rep x
     simp only[rev,yY.ev]at hv0
     simp only[execOp,Instr.loadAt,Act.eval,Sem.run_bind]at hu
     cases hx:ρ x<;>simp only[hx]at hv0 hr1<;>try (cases hv0;done)
     all_goals
      generalize hg:a.tmps.getD x undef=g at hr1 hu ⊢
      cases hr1
      simp only[Instr.sureAddr,asAddr,Sem.run_bind,Sem.run_pure,Result.andThen_ok]at hu ⊢
      generalize (loadVar t _).run P w=r at hu ⊢
      cases r with
      | ok v w'=>simp only[Result.andThen_ok,Result.ok.injEq,Next.value.injEq]at hu;rw[hu.1,hu.2]
      | halt x w'=>simp[Result.andThen]at hu
    exact⟨u::vs,by simp only[List.mapM_cons,Sem.run_bind]at hex ⊢;rw[hex];simp only[Result.andThen_ok,hv,Sem.run_pure],Ze.cons hru hrep⟩
def zbN{P:Program}{γ:Gh}{w:World}{H:zd}{ρ:Env}{a:Act}{fn:Func}{as:List zcH}{g:List AV}(y:Xg γ w ρ a.tmps)(C:zU γ w H)(v:Uf P fn.results.toList as=true)(h:zx ρ H as=some g):
  ∃j,(results fn a.tmps).run P w=.ok j w/\Rep γ w (Yz g) j:=by
 obtain⟨f,G,A⟩:=K2 (P:=P) y C fn.results.toList as g v h;have z:(fn.results.mapM (m:=Sem) fun
   | .tmp t=>pure (a.tmps.getD t undef)
   | .cell x t=>do loadVar t (<-asAddr (a.tmps.getD x undef))).run P w=.ok f.toArray w:=by
  rw[Array.mapM_eq_mapM_toList];simp only[Sem.run_map];have e:∀r:Result (List Value),r=.ok f w->(r.andThen λa w'=>Result.ok a.toArray w')=.ok f.toArray w:=λr p=>by subst p;rfl
  exact e _ G
 unfold results;rw[Sem.run_bind];have e:∀r:Result (Array Value),r=.ok f.toArray w->(r.andThen λf w'=>(pure (if h:f.size=1 then f[0]else .tuple f):Sem Value).run P w')=.ok (if h:f.toArray.size=1 then f.toArray[0]else .tuple f.toArray) w:=λr p=>by subst p;rfl
 refine⟨_,e _ z,?_⟩
 match g,f,A with
 | [],[],_=>exact .tup [] [] rfl (by simp)
 | [c],[j],h=>exact h.2 0 c j rfl rfl
 | c1::c2::g,v1::v2::f,h=>exact .tup _ _ h.1 h.2
 | [],_::_,h=>exact absurd h.1 (by simp)
 | _::_,[],h=>exact absurd h.1 (by simp)
 | [_],_::_::_,h=>exact absurd h.1 (by simp)
 | _::_::_,[_],h=>exact absurd h.1 (by simp)
def SC{P:Program}{fn:Func}{tmps:Array Value}{R:Ending->World->Prop}{u:FrameMode}{γ:Gh}(v:u≠.run):∀(bs:List Nat) (w:World) (H:zd),bs.Nodup->(∀b∈bs,H b=none/\w.heap[b]?=some (.deferred (some [])))->zU γ w H ->
  (∀w',U9 (λb=>b∈bs) γ w γ w'->zU γ w' H->LeavesIn Fence.wide 0 P fn tmps R [] u w')->LeavesInM Fence.wide 0 P fn tmps R (bs.map zrW) u w
 | [],w,H,_,_,hs,g=>g w (.refl _ _ _) hs
 | b::bs,w,H,hnd,hb,hs,g=>by have h:=hb b (YS ..);obtain⟨z,A⟩:=List.nodup_cons.1 hnd;have p:=zlv γ (o':=.deferred none) h.2 (λ_ _ _ g=>by cases g) (λ_ _ _ g=>by cases g);refine⟨v,.inl ⟨b,w.putObj b (.deferred none),rfl,run_takeDeferred h.2,?_⟩⟩;have C:zU γ (w.putObj b (.deferred none)) H:=hs.kept p (λc o f e=>by subst e;rw[h.1]at f;cases f);refine SC v bs _ H A (λc f=>?_) C λw' y G=>g w' ((p.weaken λc f=>by subst f;exact YS ..).trans y λc _ f=>YN _ f) G;have j:=hb c (YN _ f);exact⟨j.1,(World.putObj_heap_other (λe=>by subst e;exact z f)).trans j.2⟩
def zY.of_fn{P:Program}{f:FuncId}(g:AFn)(C:Rp P f g=true){args:List AV}{H:zd}{Q:Tf->zd->Prop}(av:args.length<=g.np)(h:awp P (zoH Q) g.body (zbc g.res Q) (Xf (yf 0 args)) H):zY P f args H Q:=by
 intro γ w K aq ao ac;unfold Rp at C;cases W:P.funcs[f]? with
 | none=>simp[W]at C
 | some L =>
  simp only[W]at C;cases O:L.body with
  | none=>simp[O]at C
  | some code =>
   simp only[O,yu,Zh]at C;obtain⟨⟨⟨ae,aw⟩,am⟩,af⟩:=C;refine(callsIn_wide (n:=0)).1 (callsIn_of_wp_marks W O trivial (wpIn_wide.2 ?_));have hlen:K.toArray.size<=g.N:=by simp only[List.size_toArray];rw[<-ac.1];omega
   have ai:Vo γ w H (Fx.marks g.N w.heap.size) γ w H (Xf (yf 0 args)) { tmps:=K.toArray++Array.replicate (L.ntmps-K.toArray.size) undef,defers:=[] } :=⟨.refl _ _ _,ao,ZL.refl _ _,zg4 aq ac _,by show _=g.N;rw[ae,Array.size_append,Array.size_replicate];omega,λn al=>absurd al (Nat.not_lt_zero n),LD.init rfl⟩;refine wp_mono (zes (F:=Fx.marks g.N w.heap.size) (zgB Q) g.body code _ (.inr ⟨rfl,rfl,ZG _⟩) af γ w H _ _ ai h) λe G w' j=>?_;have old:∀(H':zd) (bs:List Nat),(∀b∈bs,w.heap.size<=b/\H' b=none/\w'.heap[b]?=some (.deferred (some [])))->∀b,b<w.heap.size->b∈bs->keysOf H b :=λH' bs h b z ak=>absurd (h b ak).1 (by omega);have fin:∀γ' H' y,Vo γ w H (Fx.marks g.N w.heap.size) γ' w' H' y G->(match zx y H' g.res with|some K=>∃A,yT A H'/\Q (.ret (Yz K)) A|none=>False) ->
     LeavesInM Fence.wide 0 P L G.tmps (λe w'=>∃γ' H' r,U9 (λb=>(H b).isSome=true) γ w γ' w'/\zU γ' w' H' /\ (∀b,(H' b).isSome=true->(H b).isSome=true∨w.heap.size<=b)/\zdW γ' w' e r/\Q r H') G.defers .returning w':=by
    intro γ' H' y p v;cases Z:zx y H' g.res with
    | none=>simp[Z]at v
    | some ad =>simp only[Z]at v;obtain⟨A,J,Y⟩:=v;obtain⟨bs,U,X,_,I⟩:=p.df.eq;rw[U,show (Fx.marks g.N w.heap.size).D=[] from rfl,List.append_nil];refine SC (γ:=γ') (by simp) bs w' H' X (λb z=>(I b z).2) p.st λar j M=>?_;obtain⟨ab,an,aa⟩:=zbN (P:=P) (p.env.mono j.mono) M am Z;refine⟨ab,an,γ',A,.ret (Yz ad),p.ext.trans j (old H' bs I),J.st _ _ M,λb z=>?_,aa,Y⟩;exact p.keys b (J.keys b z)
   cases e with
   | normal=>obtain⟨γ',H',y,p,v⟩:=j;exact fin γ' H' y p v
   | ret=>obtain⟨γ',H',y,p,v⟩:=j;exact fin γ' H' y p v
   | exit id=>obtain⟨γ',H',y,p,v⟩:=j;exact v.elim
   | goto l=>exact j.elim
   | outgrown=>exact j.elim
   | panic au =>obtain⟨γ',H',c,ab,rfl,ah,ap,aj,aa,⟨A,J,Y⟩,_,_,_,ag⟩:=j;obtain⟨bs,U,X,_,I⟩:=ag.eq;show LeavesInM Fence.wide 0 P L G.tmps _ G.defers _ w';rw[U,show (Fx.marks g.N w.heap.size).D=[] from rfl,List.append_nil];refine SC (γ:=γ') (by simp) bs w' H' X (λb z=>(I b z).2) ap λar j M=>?_;exact⟨γ',A,.pan c,ah.trans j (old H' bs I),J.st _ _ M,λb z=>aj b (J.keys b z),⟨ab,rfl,aa.mono j.mono⟩,Y⟩
def Zk(P:Program)(f:FuncId)(args:List AV)(r:AV):Prop:=zY P f args zd.emp λe H'=>e=.ret r/\H'=zd.emp
def Ku(H:zd):zd.union zd.emp H=H:=by funext n;simp[zd.union,zd.emp]
def zix(H:zd):zd.Disj zd.emp H:=λ_=>.inl rfl
def Zk.use{P:Program}{f:FuncId}{args:List AV}{r:AV}(h:Zk P f args r){H:zd}{K KP:AV->zd->Prop}(v:K r H):zY P f args H (Xd K KP):=by have:=h.frame (zix H);rw[Ku]at this;refine this.mono λe H' ⟨y,⟨p,g⟩,_,j⟩=>?_;subst p;subst g;subst j;rw[Ku];exact v
def zY.strip{P:Program}{f:FuncId}{args:List AV}{H:zd}{Q:Tf->zd->Prop}(h:zY P f args H λe H'=>match e with|.ret g=>Q (.ret g.strip) H'|.pan g=>Q (.pan g) H'):zY P f args H Q :=
 λγ w y p j v=>(h γ w y p j v).mono λe w' ⟨γ',H',r,a,b,c,d,q⟩=>by
  cases r with
  | ret g =>
   refine⟨γ',H',.ret g.strip,a,b,c,?_,q⟩;cases e with
   | returned u=>exact Rep.strip d
   | panicked z=>exact d
   | outgrown=>exact d
  | pan g=>exact⟨γ',H',.pan g,a,b,c,d,q⟩
def zjB(r:AV):Tf->zd->Prop
 | .ret v,H=>v.strip=r/\H=zd.emp
 | .pan _,_=>False
def Zk.of_fn{P:Program}{f:FuncId}(g:AFn)(p:Rp P f g=true){args:List AV}{r:AV}(v:args.length<=g.np)(h:awp P (zoH (zjB r)) g.body (zbc g.res (zjB r)) (Xf (yf 0 args)) zd.emp):Zk P f args r:=by
 unfold Zk;refine zY.strip ((zY.of_fn g p v h).mono λe H' j=>?_);cases e with
 | ret y=>exact⟨by rw[j.1],j.2⟩
 | pan y=>exact j.elim
def zg9{v:List zcH}{r:AV}{e:ZV}{ρ:Env}{H:zd}(y:∀i,e≠.exit i)(h:∃g,zx ρ H v=some g/\(Yz g).strip=r):zbc v (zjB r) e ρ H:=by
 obtain⟨g,j,p⟩:=h;cases e with
 | exit i=>exact absurd rfl (y i)
 | normal=>simp only[zbc,j];exact⟨zd.emp,yT.of_sub λb o f=>by simp[zd.emp]at f,p,rfl⟩
 | ret=>simp only[zbc,j];exact⟨zd.emp,yT.of_sub λb o f=>by simp[zd.emp]at f,p,rfl⟩
def zjF(x:Option yo):List VQ:=match x with|some x=>entry x|none=>[]
def zex(d:Option Nat)(g:Option (Nat×Bool))(op:XQ)(c:List Nat):zjF (some ⟨d,g,op,c⟩)=match d with|some d=>[(d,g,op)]|none=>[]:=by cases d<;>rfl
inductive Fr where
 | code (b:AC)
 | blk (id:Nat)
 | rep (keep:List Nat) (J:Env->zd->Prop)
def D(P:Program)(KP:AV->zd->Prop)(Q:ZV->Env->zd->Prop):List Fr->ZV->Env->zd->Prop
 | []=>Q
 | .code b::st=>zcs (awp P KP b (D P KP Q st)) (D P KP Q st)
 | .blk id::st=>PC id (D P KP Q st)
 | .rep keep J::st=>zcs (λρ H=>J (ρ.keep keep) H) (D P KP Q st)
def goC(P:Program)(KP:AV->zd->Prop)(Q:ZV->Env->zd->Prop)(c:AC)(f:List Fr)(ρ:Env)(H:zd):Prop:=awp P KP c (D P KP Q f) ρ H
def goD(P:Program)(KP:AV->zd->Prop)(Q:ZV->Env->zd->Prop)(f:List Fr)(ρ:Env)(H:zd):Prop:=D P KP Q f .normal ρ H
def goE(P:Program)(KP:AV->zd->Prop)(Q:ZV->Env->zd->Prop)(e:ZV)(f:List Fr)(ρ:Env)(H:zd):Prop:=D P KP Q f e ρ H
def goI(P:Program)(KP:AV->zd->Prop)(Q:ZV->Env->zd->Prop)(all l:List yo)(f:List Fr)(ρ:Env)(H:zd):Prop :=Yt P KP (l.map λit=>(it,SI all it.chk)) ρ H (λg H'=>D P KP Q f .normal g H')
def Qe(P:Program)(KP:AV->zd->Prop)(Q:ZV->Env->zd->Prop)(all l:List yo)(f:List Fr)(R:List VQ)(ρ:Env)(H:zd):Prop :=YZ ρ H R/\goI P KP Q all l f ρ H
def goG(P:Program)(KP:AV->zd->Prop)(Q:ZV->Env->zd->Prop)(all l:List yo)(f:List Fr)(g:AV)(j:Bool)(d:Option Nat)(op:XQ)(R:List VQ)(ρ:Env)(H:zd):Prop :=
 match g with
 | .bool b=>if b==j then TZ P KP op ρ H (λh H'=>Qe P KP Q all l f R (ρ.set d h) H')else goI P KP Q all l f (ρ.set d (.tup [])) H
 | .tup []=>goI P KP Q all l f (ρ.set d (.tup [])) H
 | _=>False
def goO(P:Program)(KP:AV->zd->Prop)(Q:ZV->Env->zd->Prop)(all l:List yo)(f:List Fr)(d:Option Nat)(op:XQ)(R:List VQ)(ρ:Env)(H:zd):Prop :=TZ P KP op ρ H (λg H'=>Qe P KP Q all l f R (ρ.set d g) H')
def Qu(P:Program)(KP:AV->zd->Prop)(Q:ZV->Env->zd->Prop)(all l:List yo)(f:List Fr)(d:Option Nat)(ρ:Env)(H:zd)(v:Option AV):Prop :=
 match v with
 | some v=>goI P KP Q all l f (ρ.set d v) H
 | none=>False
def goK(P:Program)(KP:AV->zd->Prop)(Q:ZV->Env->zd->Prop)(all l:List yo)(g:List Fr)(d:Option Nat)(R:List VQ)(ρ:Env)(f:FuncId)(args:List AV)(H:zd):Prop :=zY P f args H (Xd (λh H'=>Qe P KP Q all l g R (ρ.set d h) H') KP)
def goA(P:Program)(KP:AV->zd->Prop)(Q:ZV->Env->zd->Prop)(all l:List yo)(f:List Fr)(d:Option Nat)(R:List VQ)(ρ:Env)(H:zd)(op:XQ)(x:Option Yr):Prop :=
 match x with
 | some x=>∀b,H b=none->Qe P KP Q all l f R (ρ.set d (Z9 ρ b op)) (H.upd b x)
 | none=>Sd H
def goP(P:Program)(KP:AV->zd->Prop)(Q:ZV->Env->zd->Prop)(all l:List yo)(f:List Fr)(d:Option Nat)(R:List VQ)(ρ:Env)(sz bytes:Nat)(x y:AV)(H:zd):Prop :=zeq sz bytes x y H (λg H'=>Qe P KP Q all l f R (ρ.set d g) H')
def goS(P:Program)(KP:AV->zd->Prop)(Q:ZV->Env->zd->Prop)(all l:List yo)(g:List Fr)(d:Option Nat)(R:List VQ)(ρ:Env)(n:Nat)(x:AV)(y:List AV)(f:Bool)(H:zd):Prop :=
 match x with
 | .ptr b off=>match H b with
  | some (.cells cs)=>y.length=n/\off+n<=cs.length/\f=true/\Qe P KP Q all l g R (ρ.set d (.tup [])) (H.upd b (.cells (splice cs off y)))
  | _=>False
 | _=>False
def goB(P:Program)(KP:AV->zd->Prop)(Q:ZV->Env->zd->Prop)(c:AV)(t e:AC)(f:List Fr)(ρ:Env)(H:zd):Prop :=zij c (goC P KP Q t f ρ H) (goC P KP Q e f ρ H)
def goU(P:Program)(KP:AV->zd->Prop)(Q:ZV->Env->zd->Prop)(keep:List Nat)(a b:AC)(f:List Fr)(ρ:Env)(H:zd):Prop:=goC P KP Q (.join keep a b) f ρ H
def goL(P:Program)(KP:AV->zd->Prop)(Q:ZV->Env->zd->Prop)(keep:List Nat)(b:AC)(f:List Fr)(ρ:Env)(H:zd):Prop:=goC P KP Q (.loop keep b) f ρ H
section
variable {P:Program} {KP:AV->zd->Prop} {Q:ZV->Env->zd->Prop} {st:List Fr} {ρ:Env} {H:zd}
def go_skip:goC P KP Q .skip st ρ H=goD P KP Q st ρ H:=rfl
def zpg(a b:AC):goC P KP Q (.seq a b) st ρ H=goC P KP Q a (.code b::st) ρ H:=rfl
def zmX(keep:List Nat)(a b:AC):goC P KP Q (.join keep a b) st ρ H=goU P KP Q keep a b st ρ H:=rfl
def zpd(c:List Nat)(l:List yo):goC P KP Q (.reg c l) st ρ H=goI P KP Q l l st ρ H:=rfl
def zlU(c:yY)(t e:AC):goC P KP Q (.cond c t e) st ρ H=goB P KP Q (c.ev ρ) t e st ρ H:=rfl
def zjZ(id:Nat)(b:AC):goC P KP Q (.block id b) st ρ H=goC P KP Q b (.blk id::st) ρ H:=rfl
def ziO(b:AC):goC P KP Q (.scope b) st ρ H=goC P KP Q b st ρ H:=rfl
def zm5(id:Nat):goC P KP Q (.exit id) st ρ H=goE P KP Q (.exit id) st ρ H:=rfl
def go_ret:goC P KP Q .ret st ρ H=goE P KP Q .ret st ρ H:=rfl
def go_loop(keep:List Nat)(b:AC):goC P KP Q (.loop keep b) st ρ H=goL P KP Q keep b st ρ H:=rfl
def zi7(b:AC):goD P KP Q (.code b::st) ρ H=goC P KP Q b st ρ H:=rfl
def zk8(id:Nat):goD P KP Q (.blk id::st) ρ H=goD P KP Q st ρ H:=rfl
def zlp(keep:List Nat)(f:Env->zd->Prop):goD P KP Q (.rep keep f::st) ρ H=f (ρ.keep keep) H:=rfl
def zmW:goD P KP Q [] ρ H=Q .normal ρ H:=rfl
def zlF(e:ZV):goE P KP Q e [] ρ H=Q e ρ H:=rfl
def KZ(b:AC):goE P KP Q .ret (.code b::st) ρ H=goE P KP Q .ret st ρ H:=rfl
def zda(id:Nat):goE P KP Q .ret (.blk id::st) ρ H=goE P KP Q .ret st ρ H:=rfl
def zbO(keep:List Nat)(f:Env->zd->Prop):goE P KP Q .ret (.rep keep f::st) ρ H=goE P KP Q .ret st ρ H:=rfl
def LI(i:Nat)(b:AC):goE P KP Q (.exit i) (.code b::st) ρ H=goE P KP Q (.exit i) st ρ H:=rfl
def zbb(i id:Nat):goE P KP Q (.exit i) (.blk id::st) ρ H=if i=id then goD P KP Q st ρ H else goE P KP Q (.exit i) st ρ H:=by simp only[goE,goD,D,PC];split<;>rfl
def zaG(i:Nat)(keep:List Nat)(f:Env->zd->Prop):goE P KP Q (.exit i) (.rep keep f::st) ρ H=goE P KP Q (.exit i) st ρ H:=rfl
variable {all l:List yo} {d:Option Nat} {R:List VQ}
def zlc:goI P KP Q all [] st ρ H=goD P KP Q st ρ H:=rfl
def zkj(op:XQ)(c:List Nat):goI P KP Q all (⟨d,none,op,c⟩::l) st ρ H=goO P KP Q all l st d op (SI all c) ρ H:=rfl
def zgg(s:Nat)(w:Bool)(op:XQ)(c:List Nat):goI P KP Q all (⟨d,some (s,w),op,c⟩::l) st ρ H=goG P KP Q all l st (ρ s) w d op (SI all c) ρ H:=by
 simp only[goI,List.map_cons,Yt,XJ,gv,goG];cases g:ρ s<;>try rfl
 ·rename_i b;cases b<;>cases w<;>rfl
 ·rename_i f;cases f<;>rfl
def KS:Qe P KP Q all l st [] ρ H=goI P KP Q all l st ρ H:=by simp[Qe,YZ]
def zgW(items:List yo):SI items []=[]:=rfl
def zpZ(op:XQ):goG P KP Q all l st (.bool true) true d op R ρ H=goO P KP Q all l st d op R ρ H:=rfl
def zpa(op:XQ):goG P KP Q all l st (.bool false) false d op R ρ H=goO P KP Q all l st d op R ρ H:=rfl
def zp6(op:XQ):goG P KP Q all l st (.bool true) false d op R ρ H=goI P KP Q all l st (ρ.set d (.tup [])) H:=rfl
def zp1(op:XQ):goG P KP Q all l st (.bool false) true d op R ρ H=goI P KP Q all l st (ρ.set d (.tup [])) H:=rfl
def zqd(w:Bool)(op:XQ):goG P KP Q all l st (.tup []) w d op R ρ H=goI P KP Q all l st (ρ.set d (.tup [])) H:=rfl
def Zz(op:XQ)(h:op.cls=.pure):goO P KP Q all l st d op [] ρ H=Qu P KP Q all l st d ρ H (Yy ρ op):=by
 simp only[goO,TZ,h,Qu];cases Yy ρ op with
 | none=>rfl
 | some f=>simp only[KS]
def zbV(op:XQ)(h:op.cls=.read):goO P KP Q all l st d op [] ρ H=Qu P KP Q all l st d ρ H (rev ρ H op):=by
 simp only[goO,TZ,h,Qu];cases rev ρ H op with
 | none=>rfl
 | some f=>simp only[KS]
def ziv(v:AV):Qu P KP Q all l st d ρ H (some v)=goI P KP Q all l st (ρ.set d v) H:=rfl
def R4(op:XQ)(h:op.cls=.alloc):goO P KP Q all l st d op R ρ H=goA P KP Q all l st d R ρ H op (X8 ρ op):=by simp only[goO,TZ,h,goA];cases X8 ρ op<;>rfl
def zsq(x:yY):goO P KP Q all l st d (.mv x) [] ρ H=Qu P KP Q all l st d ρ H (Yy ρ (.mv x)):=Zz _ rfl
def zoT(c a b:yY):goO P KP Q all l st d (.pick c a b) [] ρ H=Qu P KP Q all l st d ρ H (Yy ρ (.pick c a b)):=Zz _ rfl
def zhO(x:yY):goO P KP Q all l st d (.nilchk x) [] ρ H=Qu P KP Q all l st d ρ H (Yy ρ (.nilchk x)):=Zz _ rfl
def zsk(o:BinOp)(k:IntKind)(x y:yY):goO P KP Q all l st d (.bi o k x y) [] ρ H=Qu P KP Q all l st d ρ H (Yy ρ (.bi o k x y)):=Zz _ rfl
def zro(o:BinOp)(x y:yY):goO P KP Q all l st d (.shf o x y) [] ρ H=Qu P KP Q all l st d ρ H (Yy ρ (.shf o x y)):=Zz _ rfl
def zss(o:BinOp)(x y:yY):goO P KP Q all l st d (.bs o x y) [] ρ H=Qu P KP Q all l st d ρ H (Yy ρ (.bs o x y)):=Zz _ rfl
def zsP(neg:Bool)(x y:yY):goO P KP Q all l st d (.bb neg x y) [] ρ H=Qu P KP Q all l st d ρ H (Yy ρ (.bb neg x y)):=Zz _ rfl
def zrA(neg:Bool)(f:List K1)(x y:yY):goO P KP Q all l st d (.eqa neg f x y) [] ρ H=Qu P KP Q all l st d ρ H (Yy ρ (.eqa neg f x y)):=Zz _ rfl
def zpH(x:yY):goO P KP Q all l st d (.ineg x) [] ρ H=Qu P KP Q all l st d ρ H (Yy ρ (.ineg x)):=Zz _ rfl
def zmC(neg:Bool)(x:yY):goO P KP Q all l st d (.ifnil neg x) [] ρ H=Qu P KP Q all l st d ρ H (Yy ρ (.ifnil neg x)):=Zz _ rfl
def zrh(x:yY):goO P KP Q all l st d (.not x) [] ρ H=Qu P KP Q all l st d ρ H (Yy ρ (.not x)):=Zz _ rfl
def zrq(k:IntKind)(x:yY):goO P KP Q all l st d (.cvi k x) [] ρ H=Qu P KP Q all l st d ρ H (Yy ρ (.cvi k x)):=Zz _ rfl
def zrS(zero:List AV)(f:List (Nat×Nat×yY)):goO P KP Q all l st d (.bld zero f) [] ρ H=Qu P KP Q all l st d ρ H (Yy ρ (.bld zero f)):=Zz _ rfl
def zri(sz f:Nat)(zero:List AV)(g:List (Nat×yY)):goO P KP Q all l st d (.bls sz f zero g) [] ρ H=Qu P KP Q all l st d ρ H (Yy ρ (.bls sz f zero g)):=Zz _ rfl
def zps(f:FuncId)(first g:List yY):goO P KP Q all l st d (.mkfn f first g) [] ρ H=Qu P KP Q all l st d ρ H (Yy ρ (.mkfn f first g)):=Zz _ rfl
def zrd(x:yY)(i:Nat):goO P KP Q all l st d (.ext x i) [] ρ H=Qu P KP Q all l st d ρ H (Yy ρ (.ext x i)):=Zz _ rfl
def zs5(f:Nat)(x:yY):goO P KP Q all l st d (.fa f x) [] ρ H=Qu P KP Q all l st d ρ H (Yy ρ (.fa f x)):=Zz _ rfl
def zsZ(sz:Nat)(x i:yY):goO P KP Q all l st d (.ia sz x i) [] ρ H=Qu P KP Q all l st d ρ H (Yy ρ (.ia sz x i)):=Zz _ rfl
def zrL(x i:yY):goO P KP Q all l st d (.ixs x i) [] ρ H=Qu P KP Q all l st d ρ H (Yy ρ (.ixs x i)):=Zz _ rfl
def zq8(x:yY)(lo hi:Option yY):goO P KP Q all l st d (.sls x lo hi) [] ρ H=Qu P KP Q all l st d ρ H (Yy ρ (.sls x lo hi)):=Zz _ rfl
def zqY(sz:Nat)(x:yY)(lo hi mx:Option yY):goO P KP Q all l st d (.sll sz x lo hi mx) [] ρ H=Qu P KP Q all l st d ρ H (Yy ρ (.sll sz x lo hi mx)):=Zz _ rfl
def zq9(x:yY):goO P KP Q all l st d (.len x) [] ρ H=Qu P KP Q all l st d ρ H (Yy ρ (.len x)):=Zz _ rfl
def zpB(x:yY):goO P KP Q all l st d (.lens x) [] ρ H=Qu P KP Q all l st d ρ H (Yy ρ (.lens x)):=Zz _ rfl
def zs4(mx:Bool)(x:yY)(f:List yY):goO P KP Q all l st d (.mm mx x f) [] ρ H=Qu P KP Q all l st d ρ H (Yy ρ (.mm mx x f)):=Zz _ rfl
def zqn(x:yY):goO P KP Q all l st d (.boxv x) [] ρ H=Qu P KP Q all l st d ρ H (Yy ρ (.boxv x)):=Zz _ rfl
def zsr(n:Nat)(f:Bool)(x:yY):goO P KP Q all l st d (.ld n f x) [] ρ H=Qu P KP Q all l st d ρ H (rev ρ H (.ld n f x)):=zbV _ rfl
def zrl(f:KT)(zero:AV)(ok:Bool)(m k:yY):goO P KP Q all l st d (.lkp f zero ok m k) [] ρ H=Qu P KP Q all l st d ρ H (rev ρ H (.lkp f zero ok m k)):=zbV _ rfl
def zm2(zero:List AV):goO P KP Q all l st d (.alloc zero) R ρ H=goA P KP Q all l st d R ρ H (.alloc zero) (X8 ρ (.alloc zero)):=R4 _ rfl
def zq6(x:yY):goO P KP Q all l st d (.box x) R ρ H=goA P KP Q all l st d R ρ H (.box x) (X8 ρ (.box x)):=R4 _ rfl
def zrO(f:KT):goO P KP Q all l st d (.mkm f) R ρ H=goA P KP Q all l st d R ρ H (.mkm f) (X8 ρ (.mkm f)):=R4 _ rfl
def zdU(items:List yo)(k:Nat)(f:List Nat):SI items (k::f)=zjF items[k]?++SI items f:=by simp only[SI,List.flatMap_cons,zjF]<;>rfl
def zhT(n:Nat)(o:XQ):Qe P KP Q all l st ((n,none,o)::R) ρ H=(rev ρ H o=some (ρ n)/\Qe P KP Q all l st R ρ H):=by simp[Qe,YZ,gv,and_assoc]
def zhP(n s:Nat)(w:Bool)(o:XQ):Qe P KP Q all l st ((n,some (s,w),o)::R) ρ H=((gv (some (s,w)) ρ=some true->rev ρ H o=some (ρ n))/\Qe P KP Q all l st R ρ H):=by simp[Qe,YZ,and_assoc]
def zb{op:XQ}{x:Yr}(h:∀b,H b=none->Qe P KP Q all l st R (ρ.set d (Z9 ρ b op)) (H.upd b x)):goA P KP Q all l st d R ρ H op (some x):=h
def zpv(f:FuncId)(args:List yY):goO P KP Q all l st d (.call f args) R ρ H=goK P KP Q all l st d R ρ f (args.map (yY.ev ρ)) H:=rfl
def zrw(sz bytes:Nat)(x y:yY):goO P KP Q all l st d (.app sz bytes x y) R ρ H=goP P KP Q all l st d R ρ sz bytes (x.ev ρ) (y.ev ρ) H:=rfl
def zsE(n:Nat)(x y:yY):goO P KP Q all l st d (.st n x y) R ρ H=goS P KP Q all l st d R ρ n (x.ev ρ) (y.ev ρ).cells (y.ev ρ).boxable H:=by simp only[goO,TZ,XQ.cls,eff,goS];cases x.ev ρ<;>rfl
def goT(P:Program)(KP:AV->zd->Prop)(Q:ZV->Env->zd->Prop)(all l:List yo)(h:List Fr)(d:Option Nat)(R:List VQ)(ρ:Env)(n b f:Nat)(y:List AV)(g:Bool)(H:zd)(o:Option Yr):Prop :=
 match o with
 | some (.cells cs)=>y.length=n/\f+n<=cs.length/\g=true/\Qe P KP Q all l h R (ρ.set d (.tup [])) (H.upd b (.cells (splice cs f y)))
 | _=>False
def znd{b g n:Nat}{y:List AV}{f:Bool}:goS P KP Q all l st d R ρ n (.ptr b g) y f H=goT P KP Q all l st d R ρ n b g y f H (H b):=by simp only[goS,goT]
def zgM{b g n:Nat}{y f:List AV}{h:Bool}:goT P KP Q all l st d R ρ n b g y h H (some (.cells f))=(y.length=n/\g+n<=f.length/\h=true/\Qe P KP Q all l st R (ρ.set d (.tup [])) (H.upd b (.cells (splice f g y)))):=rfl
def za{f:FuncId}{args:List AV}{r:AV}(h:Zk P f args r)(g:Qe P KP Q all l st R (ρ.set d r) H):goK P KP Q all l st d R ρ f args H:=h.use g
def yM{f:FuncId}{args:List AV}{g:Tf->zd->Prop}(h:zY P f args H g)(j:∀e H',g e H'->Xd (λp H'=>Qe P KP Q all l st R (ρ.set d p) H') KP e H'):goK P KP Q all l st d R ρ f args H:=h.mono j
def zrD(t e:AC):goB P KP Q (.bool true) t e st ρ H=goC P KP Q t st ρ H:=rfl
def zq7(t e:AC):goB P KP Q (.bool false) t e st ρ H=goC P KP Q e st ρ H:=rfl
def zjN{keep:List Nat}{b:AC}(f:Nat->Env->zd->Prop)(j:Nat)(p:f j (ρ.keep keep) H)(z:∀n ρ H (h:Env->zd->Prop),f n ρ H->(∀m g H',m<n->f m g H'->h g H')->goC P KP Q b (.rep keep h::st) ρ H):goL P KP Q keep b st ρ H:=by
 refine⟨f,⟨j,p⟩,λn ρ H v=>?_⟩;exact z n ρ H (λg H'=>∃m,m<n/\f m g H') v λm g H' y hi=>⟨m,y,hi⟩
end
def upd_same(H:zd)(b:Nat)(o:Yr):(H.upd b o) b=some o:=by simp[zd.upd]
def upd_ne{H:zd}{b c:Nat}{o:Yr}(h:c≠b):(H.upd b o) c=H c:=by simp[zd.upd,h]
def Ut(H:zd)(b:Nat)(o o':Yr):(H.upd b o).upd b o'=H.upd b o':=by funext c;simp only[zd.upd];split<;>rfl
def ZB{H:zd}{b c:Nat}{o:Yr}(h:(H.upd b o) c=none):c≠b:=λe=>by subst e;simp[zd.upd]at h
def Ki(ρ:Env):List Nat->List (Nat×AV)
 | []=>[]
 | n::l=>(n,ρ n)::Ki ρ l
def zgo(ρ:Env):Ki ρ []=[]:=rfl
def zd5(ρ:Env)(n:Nat)(l:List Nat):Ki ρ (n::l)=(n,ρ n)::Ki ρ l:=rfl
def zl5(ρ:Env)(l:List Nat):ρ.keep l=Xf (Ki ρ l):=by
 unfold Env.keep
 congr 1
 induction l with
 | nil=>rfl
 | cons n l f=>simp[Ki,f]
def zmr(ρ:Env):[].map (yY.ev ρ)=[]:=rfl
def zjP(ρ:Env)(x:yY)(xs:List yY):(x::xs).map (yY.ev ρ)=x.ev ρ::xs.map (yY.ev ρ):=rfl
def zrP(a b:Prop):(if True then a else b)=a:=if_pos trivial
def zqM(a b:Prop):(if False then a else b)=b:=if_neg id
def zqO(a b:Option AV):(if True then a else b)=a:=if_pos trivial
def zqT(a b:Option AV):(if False then a else b)=b:=if_neg id
def zrJ(a b:AV):(if True then a else b)=a:=if_pos trivial
def zrZ(a b:AV):(if False then a else b)=b:=if_neg id
def zka(ρ:Env)(c:AV):ρ.set none c=ρ:=rfl
def zjq(l:List (Nat×AV))(d:Nat)(c:AV):(Xf l).set (some d) c=Xf ((d,c)::l):=rfl
def zha(n:Nat):Xf [] n=.any:=rfl
def zs6(ρ:Env)(n:Nat):(yY.t n).ev ρ=ρ n:=rfl
def zsL(ρ:Env)(c:AV):(yY.k c).ev ρ=c:=rfl
def zsg(a b:Int):(a==b)=decide (a=b):=rfl
def zs7(a b:Int):(a != b)=decide (a≠b):=by rw[decide_not];rfl
def zsH(a b:List UInt8):(a==b)=decide (a=b):=by by_cases f:a=b<;>simp[f]
def wrap64{n:Int}(f:-9223372036854775808<=n)(g:n<9223372036854775808):IntKind.wrap .i64 n=n:=by rw[IntKind.wrap_i64];omega
def zqK(S:AV->AV)(P:Program)(KP:AV->zd->Prop)(Q:ZV->Env->zd->Prop)(all l:List yo)(f:List Fr)(d:Option Nat)(R:List VQ)(ρ:Env)(sz bytes:Nat)(zero:List AV)(x y:AV)(H:zd):Prop :=Kr S sz bytes zero x y H (λg H'=>Qe P KP Q all l f R (ρ.set d g) H')
section
variable {P:Program} {KP:AV->zd->Prop} {Q:ZV->Env->zd->Prop} {st:List Fr} {ρ:Env} {H:zd} {all l:List yo} {d:Option Nat} {R:List VQ}
def zon(sz bytes:Nat)(zero:List AV)(x y:yY):goO P KP Q all l st d (.appm sz bytes zero x y) R ρ H=zqK AV.strip1 P KP Q all l st d R ρ sz bytes zero (x.ev ρ) (y.ev ρ) H:=rfl
def zp7(sz n:Nat)(zero:List AV)(f:List (Nat×yY)):goO P KP Q all l st d (.blsm sz n zero f) R ρ H=goA P KP Q all l st d R ρ H (.blsm sz n zero f) (X8 ρ (.blsm sz n zero f)):=R4 _ rfl
def zb1{S:AV->AV}{sz bytes:Nat}{zero:List AV}{o2:Own}{f:List (List AV)}(v:zero.length=sz)(g:f.length*bytes<=140737488355328)(h:f.length<=maxLen)(j:f=[]->Qe P KP Q all l st R (ρ.set d (.sl .nil sz [])) H)(p:f≠[]->∀b cap,H b=none->f.length<=cap->cap<=maxLen->Qe P KP Q all l st R (ρ.set d (.ms b 0 f.length cap)) (H.upd b (.cells (f.flatten.map S++Ta zero (cap-f.length))))):
 zqK S P KP Q all l st d R ρ sz bytes zero (.sl .nil sz []) (.sl o2 sz f) H:=⟨rfl,v,rfl,rfl,g,h,j,p⟩
end
def yO{a b:Prop}(x:a)(y:b):a/\b:=⟨x,y⟩
def steps:=yO @go_skip<|yO @zpg<|yO @zmX<|yO @zpd<|yO @zlU<|yO @zjZ<|yO @ziO<|yO @zm5<|yO @go_ret<|yO @go_loop<|yO @zi7<|yO @zk8<|yO @zlp<|yO @zmW<|yO @zlF<|yO @KZ<|yO @zda<|yO @zbO<|yO @LI<|yO @zbb<|yO @zaG<|yO @zlc<|yO @zkj<|yO @zgg<|yO @KS<|yO @zgW<|yO @zdU<|yO @zex<|yO @zhT<|yO @zhP<|yO @zpZ<|yO @zpa<|yO @zp6<|yO @zp1<|yO @zqd<|yO @ziv<|yO @zsq<|yO @zoT<|yO @zhO<|yO @zsk<|yO @zro<|yO @zss<|yO @zsP<|yO @zrA<|yO @zpH<|yO @zmC<|yO @zrh<|yO @zrq<|yO @zrS<|yO @zri<|yO @zps<|yO @zrd<|yO @zs5<|yO @zsZ<|yO @zrL<|yO @zq8<|yO @zon<|yO @zp7<|yO @zqY<|yO @zq9<|yO @zpB<|yO @zs4<|yO @zqn<|yO @zsr<|yO @zrl<|yO @zm2<|yO @zq6<|yO @zrO<|yO @zpv<|yO @zrw<|yO @zsE<|yO @znd<|yO @zgM<|yO @zrD<|yO @zq7<|yO @zl5<|yO @zka<|yO @zjq<|yO @zha<|yO @zdm<|yO @zs6<|yO @zsL<|yO @zsg<|yO @zs7<|yO @zsH<|yO @upd_same<|yO @Ut<|yO @zjP<|yO @zmr<|yO @zd5<|yO @zgo<|yO @zrP<|yO @zqM<|yO @zqO<|yO @zqT<|yO @zrJ<|yO @zrZ<|yO @and_self<|yO @true_and<|@and_true
def Zk.go{P:Program}{f:FuncId}(g:AFn)(p:Rp P f g=true){args:List AV}{r:AV}(y:args.length<=g.np)(h:∀KP Q,(∀e ρ H j,(∀i,e≠.exit i)->zx ρ H g.res=some j->(Yz j).strip=r->Q e ρ H)->goC P KP Q g.body [] (Xf (yf 0 args)) zd.emp):Zk P f args r :=
 Zk.of_fn g p y (h _ _ λe ρ H j v A z=>zg9 v ⟨j,A,z⟩)
def zM(H:zd)(o:Own)(n sz:Nat):Prop :=
 match o with
 | .no=>False
 | .nil=>n=0
 | .full=>True
 | .tip b d=>H b=some (.tip (d+n) sz)
def Kept(H:zd)(o:Own)(H':zd):Prop:=∀b x,H b=some x->(∀d,o≠.tip b d)->H' b=some x
def zdR(H:zd)(o o':Own):Prop:=∀b d,o'=.tip b d->H b=none∨∃f,o=.tip b f
def zM.nil(H:zd)(sz:Nat):zM H .nil 0 sz:=rfl
def zM.full(H:zd)(n sz:Nat):zM H .full n sz:=trivial
def zl0{P:Program}{KP:AV->zd->Prop}{Q:ZV->Env->zd->Prop}{K:List Fr}{ρ:Env}{H:zd}{all l:List yo}{d:Option Nat}{R:List VQ}{sz bytes:Nat}{o o2:Own}{xs p:List (List AV)}(how:zM H o xs.length sz)(L:(xs.length+p.length)*bytes<=140737488355328)(M:xs.length+p.length<=maxLen)(h:∀o' H',zM H' o' (xs.length+p.length) sz->Kept H o H'->zdR H o o'->Qe P KP Q all l K R (ρ.set d (.sl o' sz (xs++p.map (·.map AV.strip1)))) H'):
  goP P KP Q all l K d R ρ sz bytes (.sl o sz xs) (.sl o2 sz p) H:=by
 refine⟨rfl,rfl,L,M,?_⟩;cases o with
 | no=>exact how.elim
 | nil =>
  refine⟨λj=>?_,λj b g=>h _ _ (by simp[zM,zd.upd]) (λc x f y=>?_) (λc v e=>?_)⟩
  ·subst j;have U:xs=[]:=List.eq_nil_of_length_eq_zero how;subst U;exact h .nil H rfl (λb x g _=>g) (λb v e=>by cases e)
  ·have z:c≠b:=λe=>by subst e;rw[g]at f;cases f
   simp[zd.upd,z,f]
  ·cases e;exact .inl g
 | full =>
  refine⟨λj=>?_,λj b g=>h _ _ (by simp[zM,zd.upd]) (λc x f y=>?_) (λc v e=>?_)⟩
  ·subst j;have:=h .full H trivial (λb x g _=>g) (λb v e=>by cases e);simpa using this
  ·have z:c≠b:=λe=>by subst e;rw[g]at f;cases f
   simp[zd.upd,z,f]
  ·cases e;exact .inl g
 | tip b C =>
  refine⟨how,λA W G=>h _ _ (by simp[zM,zd.upd]) (λc x f y=>?_) (λc v e=>?_)⟩
  ·have J:c≠b:=λe=>by subst e;exact y C rfl
   have O:c≠A:=λe=>by subst e;simp[zd.del,J,f]at G
   simp[zd.upd,zd.del,J,O,f]
  ·cases e;by_cases I:A=b
   ·subst I;exact .inr ⟨C,rfl⟩
   ·left;simpa[zd.del,I]using G
def zY.go{P:Program}{f:FuncId}(p:AFn)(I:Rp P f p=true){args:List AV}{H:zd}{R:AV->zd->Prop}(K:args.length<=p.np)(h:∀KP Q,(∀e ρ v j y,(∀i,e≠.exit i)->zx ρ v p.res=some y->yT j v->R (Yz y).strip j->Q e ρ v)->goC P KP Q p.body [] (Xf (yf 0 args)) H):zY P f args H (λe H'=>∃g,e=.ret g/\R g H'):=by
 refine zY.strip ((zY.of_fn (Q:=λe H'=>match e with|.ret g=>R g.strip H'|.pan _=>False) p I K (h _ _ λe ρ v j y J G C A=>?_)).mono λe H' z=>?_)
 ·cases e with
  | exit i=>exact absurd rfl (J i)
  | normal=>simp only[zbc,G];exact⟨j,C,A⟩
  | ret=>simp only[zbc,G];exact⟨j,C,A⟩
 ·cases e with
  | ret g=>exact⟨_,rfl,z⟩
  | pan g=>exact z.elim
def Pv{P:Program}{KP:AV->zd->Prop}{Q:ZV->Env->zd->Prop}{p:List Fr}{ρ:Env}{H:zd}{all l:List yo}{d:Option Nat}{R:List VQ}{f:FuncId}{args:List AV}{j:AV->zd->Prop}(h:zY P f args H (λe H'=>∃g,e=.ret g/\j g H'))(y:∀g H',j g H'->Qe P KP Q all l p R (ρ.set d g) H'):goK P KP Q all l p d R ρ f args H :=
 h.mono λe H' ⟨g,v,z⟩=>by subst v;exact y g H' z
def zY.low{P:Program}{f:FuncId}{args:List AV}{H:zd}{Q:Tf->zd->Prop}(h:zY P f (args.map AV.strip) H Q):zY P f args H Q :=
 λγ w C y v p=>h γ w C y v ⟨by simpa using p.1,λi c A g z=>by
  rw[W5]at g;cases j:args[i]? with
  | none=>simp[j]at g
  | some x=>simp only[j,VF,Y1]at g;subst g;exact(p.2 i x A j z).strip⟩
def Zk.low{P:Program}{f:FuncId}{args:List AV}{r:AV}(h:Zk P f (args.map AV.strip) r):Zk P f args r:=zY.low h
def zia(H:zd):Nm H H:=λ_ _ f=>f
def zmP{f H:zd}{b:Nat}{o:Yr}(h:Nm f H)(j:H b=none):Nm f (H.upd b o):=λc x g=>by
 have p:c≠b:=λe=>by subst e;have:=h _ _ g;rw[j]at this;cases this
 simp only[zd.upd,p,if_false];exact h c x g
structure VD (H0 H:zd) (o:Own) (n sz:Nat):Prop where
 sub:Nm H0 H
 own:zM H o n sz
 new:∀b d,o=.tip b d->H0 b=none
def VD.nil(H:zd)(sz:Nat):VD H H .nil 0 sz:=⟨zia H,rfl,λb d e=>by cases e⟩
def VD.step{H0 H H':zd}{o o':Own}{n j sz:Nat}(h:VD H0 H o n sz)(v:zM H' o' j sz)(y:Kept H o H')(z:zdR H o o'):VD H0 H' o' j sz :=
 ⟨λb x f=>y b x (h.sub b x f) λd e=>(by have:=h.new b d e;rw[f]at this;cases this),v,λb d e=>by
  rcases z b d e with g|⟨p,g⟩
  ·cases f:H0 b with
   | none=>rfl
   | some x=>have:=h.sub b x f;rw[g]at this;cases this
  ·exact h.new b p g⟩
def VD.cast{H0 H:zd}{o:Own}{n f sz:Nat}(h:VD H0 H o n sz)(e:n=f):VD H0 H o f sz:=e▸h
def zM.upd{H:zd}{o:Own}{n sz b:Nat}{x:Yr}(h:zM H o n sz)(g:H b=none):zM (H.upd b x) o n sz:=by
 cases o with
 | tip c d =>
  have f:H c=some (.tip (d+n) sz):=h;have j:c≠b:=λe=>by subst e;rw[g]at f;cases f
  show (H.upd b x) c=_;simp[zd.upd,j,f]
 | no=>exact h
 | nil=>exact h
 | full=>exact h
def VD.upd{H0 H:zd}{o:Own}{n sz b:Nat}{x:Yr}(h:VD H0 H o n sz)(f:H b=none):VD H0 (H.upd b x) o n sz:=⟨zmP h.sub f,h.own.upd f,h.new⟩
def QX{H:zd}{b c:Nat}{x:Yr}(g:H b=none)(f:H c=some x):b≠c:=λe=>by subst e;rw[g]at f;cases f
def Na(c:AV)(f:List AV)(v:AV)(vs:List AV):splice (c::f) 0 (v::vs)=v::splice f 0 vs:=by simp[splice]
def OY(c:AV)(f:List AV)(n:Nat)(vs:List AV):splice (c::f) (n+1) vs=c::splice f n vs:=by simp[splice,Nat.add_right_comm]
def O3(f:List AV):splice f 0 []=f:=by simp[splice]
open Go.ChangeAt Go.ChangeShapes Go.RowKit Go.WideElems Go.WideShapes
def NT:Gh:=λ_=>.imm
section
variable {P:Program} {m:Nat} {t:TypeId}
def TO{γ:Gh}{w:World}{c:AV}{v:Value}(h:Rep γ w c v)(j:v.oneCell'=true):zN γ w [c] [v] :=⟨rfl,λi u f=>by cases i<;>simp at f;subst f;exact j,λi d u g f=>by cases i<;>simp at g f;subst g;subst f;exact h⟩
def addr_add_add(a:Addr)(x y:Nat):(a.add x).add y=a.add (x+y):=by
 unfold Addr.add;by_cases f:x=0
 ·subst f;simp
 ·by_cases g:y=0
  ·subst g;simp[f]
  ·simp[f,g,Nat.add_assoc]
def O1{H:Type}{e:TypeId}:∀ {ds:List (DataW H)} {d:DataW H},d∈ds->∀n∈d.weights P e,n∈DataW.weightsAll P e ds
 | x::ds,d,f,n,hn=>by
  simp only[DataW.weightsAll,List.mem_append];rcases List.mem_cons.1 f with rfl|f
  ·exact .inl hn
  ·exact .inr (O1 f n hn)
def flds(P:Program)(t:TypeId):Option (List (Nat×TypeId)) :=
 match P.underlying t with
 | some (.struct fs)=>some (fs.toList.map λf=>(f.offset,f.type))
 | _=>none
def KI{P:Program}{t:TypeId}{l:List (Nat×TypeId)}(h:flds P t=some l):∃f:Array Field,P.underlying t=some (.struct f)/\f.toList.map (λg=>(g.offset,g.type))=l:=by
 unfold flds at h;split at h
 ·rename_i f hf;simp only[Y1]at h;exact⟨f,hf,h⟩
 ·cases h
end
def isAgg{P:Program}{g:World}{r:Reach}{b:Nat}{t:TypeId}{v:Value}{l:List (Nat×TypeId)}(j:flds P t=some l)(h:Value.okWide P g r b t v):∃f,v=.agg f:=by obtain⟨p,hf,_⟩:=KI j;simp only[Value.okWide,hf]at h;obtain⟨f,rfl,_⟩:=h;exact⟨f,rfl⟩
def sized{P:Program}{H:Type}{ts:List TypeId}{ds:List (DataW H)}(h:(DataW.weightsEach P ts ds).all (·<=reachBytes)=true){j:Nat}{t:TypeId}{d:DataW H}(p:ts[j]?=some t)(f:ds[j]?=some d):∀n∈d.weights P t,n<=reachBytes:=λn g=>by have:=Yh.1 h n (DataW.weights_mem_each p f n g);simpa using this
def Qp{P:Program}{H:Type}{enc:TypeId×Value->H}(y:laidOutB P=true){p v:World}{z:Nat->Bool}:∀ {ts:List TypeId} {vs:List Value} {ds:List (DataW H)} {j:List MemPlace},
  (∀t∈ts,P.readableRec t=true/\t<P.types.size)->DataW.TrodAll enc P p 0 (λ_=>true) true ts vs ds j->(∀f∈j,p.sameAt v f)->(∀f∈j,z f.block=true)->DataW.TrodAll enc P v 0 z true ts vs ds j
 | [],_,_,_,_,h,_,_=>by obtain⟨rfl,rfl,rfl⟩:=trodAll_nil h;exact rfl
 | t::ts,_,_,_,hr,h,hs,hsp=>by obtain⟨J,K,d,I,a,b,rfl,rfl,rfl,A,C⟩:=trodAll_cons h;exact⟨a,b,Trod_stays y (hr t (YS ..)).1 (hr t (YS ..)).2 A (λf g=>hs f (Wf _ g)) (λf g=>hsp f (Wf _ g)),Qp y (λt G=>hr t (YN _ G)) C (λf g=>hs f (List.mem_append_right _ g)) (λf g=>hsp f (List.mem_append_right _ g)),rfl⟩
def Oj{P:Program}{H:Type}{enc:TypeId×Value->H}{f:Func}{s:ChangeSpec}{apart fresh U again:Bool}{p y:World}{args:Array Value}{v:Value}{ds z:List (DataW H)}{before pa pv:List MemPlace}(C:DataW.Whole enc P f.params.toList s.vars apart p args.toList ds z before)(K:∀(b:Nat) (sp:Nat->Bool) (W:Bool),DataW.TrodAll enc P y b sp W f.resultTypes.toList (v.resultList f.resultTypes.size) (s.fn H (ds++z)).results [])(G:∀sp:Nat->Bool,(∀g∈before,sp g.block=true)->DataW.TrodAll enc P y 0 sp true f.params.toList args.toList (s.fn H (ds++z)).args pa)(L:∀sp:Nat->Bool,(∀g∈before,sp g.block=true)->DataW.TrodVars enc P y sp s.vars (s.fn H (ds++z)).vars pv)(A:before=pa++pv)(Y:p.keptBut y (·∈before))(X:∀a,a.block<p.heap.size->y.frozen? a=p.frozen? a)(aa:∀(j:Nat) (t:TypeId) (r:Value),f.resultTypes[j]?=some t->(v.resultList f.resultTypes.size)[j]?=some r->Value.okWide P y .any 0 t r):
  s.post enc P f apart fresh U again p args v y:=by
 have I:∀g∈before,g.block<p.heap.size:=λg h=>C.lt g h;have hold:∀g∈before,(λb=>decide (b<p.heap.size)) g.block=true:=λg h=>by simpa using I g h
 refine⟨ds,z,before,[],pa,pv,C,K _ _ _,G _ hold,L _ hold,World.keptBut_mono (λg h=>⟨h,?_⟩) Y,λ_=>?_⟩
 ·rw[A,List.mem_append]at h;exact Or.inr h
 ·obtain⟨_,_,_,_,_,ab,Z⟩:=C;refine⟨aa,_,_,([]++pa)++pv,⟨[]++pa,pv,trodAll_append (G _ (λ_ _=>rfl)) (K _ _ _),L _ (λ_ _=>rfl),rfl,?_,?_⟩,?_⟩
  ·intro b M h;have J:MemPlace.cell b M∈before:=by rw[A];simpa using h
   rw[X _ (I _ J)];exact ab b M J
  ·intro O;have:=Z O;rw[A]at this;simpa using this
  ·intro g h _;rw[A];simpa using h
def zaK{P:Program}{f:FuncId}{fn:Func}{s:ChangeSpec}{apart fresh ac again:Bool}{H:Type}{enc:TypeId×Value->H}{g:World}{args:Array Value}{ds K:List (DataW H)}{before:List MemPlace}{tb:TypeId}(ad:laidOutB P=true)(Y:s.vars=[])(ah:∀t∈fn.params.toList,P.readableRec t=true/\t<P.types.size)(U:fn.resultTypes=#[tb])(X:P.underlying tb=some .bool)(z:DataW.Whole enc P fn.params.toList s.vars apart g args.toList ds K before)(G:s.fn H (ds++K)={ results:=[.lit (.bool true)],args:=ds }){J:List AV}(ak:UO NT g)(ai:Ze NT g J args.toList)(af:Zk P f J (.bool true)):
  Calls P f args g λe h=>∃v,e=.returned v/\s.post enc P fn apart fresh ac again g args v h:=by
 have L:=af NT g args.toList ak (λb o A=>by simp[zd.emp]at A) ai;have ab:args.toList.toArray=args:=by simp
 rw[ab]at L;refine L.mono λe h ⟨γ',H',r,p,_,_,C,ag,_⟩=>?_;subst ag;cases e with
 | panicked am=>exact C.elim
 | outgrown=>exact C.elim
 | returned v =>
  have al:Rep γ' h (.bool true) v:=C;cases al;refine⟨_,rfl,?_⟩;have O:∀b,b<g.heap.size->h.heap[b]?=g.heap[b]?:=λb A=>(p.frame b A (by simp[zd.emp])).2;obtain⟨I,q,aa,M,rfl,ao,ap⟩:=id z;rw[Y]at M;obtain⟨rfl,rfl⟩:=trodVars_none M;have ae:∀x∈I,x.block<g.heap.size:=λx j=>z.lt x (Wf _ j);have aj:∀x∈I,g.sameAt h x:=λx j=>by
   have y:=O _ (ae x j);cases x with
   | cell b aq =>simp only[MemPlace.block]at y;simp only[World.sameAt,World.cell?,y]
   | map b=>exact y
  refine Oj (pa:=I) (pv:=[]) z (λb Z an=>?_) (λZ W=>?_) (λZ W=>?_) rfl ⟨p.os,p.output,λi hi=>?_⟩ p.frozen ?_
  ·rw[U,G];exact trodAll_mk1 (shut_bool X true)
  ·rw[G];exact Qp ad ah aa aj λx j=>W x (Wf _ j)
  ·rw[G,Y];exact rfl
  ·rw[O i hi];cases g.heap[i]? with
   | none=>rfl
   | some o=>cases o<;>first|exact⟨rfl,rfl,rfl,λ_ _=>rfl⟩|exact .inr ⟨rfl,rfl⟩|rfl
  ·exact ok_one U rfl (okWide_bool_mk X true)
end Go.Ab
namespace Go.Ab
def Wl(ρ:Env):List (Nat×AV)->Env
 | []=>ρ
 | (d,v)::r=>(Wl ρ r).set (some d) v
def Lg(ρ:Env):Wl ρ []=ρ:=rfl
def OT(ρ:Env)(d:Nat)(v:AV)(r:List (Nat×AV)):Wl ρ ((d,v)::r)=(Wl ρ r).set (some d) v:=rfl
section
variable {P:Program} {KP:AV->zd->Prop} {Q:ZV->Env->zd->Prop} {st:List Fr} {ρ:Env} {H:zd} {keep:List Nat} {b:AC}
def zJ{f:Env->zd->Prop}{a b:Env}{H:zd}(h:f a H)(e:b=a):f b H:=e▸h
def ZZ{σ:Type}(m:σ->List (Nat×AV))(g:σ->zd->Prop)(meas:σ->Nat)(j:σ)(G:ρ.keep keep=(Wl ρ (m j)).keep keep)(y:g j H)(I:∀s H' h,g s H'->(∀f p,meas f<meas s->g f p->h ((Wl ρ (m f)).keep keep) p)->goC P KP Q b (.rep keep h::st) ((Wl ρ (m s)).keep keep) H'):goL P KP Q keep b st ρ H:=by
 refine zjN (λn v H'=>∃s,n=meas s/\v=(Wl ρ (m s)).keep keep/\g s H') (meas j) ⟨j,rfl,G,y⟩ ?_;rintro n v H' h ⟨s,rfl,rfl,J⟩ C;exact I s H' h J λf p z A=>C _ _ _ z ⟨f,rfl,rfl,A⟩
def Sm{σ:Type}{keep:List Nat}{a b:AC}(m:σ->List (Nat×AV))(g:σ->zd->Prop)(p:∀j,(∀s H',g s H'->j ((Wl ρ (m s)).keep keep) H')->goC P KP Q a (.rep keep j::st) ρ H)(v:∀s H',g s H'->goC P KP Q b st ((Wl ρ (m s)).keep keep) H'):goU P KP Q keep a b st ρ H :=
 ⟨λh H'=>∃s,h=(Wl ρ (m s)).keep keep/\g s H',p (λh H'=>∃s,h=(Wl ρ (m s)).keep keep/\g s H') λs H' f=>⟨s,rfl,f⟩,λh H' f=>by obtain⟨s,e,f⟩:=f;rw[e];exact v s H' f⟩
def zc{α σ:Type}(l:List α)(p:Nat)(m:σ->List (Nat×AV))(j:List α->List α->σ->zd->Prop)(A:σ)(L:ρ.keep keep=(Wl ρ ((p,.int .i64 0)::m A)).keep keep)(C:j [] l A H)(J:∀s H' h,j l [] s H'->¬ ((l.length:Int)<l.length)->goC P KP Q b (.rep keep h::st) ((Wl ρ ((p,.int .i64 l.length)::m s)).keep keep) H')(M:∀f x g s H' h,l=f++x::g->(f.length:Int)<l.length->f.length<l.length->j f (x::g) s H' -> (∀z y,j (f++[x]) g z y->h ((Wl ρ ((p,.int .i64 ((f.length:Int)+1))::m z)).keep keep) y)->goC P KP Q b (.rep keep h::st) ((Wl ρ ((p,.int .i64 f.length)::m s)).keep keep) H'):goL P KP Q keep b st ρ H:=by
 refine ZZ (σ:=List α×List α×σ) (λs=>(p,.int .i64 s.1.length)::m s.2.2) (λs H'=>l=s.1++s.2.1/\j s.1 s.2.1 s.2.2 H') (λs=>s.2.1.length) ([],l,A) (by simpa using L) ⟨rfl,C⟩ ?_;rintro⟨f,g,s⟩ H' h ⟨v,hi⟩ I;cases g with
 | nil =>simp only[List.append_nil]at v;subst v;exact J s H' h hi (by omega)
 | cons x g =>
  have G:f.length<l.length:=by rw[v];simp
  refine M f x g s H' h v (by omega) G hi λz y K=>?_;have:=I (f++[x],g,z) y (by simp) ⟨by simp[v],K⟩;simpa using this
end
section
variable {P:Program} {KP:AV->zd->Prop} {Q:ZV->Env->zd->Prop} {st:List Fr} {ρ:Env} {H:zd} {all l:List yo} {d:Option Nat} {R:List VQ}
def goW(P:Program)(KP:AV->zd->Prop)(Q:ZV->Env->zd->Prop)(all l:List yo)(g:List Fr)(d:Option Nat)(R:List VQ)(ρ:Env)(v:AV)(args:List AV)(H:zd):Prop :=
 match v with
 | .clo f first caps=>Program.callable P f=true/\goK P KP Q all l g d R ρ f (first++args++caps) H
 | _=>False
def zfM(g:yY)(args:List yY):goO P KP Q all l st d (.callv g args) R ρ H=goW P KP Q all l st d R ρ (g.ev ρ) (args.map (yY.ev ρ)) H:=by simp only[goO,TZ,XQ.cls,eff,goW,goK];cases g.ev ρ<;>rfl
def zeV(f:FuncId)(first g args:List AV):goW P KP Q all l st d R ρ (.clo f first g) args H=(Program.callable P f=true/\goK P KP Q all l st d R ρ f (first++args++g) H):=rfl
def goN(KP:AV->zd->Prop)(v:AV)(H:zd):Prop :=
 match v with
 | .ifc t y=>KP (.ifc t y) H
 | _=>False
def znS(x:yY):goO P KP Q all l st d (.pan x) R ρ H=goN KP (x.ev ρ) H:=by simp only[goO,TZ,XQ.cls,eff,goN];cases x.ev ρ<;>rfl
def zeR(t:TypeId)(y:AV):goN KP (.ifc t y) H=KP (.ifc t y) H:=rfl
def goM(P:Program)(KP:AV->zd->Prop)(Q:ZV->Env->zd->Prop)(all l:List yo)(g:List Fr)(d:Option Nat)(R:List VQ)(ρ:Env)(f:KT)(b:Nat)(k v:AV)(H:zd)(o:Option Yr):Prop :=
 match o with
 | some (.map kt' es)=>kt'=f/\f.fits k=true/\Qe P KP Q all l g R (ρ.set d (.tup [])) (H.upd b (.map f (Ti es k v)))
 | _=>False
def zot(P:Program)(KP:AV->zd->Prop)(Q:ZV->Env->zd->Prop)(all l:List yo)(g:List Fr)(d:Option Nat)(R:List VQ)(ρ:Env)(f:KT)(m k v:AV)(H:zd):Prop :=
 match m with
 | .mp b=>goM P KP Q all l g d R ρ f b k v H (H b)
 | _=>False
def znp(f:KT)(m k v:yY):goO P KP Q all l st d (.mup f m k v) R ρ H=zot P KP Q all l st d R ρ f (m.ev ρ) (k.ev ρ) (v.ev ρ) H:=by simp only[goO,TZ,XQ.cls,eff,zot,goM];cases m.ev ρ<;>rfl
def zeH(f:KT)(b:Nat)(k v:AV):zot P KP Q all l st d R ρ f (.mp b) k v H=goM P KP Q all l st d R ρ f b k v H (H b):=rfl
def zfn(f g:KT)(b:Nat)(es:List (AV×AV))(k v:AV):goM P KP Q all l st d R ρ f b k v H (some (.map g es))=(g=f/\f.fits k=true/\Qe P KP Q all l st R (ρ.set d (.tup [])) (H.upd b (.map f (Ti es k v)))):=rfl
def zY.goO{P:Program}{f:FuncId}(v:AFn)(I:Rp P f v=true){args:List AV}{H:zd}{R z:AV->zd->Prop}(L:args.length<=v.np)(h:∀KP Q,(∀e ρ p j A,(∀i,e≠.exit i)->zx ρ p v.res=some A->yT j p->R (Yz A) j->Q e ρ p)->(∀g p j,yT j p->z g j->KP g p)->goC P KP Q v.body [] (Xf (yf 0 args)) H):
  zY P f args H (λe H'=>match e with|.ret g=>R g H'|.pan g=>z g H'):=by
 refine zY.of_fn (Q:=λe H'=>match e with|.ret g=>R g H'|.pan g=>z g H') v I L (h _ _ (λe ρ p j A J G C y=>?_) λg p j K y=>⟨j,K,y⟩);cases e with
 | exit i=>exact absurd rfl (J i)
 | normal=>simp only[zbc,G];exact⟨j,C,y⟩
 | ret=>simp only[zbc,G];exact⟨j,C,y⟩
def ZT{f:FuncId}{args:List AV}{j XP:AV->zd->Prop}(h:zY P f args H (λe H'=>match e with|.ret g=>j g H'|.pan g=>XP g H'))(v:∀g H',j g H'->Qe P KP Q all l st R (ρ.set d g) H')(y:∀g H',XP g H'->KP g H'):
  goK P KP Q all l st d R ρ f args H :=
 h.mono λe H' p=>by cases e with|ret g=>exact v g H' p|pan g=>exact y g H' p
end
structure zQ (H:zd) (o:Own) (H':zd) (o':Own) (n sz:Nat):Prop where
 own:zM H' o' n sz
 kept:Kept H o H'
 new:zdR H o o'
def zQ.refl{H:zd}{o:Own}{n sz:Nat}(h:zM H o n sz):zQ H o H o n sz:=⟨h,λb x f _=>f,λb d e=>.inr ⟨d,e⟩⟩
def zQ.trans{H p v:zd}{o o1 o2:Own}{n A sz:Nat}(h:zQ H o p o1 n sz)(h':zQ p o1 v o2 A sz):zQ H o v o2 A sz:=by
 refine⟨h'.own,λb x g y=>h'.kept b x (h.kept b x g y) λd e=>?_,λb d e=>?_⟩
 ·rcases h.new b d e with f|⟨j,f⟩
  ·rw[g]at f;cases f
  ·exact y j f
 ·rcases h'.new b d e with f|⟨j,f⟩
  ·cases g:H b with
   | none=>exact .inl rfl
   | some x =>
    by_cases z:∃d,o=.tip b d
    ·exact .inr z
    ·have:=h.kept b x g (λd e=>z ⟨d,e⟩);rw[f]at this;cases this
  ·exact h.new b j f
def zQ.upd{H f:zd}{o o1:Own}{n sz b:Nat}{x:Yr}(h:zQ H o f o1 n sz)(g:f b=none):zQ H o (f.upd b x) o1 n sz:=by
 refine⟨h.own.upd g,λc y j p=>?_,h.new⟩;have:=h.kept c y j p;have v:c≠b:=λe=>by subst e;rw[g]at this;cases this
 simp only[zd.upd,v,if_false];exact this
def VD.stepS{H0 H H':zd}{o o':Own}{n f sz:Nat}(h:VD H0 H o n sz)(h':zQ H o H' o' f sz):VD H0 H' o' f sz:=h.step h'.own h'.kept h'.new
def zp{P:Program}{KP:AV->zd->Prop}{Q:ZV->Env->zd->Prop}{g:List Fr}{ρ:Env}{H:zd}{all l:List yo}{d:Option Nat}{R:List VQ}{sz bytes:Nat}{o o2:Own}{xs f:List (List AV)}(how:zM H o xs.length sz)(h:(xs.length+f.length)*bytes<=140737488355328)(j:xs.length+f.length<=maxLen)(p:∀o' H',zQ H o H' o' (xs.length+f.length) sz->Qe P KP Q all l g R (ρ.set d (.sl o' sz (xs++f.map (·.map AV.strip1)))) H'):
 goP P KP Q all l g d R ρ sz bytes (.sl o sz xs) (.sl o2 sz f) H:=zl0 how h j λo' H' a b c=>p o' H' ⟨a,b,c⟩
def Z2{α:Type}{f:α->List AV}{l a:List α}{x:α}{b:List α}(h:l=a++x::b):(List.map f l).getD a.length []=f x:=by subst h;simp
def st2:type_of% (And.intro @zfM<|And.intro @zeV<|And.intro @znS<|And.intro @zeR<|And.intro @znp<|And.intro @zeH<|And.intro @zfn<|And.intro @List.append_nil.{0}<|And.intro @Lg<|And.intro @OT<|And.intro @Na<|And.intro @OY<|And.intro @O3<|And.intro @decide_true<|And.intro @decide_false<|And.intro @List.take_succ_cons.{0}<|And.intro @List.take_zero.{0}<|And.intro @List.drop_succ_cons.{0}<|And.intro @List.drop_zero.{0}<|And.intro @List.length_cons.{0}<|And.intro @List.length_nil.{0}<|And.intro @List.take_length.{0}<|And.intro @List.headD_cons.{0}<|And.intro @List.cons_append.{0}<|And.intro @List.nil_append.{0}<|And.intro @Option.map_some.{0,0}<|And.intro @Bool.not_true<|And.intro @Bool.not_false<|And.intro @Bool.false_eq_true<|And.intro @eq_self.{1}<|And.intro @List.replicate_zero.{0}<|And.intro @List.replicate_succ.{0}<|And.intro @List.set_cons_zero.{0}<|And.intro @List.set_cons_succ.{0}<|And.intro @Nat.lt_add_one<|And.intro @Nat.zero_lt_succ<|And.intro @Nat.le_refl<|And.intro @if_pos.{1}<|And.intro @upd_ne<|And.intro @List.getElem?_cons_succ.{0}<|And.intro @List.getElem?_cons_zero.{0}<|And.intro @Option.some.injEq.{0}<|And.intro @Int.cast_ofNat_Int<|And.intro @List.getD_cons_zero.{0}<|And.intro @List.getD_cons_succ.{0}<|And.intro @Int.toNat_natCast<|And.intro @Int.natCast_zero<|And.intro @Int.natCast_eq_zero<|And.intro @Int.zero_add<|And.intro @Int.natCast_nonneg<|And.intro @true_and<|And.intro @and_true<|And.intro @not_false_eq_true<|And.intro @not_true_eq_false<|And.intro @ne_eq.{1}<|And.intro @List.map_nil.{0,0}<|And.intro @List.map_cons.{0,0}<|And.intro @beq_self_eq_true.{0}<|And.intro @implies_true.{0}<|@Bool.true_eq_false) :=And.intro @zfM<|And.intro @zeV<|And.intro @znS<|And.intro @zeR<|And.intro @znp<|And.intro @zeH<|And.intro @zfn<|And.intro @List.append_nil.{0}<|And.intro @Lg<|And.intro @OT<|And.intro @Na<|And.intro @OY<|And.intro @O3<|And.intro @decide_true<|And.intro @decide_false<|And.intro @List.take_succ_cons.{0}<|And.intro @List.take_zero.{0}<|And.intro @List.drop_succ_cons.{0}<|And.intro @List.drop_zero.{0}<|And.intro @List.length_cons.{0}<|And.intro @List.length_nil.{0}<|And.intro @List.take_length.{0}<|And.intro @List.headD_cons.{0}<|And.intro @List.cons_append.{0}<|And.intro @List.nil_append.{0}<|And.intro @Option.map_some.{0,0}<|And.intro @Bool.not_true<|And.intro @Bool.not_false<|And.intro @Bool.false_eq_true<|And.intro @eq_self.{1}<|And.intro @List.replicate_zero.{0}<|And.intro @List.replicate_succ.{0}<|And.intro @List.set_cons_zero.{0}<|And.intro @List.set_cons_succ.{0}<|And.intro @Nat.lt_add_one<|And.intro @Nat.zero_lt_succ<|And.intro @Nat.le_refl<|And.intro @if_pos.{1}<|And.intro @upd_ne<|And.intro @List.getElem?_cons_succ.{0}<|And.intro @List.getElem?_cons_zero.{0}<|And.intro @Option.some.injEq.{0}<|And.intro @Int.cast_ofNat_Int<|And.intro @List.getD_cons_zero.{0}<|And.intro @List.getD_cons_succ.{0}<|And.intro @Int.toNat_natCast<|And.intro @Int.natCast_zero<|And.intro @Int.natCast_eq_zero<|And.intro @Int.zero_add<|And.intro @Int.natCast_nonneg<|And.intro @true_and<|And.intro @and_true<|And.intro @not_false_eq_true<|And.intro @not_true_eq_false<|And.intro @ne_eq.{1}<|And.intro @List.map_nil.{0,0}<|And.intro @List.map_cons.{0,0}<|And.intro @beq_self_eq_true.{0}<|And.intro @implies_true.{0}<|@Bool.true_eq_false
open Go.ChangeAt Go.ChangeShapes Go.RowKit Go.WideElems Go.WideShapes
mutual
def blk{H:Type}:DataW H->Nat
 | .lit (.string bytes)=>bytes.length+1
 | .lit _=>1
 | .nil=>1
 | .ptr d=>blk d+1
 | .slice elems spare=>Wz elems+Wz spare+1
 | .agg parts=>Wz parts+1
 | .iface _ d=>blk d+1
 | .map entries=>zfg entries+1
 | .held _=>1
def Wz{H:Type}:List (DataW H)->Nat
 | []=>0
 | d::r=>blk d+Wz r
def zfg{H:Type}:List (Lit×DataW H)->Nat
 | []=>0
 | x::r=>zdP x+zfg r
def zdP{H:Type}:Lit×DataW H->Nat
 | (.string bytes,d)=>bytes.length+blk d+1
 | (_,d)=>blk d+1
end
def zfQ{H:Type}(d:DataW H):1<=blk d:=by
 cases d with
 | lit l=>cases l<;>simp[blk]
 | nil=>simp[blk]
 | ptr d=>simp[blk]
 | slice elems h=>simp[blk]
 | agg g=>simp[blk]
 | iface t d=>simp[blk]
 | map entries=>simp[blk]
 | held f=>simp[blk]
def LB{H:Type}(l:List (DataW H))(k:Nat)(h:k<l.length):Wz (l.take (k+1))=Wz (l.take k)+blk (l.getD k .nil):=by
 induction l generalizing k with
 | nil=>simp at h
 | cons d r f =>
  cases k with
  | zero=>simp[Wz]
  | succ k =>simp only[zsW,Wz,List.getD_cons_succ];rw[f k (by simpa using h)];omega
def yi(P:Program)(m:Nat)(t:TypeId)(sz:Nat){α:Type}(f:α->List AV)(ok:α->Prop)(g:α->Nat):Prop :=∀ {H:Type} (enc:TypeId×Value->H) (h:World) (j:List Value) (d:DataW H) (p:List MemPlace),DataW.trod enc P h 0 (λ_=>true) true m t j=some (d,p) -> (∀n∈d.weights P t,n<=reachBytes)->∃a,ok a/\g a<=blk d/\(f a).length=sz/\zN NT h (f a) j
section
variable {P:Program} {m:Nat} {t:TypeId}
def yi.zero{sz:Nat}{α:Type}{f:α->List AV}{ok:α->Prop}{g:α->Nat}:yi P 0 t sz f ok g:=λenc j p d v h _=>by simp[DataW.trod]at h
def yi.int{k:IntKind}(h:P.underlying t=some (.int k)):yi P m t 1 (λn:Int=>[.int k n]) (λn=>(Lit.int k n).wf=true) (λ_=>1):=by intro H enc p v d y g _;obtain⟨n,rfl,f,j⟩:=DataW.trod_int h g;simp only[Al8]at f;obtain⟨rfl,rfl⟩:=f;exact⟨n,j,ZG _,rfl,TO (.int k n) rfl⟩
def yi.bool(h:P.underlying t=some .bool):yi P m t 1 (λb:Bool=>[.bool b]) (λ_=>True) (λ_=>1):=by intro H enc j p d v g _;obtain⟨b,rfl,f⟩:=DataW.trod_bool h g;simp only[Al8]at f;obtain⟨rfl,rfl⟩:=f;exact⟨b,trivial,ZG _,rfl,TO (.bool b) rfl⟩
def yi.str(h:P.underlying t=some .string):yi P m t 1 (λs:List UInt8=>[.str s]) (λs=>s.length<=reachBytes) (λs=>s.length+1):=by intro H enc p v d z g j;obtain⟨s,rfl,f,y⟩:=DataW.trod_string h g;simp only[Al8]at f;obtain⟨rfl,rfl⟩:=f;refine⟨s.data.toList,j _ (by simp[DataW.weights]),ZG _,rfl,TO ?_ rfl⟩;exact .str _
def yi.slice{e:TypeId}{sz B:Nat}{α:Type}{f:α->List AV}{ok:α->Prop}{g:α->Nat}(ac:P.underlying t=some (.slice e))(ai:P.bytesOf e=B)(hsz:P.cellsOf e=sz)(ax:0<sz)(an:yi P m e sz f ok g):
  yi P (m+1) t 1 (λl:List α=>[.sl .no sz (l.map f)]) (λl=>l.length*B<=reachBytes/\l.length<=maxLen/\∀x∈l,ok x) (λl=>(l.map g).sum+1):=by
 intro H enc v a8 d bg X ag;rcases DataW.trod_slice ac X with ⟨rfl,_⟩|⟨a,J,cap,elems,a7,n,au,rfl,y,a9,be,al,ao,ad,a0,_⟩
 ·exact⟨[],⟨by simp,by simp,by simp⟩,by simp[zfQ],rfl,TO (.slnil .no sz (by simp)) rfl⟩
 ·cases au;simp only[Al8]at y;obtain⟨rfl,rfl⟩:=y;obtain⟨bf,ay⟩:=a0 rfl;subst hsz;have a2:∀A∈elems,∀n∈A.1.weights P e,n<=reachBytes:=λA p n aw=>ag n (by simp only[DataW.weights,ac,List.mem_cons,List.mem_append];exact .inr (.inl (O1 (List.mem_map_of_mem p) n aw)));have aq:J*P.bytesOf e<=reachBytes:=by have:=ag ((elems.length+a7.length)*P.bytesOf e) (by simp[DataW.weights,ac]);rw[ao]at this;exact Nat.le_trans (Nat.mul_le_mul_right _ (Nat.le_add_right _ _)) this
  have each:∀i,i<J->∃(x:α) (us:List Value),ok x/\g x<=blk ((elems.map (·.1)).getD i .nil)/\(f x).length=P.cellsOf e/\zN NT v (f x) us/\(∀h,h<P.cellsOf e->v.cell? (a.add (i*P.cellsOf e+h))=us[h]?)/\us.length=P.cellsOf e:=by
   intro i hi;have G:=ad i hi;have aa:i<elems.length:=by omega
   rw[Qh aa,Option.bind_eq_some_iff]at G;obtain⟨us,a1,am⟩:=G;obtain⟨x,hx1,a5,a3,a4⟩:=an enc v us elems[i].1 elems[i].2 am (a2 _ (List.getElem_mem aa));obtain⟨_,I,Z⟩:=World.cells?_some a1;refine⟨x,us,hx1,by simpa[aa]using a5,a3,a4,λh K=>?_,I⟩;have:=Z h K
   rwa [addr_add_add]at this
  rcases Nat.eq_zero_or_pos cap with aj|ba
  ·have ab:J=0:=by omega
   subst ab;subst aj;exact⟨[],⟨by simp,by simp,by simp⟩,by simp[zfQ],rfl,TO (.sl0 .no _ a (.inl rfl)) rfl⟩
  ·-- some cell is read: the address is plain
   have ae:a.spot=none:=by
    have G:∃us,v.cells? 0 (a.add 0) (P.cellsOf e)=some us:=by
     rcases Nat.eq_zero_or_pos J with ab|ar
     ·have C:=ay 0 (by omega);rw[Qh (by omega),Option.bind_eq_some_iff]at C;obtain⟨us,j,_⟩:=C;rw[ab]at j;simp only[Nat.add_zero,Nat.zero_mul]at j;exact⟨us,j⟩
     ·have C:=ad 0 ar;rw[Qh (by omega),Option.bind_eq_some_iff]at C;obtain⟨us,j,_⟩:=C;simp only[Nat.zero_mul]at j;exact⟨us,j⟩
    obtain⟨us,G⟩:=G;obtain⟨_,I,Z⟩:=World.cells?_some G;have j:=Z 0 ax;have ah:(a.add 0).add 0=a:=rfl;rw[ah]at j;have z:(v.cell? a).isSome=true:=by rw[j,Qh (by omega)];rfl
    unfold World.cell? at z;split at z
    ·split at z
     ·cases z
     ·rename_i az;cases O:a.spot with
      | none=>rfl
      | some s=>simp[O]at az
    ·cases z
   obtain⟨b,M,bh⟩:=a;simp only at ae;subst ae;have ak:∀k,k<=J->∃l:List α,l.length=k/\(l.map g).sum<=Wz ((elems.map (·.1)).take k)/\∀i x,l[i]?=some x->ok x/\(f x).length=P.cellsOf e/\∃us:List Value,zN NT v (f x) us/\(∀h,h<P.cellsOf e->v.cell? (Addr.add ⟨b,M,none⟩ (i*P.cellsOf e+h))=us[h]?)/\us.length=P.cellsOf e:=by
    intro k;induction k with
    | zero=>intro _;exact⟨[],rfl,by simp,by simp⟩
    | succ k a6 =>
     intro bd;obtain⟨l,I,af,L⟩:=a6 (by omega);obtain⟨x,us,G,bc,C,j,z,O⟩:=each k (by omega);refine⟨l++[x],by simp[I],?_,λi A p=>?_⟩
     ·rw[List.map_append,List.sum_append,LB _ k (by simp;omega)];simp only[List.map_cons,List.map_nil,List.sum_cons,List.sum_nil];omega
     rcases Nat.lt_or_ge i l.length with hi|hi
     ·rw[SA hi]at p;exact L i A p
     ·rw[Ow hi]at p;have:i=l.length:=by
       rcases Nat.lt_or_ge 0 (i-l.length)with X|X
       ·rw[List.getElem?_eq_none (by simp;omega)]at p;cases p
       ·omega
      subst this;simp at p;subst p;exact⟨G,C,us,j,by rw[I];exact z,O⟩
   obtain⟨l,I,af,L⟩:=ak J (ZG _);refine⟨l,⟨by rw[I,<-ai];exact aq,by omega,λx y=>?_⟩,?_,rfl,TO ?_ rfl⟩
   ·obtain⟨i,hi⟩:=List.mem_iff_getElem?.1 y;exact(L i x hi).1
   ·rw[List.take_of_length_le (by simp;omega)]at af;simp only[blk];omega
   ·have av:(l.map f).length=J:=by simp[I]
    rw[<-av];refine .sl .no _ (l.map f) b M cap (λi h=>(v.cell? ⟨b,M+(i*P.cellsOf e+h),none⟩).getD undef) (by omega) al (λx y=>?_) (λi x y h K=>?_) (λi x y h c K=>?_) trivial
    ·obtain⟨A,p,rfl⟩:=List.mem_map.1 y;obtain⟨i,hi⟩:=List.mem_iff_getElem?.1 p;exact(L i A hi).2.1
    ·simp only[W5,SV]at y;obtain⟨A,p,rfl⟩:=y;obtain⟨_,C,us,j,z,O⟩:=L i A p;have Y:=z h K;have U:us[h]?=some us[h]:=Qh (by omega);have W:v.cell? ⟨b,M+(i*P.cellsOf e+h),none⟩=some us[h]:=by rw[<-U,<-Y,addr_add]
     refine⟨by rw[W];rfl,trivial,?_⟩;rw[W];exact j.2.1 h _ U
    ·simp only[W5,SV]at y;obtain⟨A,p,rfl⟩:=y;obtain⟨_,C,us,j,z,O⟩:=L i A p;have ap:h<P.cellsOf e:=by have:=(Vj.1 K).1;omega
     have Y:=z h ap;have U:us[h]?=some us[h]:=Qh (by omega);have W:v.cell? ⟨b,M+(i*P.cellsOf e+h),none⟩=some us[h]:=by rw[<-U,<-Y,addr_add]
     show Rep NT v c ((v.cell? ⟨b,M+(i*P.cellsOf e+h),none⟩).getD undef);rw[W];exact j.2.2 h c _ K U
def z7(P:Program)(m:Nat)(y:Nat)(p:List (Nat×TypeId))(sz:Nat){α:Type}(f:α->List AV)(ok:α->Prop)(z:α->Nat):Prop :=
 ∀ {H:Type} (enc:TypeId×Value->H) (v:World) (j:List Value) (h:List (DataW H×List MemPlace)),
  (∀(i:Nat) (g:Nat×TypeId),p[i]?=some g->DataW.trod enc P v 0 (λ_=>true) true m g.2 ((j.drop g.1).take (P.cellsOf g.2))=h[i]?)->h.length=p.length ->
  (∀n∈DataW.weightsEach P (p.map (·.2)) (h.map (·.1)),n<=reachBytes)->y+sz<=j.length->∃a,ok a/\z a<=Wz (h.map (·.1))/\(f a).length=sz/\zN NT v (f a) ((j.drop y).take sz)
def z7.nil{f:Nat}:z7 P m f [] 0 (λ_:Unit=>[]) (λ_=>True) (λ_=>0):=by intro H enc g h j _ _ _ _;exact⟨(),trivial,Nat.zero_le _,rfl,rfl,by simp,by simp⟩
def z7.cons{j sz y:Nat}{u:TypeId}{I:List (Nat×TypeId)}{α β:Type}{f:α->List AV}{ok:α->Prop}{G:β->List AV}{ok':β->Prop}{g:α->Nat}{v:β->Nat}(hsz:P.cellsOf u=sz)(h:yi P m u sz f ok g)(h':z7 P m (j+sz) I y G ok' v):
  z7 P m j ((j,u)::I) (sz+y) (λx:α×β=>f x.1++G x.2) (λx=>ok x.1/\ok' x.2) (λx=>g x.1+v x.2):=by
 intro H enc C p ab L J K af;cases ab with
 | nil=>simp at J
 | cons M ac =>
  have z:=L 0 (j,u) rfl;rw[hsz]at z;simp only[List.getElem?_cons_zero]at z;obtain⟨a,O,ad,U,W⟩:=h enc C _ M.1 M.2 z (λn A=>K n (by simp only[List.map_cons,DataW.weightsEach,List.mem_append];exact .inl A));obtain⟨b,X,ae,Y,Z⟩:=h' enc C p ac (λi v aa=>by have:=L (i+1) v (by simpa using aa);simpa using this) (by simpa using J) (λn A=>K n (by simp only[List.map_cons,DataW.weightsEach,List.mem_append];exact .inr A)) (by omega);refine⟨(a,b),⟨O,X⟩,by simp only[List.map_cons,Wz];omega,by simp[U,Y],?_⟩;have e:(p.drop j).take (sz+y)=(p.drop j).take sz++(p.drop (j+sz)).take y:=by rw[List.take_add,List.drop_drop]
  rw[e];exact W.append Z
def yi.struct{z:List (Nat×TypeId)}{sz:Nat}{α β:Type}{f:α->List AV}{ok:α->Prop}{A:α->Nat}(h:z7 P m 0 z sz f ok A)(aa:flds P t=some z)(hsz:P.cellsOf t=sz)(g:β->List AV)(ok':β->Prop)(p:β->Nat)(k:α->β)(C:∀a,g (k a)=f a)(Z:∀a,ok a->ok' (k a))(X:∀a,p (k a)<=A a+1):
  yi P (m+1) t sz g ok' p:=by
 intro H enc K L d ag W ab;obtain⟨M,G,y⟩:=KI aa;obtain⟨ac,n,Y,J,af,hlen,hf⟩:=DataW.trod_struct G W;cases Y;simp only[Al8]at J;obtain⟨rfl,rfl⟩:=J;obtain⟨a,O,ae,U,v⟩:=h enc K L ac (λi p j=>by
   rw[<-y,W5]at j;cases hi:M.toList[i]? with
   | none=>simp[hi]at j
   | some ad=>simp only[hi,VF,Y1]at j;subst j;exact hf i ad (by simpa using hi)) (by rw[<-y];simpa using hlen) (λn I=>ab n (by
   rw[<-y,List.map_map]at I;simpa[DataW.weights,G,Function.comp_def]using I)) (by omega)
 refine⟨k a,Z a O,by have:=X a;simp only[blk];omega,by rw[C];exact U,?_⟩;rw[C];simp only[List.drop_zero]at v;rw[List.take_of_length_le (by omega)]at v;exact v
def yi.argS{sz:Nat}{α:Type}{f:α->List AV}{ok:α->Prop}{g:α->Nat}(h:∀m,yi P m t sz f ok g){H:Type}{enc:TypeId×Value->H}{p:World}{v:Array Value}{d:DataW H}{y:List MemPlace}(C:DataW.Trod enc P p 0 (λ_=>true) true t (.agg v) d y)(I:∀n∈d.weights P t,n<=reachBytes):∃a,ok a/\g a<=blk d/\Rep NT p (.agg (f a)) (.agg v):=by
 obtain⟨n,G⟩:=C;obtain⟨a,z,A,J,j⟩:=h n enc p _ d y G I;simp only[Value.cells]at j;have:=Rep.agg (f a) v.toList j.1 j.2.1 j.2.2;exact⟨a,z,A,by simpa using this⟩
end
end Go.Ab
namespace Go.Ab
attribute [push_cast] steps st2 Yy rev X8 Z9 Yi YO YP bound Zc WJ mk yf AV.cells AV.boxable AV.one AV.strip1 AV.strip2 Zb y7
end Go.Ab
def yw{p:Prop}(e:p:=by kernel_rfl):p:=e
namespace Go.Ab
def ZY(_:Unit):List (Nat×AV):=[]
attribute [go_sem] ZY
def W4{H:zd}{b c:Nat}{x:Yr}(h:H b=some x)(g:H c=none):b≠c:=λe=>by subst e;rw[h]at g;cases g
attribute [go_sem] steps st2 Yy rev X8 Z9 Yi YO YP bound Zc WJ mk yf AV.cells AV.boxable AV.one AV.strip1 AV.strip2 Zb y7 Nat.reduceEqDiff reduceCtorEq Nat.reduceAdd Int.reduceNeg Nat.reduceLeDiff Int.reduceToNat Int.reduceEq Int.reduceLT Int.reduceLE Int.reduceAdd
attribute [go_sem ↓] reduceIte
abbrev AV.i(n:Int):AV:=.int .i64 n
abbrev AV.e:AV:=.str []
abbrev AV.n(k:Nat):AV:=.sl .nil k []
inductive IC where
 | one (f:Nat->XQ)
 | two (f g:Nat->XQ)
 | con (x:yo)
 | it (f:Nat->yo)
def IC.op:IC->Nat->XQ
 | .one f,n=>f n
 | .two f _,n=>f n
 | .con x,_=>x.op
 | .it f,n=>(f n).op
def LJ:Nat->List IC->List yo
 | _,[]=>[]
 | n,.one f::r=>⟨some n,none,f n,[]⟩::LJ (n+1) r
 | n,.two f g::r=>⟨some n,none,f n,[]⟩::⟨some (n+1),none,g n,[]⟩::LJ (n+2) r
 | n,.con x::r=>x::LJ n r
 | n,.it f::r=>f n::LJ (n+1) r
namespace W
abbrev m(a:Nat):IC:=.one λ_=>.mv (.t a)
abbrev M:IC:=.one λn=>.mv (.t (n-1))
abbrev z(x:yY):IC:=.one λ_=>.mv x
abbrev f(k s:Nat):IC:=.one λ_=>.fa k (.t s)
abbrev F(k:Nat):IC:=.one λn=>.fa k (.t (n-1))
abbrev v(k s:Nat):IC:=.two (λ_=>.fa k (.t s)) λn=>.ld 1 false (.t n)
abbrev V(k:Nat):IC:=.two (λn=>.fa k (.t (n-1))) λn=>.ld 1 false (.t n)
abbrev l(c s:Nat):IC:=.one λ_=>.ld c false (.t s)
abbrev L(c:Nat):IC:=.one λn=>.ld c false (.t (n-1))
abbrev b(c s:Nat):IC:=.one λ_=>.ld c true (.t s)
abbrev B(c:Nat):IC:=.one λn=>.ld c true (.t (n-1))
abbrev N:IC:=.one λn=>.len (.t (n-1))
abbrev G:IC:=.one λn=>.not (.t (n-1))
abbrev x(s:Nat):IC:=.one λ_=>.boxv (.t s)
abbrev E(s k:Nat):IC:=.one λ_=>.ext (.t s) k
abbrev d(a:Nat)(i:Int):IC:=.one λ_=>.bi .add .i64 (.t a) (.k (.int .i64 i))
abbrev D(i:Int):IC:=.one λn=>.bi .add .i64 (.t (n-1)) (.k (.int .i64 i))
abbrev q(a:Nat)(i:Int):IC:=.one λ_=>.bi .eql .i64 (.t a) (.k (.int .i64 i))
abbrev Q(i:Int):IC:=.one λn=>.bi .eql .i64 (.t (n-1)) (.k (.int .i64 i))
abbrev S(a b:Nat):IC:=.one λ_=>.bi .lss .i64 (.t a) (.t b)
abbrev T:IC:=.one λn=>.bi .lss .i64 (.t (n-1)) (.t (n-2))
abbrev p(a:Nat):IC:=.one λn=>.pick (.t a) (.t (n-1)) (.k (.bool false))
abbrev w(a:Nat):IC:=.one λn=>.pick (.t a) (.k (.bool true)) (.t (n-1))
abbrev i(k a b:Nat):IC:=.one λ_=>.ia k (.t a) (.t b)
abbrev a(f:Nat)(l:List Nat):IC:=.one λ_=>.call f (l.map .t)
abbrev o(x:XQ):IC:=.one λ_=>x
abbrev s(k a b:Nat):IC:=.con ⟨none,none,.st k (.t a) (.t b),[]⟩
abbrev c(x:yo):IC:=.con x
abbrev C(x:XQ)(l:List Nat):IC:=.it λn=>⟨some n,none,x,l⟩
abbrev k(d a:Nat):IC:=.con ⟨some d,none,.mv (.t a),[]⟩
abbrev O(d:Nat)(x:XQ):IC:=.con ⟨some d,none,x,[]⟩
abbrev j(g:Nat)(x:IC):IC:=.it λn=>⟨some n,some (g,true),x.op n,[]⟩
abbrev h(g:Nat)(x:IC):IC:=.it λn=>⟨some n,some (g,false),x.op n,[]⟩
abbrev jj(d g:Nat)(x:XQ):IC:=.con ⟨some d,some (g,true),x,[]⟩
abbrev hh(d g:Nat)(x:XQ):IC:=.con ⟨some d,some (g,false),x,[]⟩
abbrev jjc(d g:Nat)(x:XQ)(l:List Nat):IC:=.con ⟨some d,some (g,true),x,l⟩
abbrev hhc(d g:Nat)(x:XQ)(l:List Nat):IC:=.con ⟨some d,some (g,false),x,l⟩
abbrev oc(d:Nat)(x:XQ)(l:List Nat):IC:=.con ⟨some d,none,x,l⟩
abbrev t(a:Nat):yY:=.t a
abbrev J(n:Int):yY:=.k (.int .i64 n)
abbrev e:yY:=.k (.str [])
abbrev n(k:Nat):yY:=.k (.sl .nil k [])
abbrev y:yY:=.k (.bool true)
abbrev I:yY:=.k (.bool false)
abbrev K:AC:=.skip
abbrev R:AC:=.ret
abbrev r(n:Nat)(l:List IC):AC:=.reg [] (LJ n l)
abbrev r0(n:Nat):AC:=.reg [] [⟨some n,none,.mv (.k (.int .i64 0)),[]⟩]
abbrev rz(n:Nat)(x:yY):AC:=.seq (.reg [] [⟨some n,none,.mv x,[]⟩]) .ret
abbrev ru(n:Nat)(l:List IC)(d i:Nat):AC:=.seq (.reg [] (LJ n l)) (.cond (.t d) .skip (.exit i))
def pm(c:List (Nat×Nat)):Nat->Nat->List Nat->List Nat
 | 0,_,_=>[]
 | k+1,p,l=>let v:=(c.lookup p).getD 0;l.getD v 0::pm c k (p+1) (l.eraseIdx v)
abbrev g(c:List (Nat×Nat))(k n:Nat)(l:List IC):AC:=.reg (pm c k 0 (List.range k)) (LJ n l)
abbrev Y(k n:Nat)(l:List IC):AC:=.reg (List.range k) (LJ n l)
def A:AC->List AC->AC
 | a,[]=>a
 | a,b::r=>.seq a (A b r)
def Z:AC->List AC->AC
 | a,[]=>.seq a .ret
 | a,b::r=>.seq a (Z b r)
abbrev u(d i:Nat):AC:=.cond (.t d) .skip (.exit i)
abbrev W(d:Nat)(a:AC):AC:=.cond (.t d) a .skip
abbrev H(d:Nat)(a b:AC):AC:=.cond (.t d) a b
abbrev P(i:Nat)(a:AC):AC:=.block i a
abbrev U(k:List Nat)(a:AC):AC:=.loop k a
abbrev X(i:Nat):AC:=.exit i
end W
attribute [go_sem] AV.i AV.e AV.n IC.op LJ W.m W.M W.z W.f W.F W.v W.V W.l W.L W.b W.B W.N W.G W.x W.E W.d W.D W.q W.Q W.S W.T W.p W.w W.i W.a W.o W.s W.c W.C W.k W.O W.j W.h W.jj W.hh W.jjc W.hhc W.oc W.t W.J W.e W.n W.y W.I W.K W.R W.r W.r0 W.rz W.ru W.g W.Y W.A W.Z W.u W.W W.H W.P W.U W.X List.map_cons List.map_nil Nat.reduceSub
attribute [push_cast] AV.i AV.e AV.n IC.op LJ W.m W.M W.z W.f W.F W.v W.V W.l W.L W.b W.B W.N W.G W.x W.E W.d W.D W.q W.Q W.S W.T W.p W.w W.i W.a W.o W.s W.c W.C W.k W.O W.j W.h W.jj W.hh W.jjc W.hhc W.oc W.t W.J W.e W.n W.y W.I W.K W.R W.r W.r0 W.rz W.ru W.g W.Y W.A W.Z W.u W.W W.H W.P W.U W.X List.map_cons List.map_nil
attribute [simp] Yz Xf AV.strip AV.strip1
end Go.Ab
