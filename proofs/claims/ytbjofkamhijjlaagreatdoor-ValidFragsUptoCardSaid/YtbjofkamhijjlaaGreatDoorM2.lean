import Derived.RangeFuncSeq
import Derived.Below
import Derived.RangeFuncLeaves
import Derived.ProofKit
import Derived.SizedLaws
import Derived.WideKeyArgs
import Derived.Recover
import Derived.Test.YtbjofkamhijjlaaGreatDoorM1
set_option maxRecDepth 100000
set_option linter.all false
namespace Go.Ab
def zcK (items:List AItem) (l:List Nat):List Chk:=l.flatMap fun k=>match items[k]? with|some x=>entry x|none=>[]
def zdR (items:List AItem):List (AItem×List Chk):=items.map fun it=>(it,zcK items it.chk)
abbrev Row:=Nat×Nat×AItem
def Z1:Nat→List Nat→List AItem→List Row
 | k,i::c,it::its=>(k,i,it)::Z1 (k+1) c its
 | _,_,_=>[]
def zdm (items:List AItem) (r:Row):Yo:=(r.2.1,r.2.2,zcK items r.2.2.chk)
def zuo (ops:Array Oper) (pre:List (List Nat)) (items:List AItem) (r:List Row) (x:Row):Bool :=
 (r.all fun i=>(pre.getD i.2.1 []).contains x.2.1 ||
  (zaN (zdm items x).2 (zdm items i).2&&((zat x.2.2 i.2.2).isEmpty||(i.2.2.chk.contains x.1&&r.all fun y=>match y.2.2.dst with|some d=>x.2.2.dst != some d&&!x.2.2.looks.contains d|none=>true)))) &&
 (match ops[x.2.1]? with|some o=>o.after.all fun e=>!Region.binds .any e||(decide (e.on<ops.size)&&e.on != x.2.1&&r.all fun y=>y.2.1 != e.on)|none=>false) &&
 (r.all fun y=>y.2.1 != x.2.1)
def zsu (ops:Array Oper) (pre:List (List Nat)) (items:List AItem):List Row→Bool
 | []=>true
 | x::r=>zuo ops pre items r x&&zsu ops pre items r
def zpG (ops:Array Oper):List (List Nat) :=
 ops.toList.foldl (fun acc o=>acc++[((o.after.toList.filter (Region.binds .any)).flatMap fun e=>e.on::acc.getD e.on []).eraseDups]) []
def preB (ops:Array Oper) (pre:List (List Nat)):Bool :=
 (List.range ops.size).all fun i=>(pre.getD i []).all fun k=>match ops[i]? with
  | some o=>o.after.any fun e=>Region.binds .any e&&(e.on==k||(pre.getD e.on []).contains k)
  | none=>true
def zeP (P:Program) (N lo:Nat) (ops:Array Oper) (c:List Nat) (items:List AItem):Bool :=
 let rows:=Z1 0 c items
 P.follows .mixedOrders&&decide (c.length=items.length)&&decide (c.length=ops.size)&&((List.range ops.size).all fun i=>c.contains i) &&
 (rows.all fun r=>match ops[r.2.1]? with|some o=>zbJ N lo ops P o r.2.2|none=>false)&&preB ops (zpG ops)&&zsu ops (zpG ops) items rows
def zjq (P:Program) (N lo:Nat) (ops:Array Oper) (items:List AItem):Bool :=
 decide (ops.size=items.length)&&((ops.toList.zip items).all fun x=>zbJ N lo ops P x.1 x.2)
theorem ziK {items:List AItem}:∀(c:List Nat) (its:List AItem) (k:Nat),c.length=its.length→(∀ j x,its[j]?=some x→items[k+j]?=some x) →
  (Z1 k c its).map (fun r=>(zdm items r).2)=its.map (fun it=>(it,zcK items it.chk))∧(Z1 k c its).map (·.2.1)=c∧∀ r∈Z1 k c its,items[r.1]?=some r.2.2
 | [],[],_,_,_=>by simp[Z1]
 | [],_::_,_,h,_=>by simp at h
 | _::_,[],_,h,_=>by simp at h
 | i::c,it::its,k,h,hi=>by
  obtain⟨h1,h2,h3⟩:=ziK c its (k+1) (by simpa using h) (fun j x hj=>by have:=hi (j+1) x (by simpa using hj);rwa [show k+(j+1)=k+1+j by omega] at this)
  refine⟨by rw[Z1,List.map_cons,List.map_cons,h1];rfl,by simp[Z1,h2],fun r hr=>?_⟩
  simp only[Z1,List.mem_cons] at hr
  rcases hr with rfl|hr
  ·have:=hi 0 it rfl;simpa using this
  ·exact h3 r hr
theorem zkS {ops:Array Oper} {pre:List (List Nat)} {items:List AItem}:∀(r:List Row),(∀ x∈r,items[x.1]?=some x.2.2)→zsu ops pre items r=true→(∀ x∈r,∃ o,ops[x.2.1]?=some o)→POK ops (fun i=>pre.getD i []) (r.map (zdm items))
 | [],_,_,_=>trivial
 | x::r,hi,h,ho=>by
  simp only[zsu,Al0,zuo] at h
  obtain⟨⟨⟨h1,h2⟩,h3⟩,h4⟩:=h
  refine⟨⟨fun i hir=>?_,fun o hox e he hbe=>?_,fun y hy=>?_⟩,zkS r (fun y hy=>hi y (Zm _ hy)) h4 (fun y hy=>ho y (Zm _ hy))⟩
  ·obtain⟨i,hir',rfl⟩:=List.mem_map.1 hir
   have:=YV.1 h1 i hir'
   simp only[zc6,Al0] at this
   rcases this with h5|⟨h5,h6⟩
   ·left;show x.2.1∈pre.getD i.2.1 [];simpa using h5
   ·right
    refine⟨h5,fun c hc=>?_,fun hn y hy d hd=>?_⟩
    ·have hne:(zat x.2.2 i.2.2).isEmpty=false:=by
      have:c∈zat x.2.2 i.2.2:=hc
      cases hh:zat x.2.2 i.2.2<;>simp_all
     rw[hne] at h6
     simp only[Al7,false_or] at h6
     have hmem:x.1∈i.2.2.chk:=by simpa using h6.1
     have hce:c∈entry x.2.2:=by
      have:c∈zat x.2.2 i.2.2:=hc
      unfold zat at this
      split at this
      ·exact this
      ·cases this
     show c∈zcK items i.2.2.chk
     unfold zcK
     rw[List.mem_flatMap]
     exact⟨x.1,hmem,by rw[hi x (Zr ..)];exact hce⟩
    ·obtain⟨y,hyr,rfl⟩:=List.mem_map.1 hy
     have hne:(zat x.2.2 i.2.2).isEmpty=false:=by
      have:zat x.2.2 i.2.2≠[]:=hn
      cases hh:zat x.2.2 i.2.2<;>simp_all
     rw[hne] at h6
     simp only[Al7,false_or] at h6
     have:=YV.1 h6.2 y hyr
     have hd':y.2.2.dst=some d:=hd
     rw[hd'] at this
     simp only[Al0,bne_iff_ne,ne_eq,Bool.not_eq_true'] at this
     exact⟨this.1,by show ¬ d∈x.2.2.looks;simpa using this.2⟩
  ·have hox':ops[x.2.1]?=some o:=hox
   rw[hox'] at h2
   simp only at h2
   have:=Array.all_eq_true_iff_forall_mem.1 h2 e he
   simp only[hbe,Bool.not_true,Bool.false_or,Al0,yH,bne_iff_ne,ne_eq] at this
   refine⟨this.1.1,this.1.2,fun y hy=>?_⟩
   obtain⟨y,hyr,rfl⟩:=List.mem_map.1 hy
   have:=YV.1 this.2 y hyr
   show y.2.1≠e.on
   simpa using this
  ·obtain⟨y,hyr,rfl⟩:=List.mem_map.1 hy
   have:=YV.1 h3 y hyr
   simpa[zdm] using this
theorem zqZ {P:Program} {γ0:Gh} {w0:World} {H0:zb} {F:Fx} {KP:AV→zb→Prop} (hKP:zh9 KP) {ops:Array Oper} {Q:Exit→Act→World→Prop} {K:Env→zb→Prop} {c:List Nat} {items:List AItem}
  (hQ:∀ ch a w,zdX γ0 w0 H0 F KP ch a w→Q (.panic ch) a w) (hK:∀ γ w H ρ a,SInv γ0 w0 H0 F γ w H ρ a→K ρ H→Q .normal a w)
  (h:zeP P F.N F.lo ops c items=true) {γ:Gh} {w:World} {H:zb} {ρ:Env} {a:Act} (hinv:SInv γ0 w0 H0 F γ w H ρ a) (hs:y0 P KP (zdR items) ρ H K):wpAny P .any ops Q ops.size (Array.replicate ops.size false) a { w with drawn:=w.drawn+1 }∧P.follows .mixedOrders=true:=by
 simp only[zeP,Al0,yH] at h
 obtain⟨⟨⟨⟨⟨⟨hm,hl⟩,hlo⟩,hall⟩,hit⟩,hpre⟩,hpok⟩:=h
 obtain⟨hr1,hr2,hr3⟩:=ziK (items:=items) c items 0 hl (fun j x hj=>by simpa using hj)
 refine⟨?_,hm⟩
 have hinv':SInv γ0 w0 H0 F γ w.drew H ρ a :=
  ⟨hinv.ext.trans (Ye (fun _=>False) γ w) (fun _ _ f=>f.elim),hinv.st.kept (Ye (fun _=>False) γ w) (fun _ _ _ f=>f),hinv.keys,hinv.env.mono (Ye (fun _=>False) γ w).mono,hinv.sz,hinv.fx,hinv.df.step (Ye (keysOf H) γ w) (yw.refl _ _)⟩
 have hsome:∀ x∈Z1 0 c items,∃ o,ops[x.2.1]?=some o∧zbJ F.N F.lo ops P o x.2.2=true:=fun x hx=>by
  have:=YV.1 hit x hx
  split at this
  ·rename_i o ho;exact⟨o,ho,this⟩
  ·cases this
 refine zph hKP (pre:=fun i=>(zpG ops).getD i []) hQ hK (fun i o ho k hk=>?_) ops.size ((Z1 0 c items).map (zdm items)) _ γ w.drew H ρ a (by simp) ?_ (zkS _ hr3 hpok fun x hx=>let ⟨o,ho,_⟩:=hsome x hx;⟨o,ho⟩) (fun x hx=>?_) (fun i hi=>?_) (fun j hj=>?_) hinv' ?_
 ·have h1:=YV.1 hpre i (List.mem_range.2 (zck.1 ho).1)
  have h2:=YV.1 h1 k hk
  rw[ho] at h2
  simp only at h2
  obtain⟨e,he,hb⟩:=Array.any_eq_true'.1 h2
  simp only[Al0,zc6,beq_iff_eq] at hb
  exact⟨e,he,hb.1,hb.2.imp (fun h=>h) (fun h=>by simpa using h)⟩
 ·have:=congrArg List.length hr2
  rw[List.length_map] at this
  rw[List.length_map,this,hlo]
  exact Al4 _
 ·obtain⟨x,hxr,rfl⟩:=List.mem_map.1 hx
  exact hsome x hxr
 ·constructor
  ·intro _
   have:=YV.1 hall i (List.mem_range.2 hi)
   have hic:i∈c:=by simpa using this
   rw[← hr2] at hic
   obtain⟨r,hr,rfl⟩:=List.mem_map.1 hic
   exact⟨zdm items r,List.mem_map.2 ⟨r,hr,rfl⟩,rfl⟩
  ·intro _;simp[hi]
 ·intro k hk
  by_cases hlt:j<ops.size<;>simp[hlt] at hj
 ·have e:((Z1 0 c items).map (zdm items)).map (·.2)=zdR items:=by
   rw[List.map_map];exact hr1
  rw[e];exact hs
theorem zqM {P:Program} {γ0:Gh} {w0:World} {H0:zb} {F:Fx} {KP:AV→zb→Prop} (hKP:zh9 KP) {ops:Array Oper} {Q:Exit→Act→World→Prop} {K:Env→zb→Prop} {c:List Nat} {items:List AItem}
  (hQ:∀ ch a w,zdX γ0 w0 H0 F KP ch a w→Q (.panic ch) a w) (hK:∀ γ w H ρ a,SInv γ0 w0 H0 F γ w H ρ a→K ρ H→Q .normal a w)
  (h:zeP P F.N F.lo ops c items=true) {γ:Gh} {w:World} {H:zb} {ρ:Env} {a:Act} (hinv:SInv γ0 w0 H0 F γ w H ρ a) (hs:y0 P KP (zdR items) ρ H K) (t:Nat) :
  wpOps P ops Q (Region.schedule (P.follows .mixedOrders) ops t) a { w with drawn:=w.drawn+1 }:=by
 obtain⟨h1,hm⟩:=zqZ hKP hQ hK h hinv hs
 simp only[Region.schedule,hm,Bool.true_or,if_true]
 exact wpAny_sound ops.size t _ a _ h1
theorem zmD {P:Program} {γ0:Gh} {w0:World} {H0:zb} {F:Fx} {KP:AV→zb→Prop} (hKP:zh9 KP) {id:Nat} {ops:Array Oper} {Q:Exit→Act→World→Prop} {K:Env→zb→Prop} {c:List Nat} {items:List AItem}
  (hQ:∀ ch a w,zdX γ0 w0 H0 F KP ch a w→Q (.panic ch) a w) (hK:∀ γ w H ρ a,SInv γ0 w0 H0 F γ w H ρ a→K ρ H→Q .normal a w)
  (h:zeP P F.N F.lo ops c items=true) {γ:Gh} {w:World} {H:zb} {ρ:Env} {a:Act} (hinv:SInv γ0 w0 H0 F γ w H ρ a) (hs:y0 P KP (zdR items) ρ H K):(Code.region id ops true).wp P Q a w :=
 wp_region_draw (zqM hKP hQ hK h hinv hs)
theorem zs0 {P:Program} {γ0:Gh} {w0:World} {H0:zb} {F:Fx} {KP:AV→zb→Prop} {ops:Array Oper} {Q:Exit→Act→World→Prop} {K:Env→zb→Prop} {items:List AItem}
  (hQ:∀ ch a w,zdX γ0 w0 H0 F KP ch a w→Q (.panic ch) a w) (hK:∀ γ w H ρ a,SInv γ0 w0 H0 F γ w H ρ a→K ρ H→Q .normal a w)
  (h:zjq P F.N F.lo ops items=true) {γ:Gh} {w:World} {H:zb} {ρ:Env} {a:Act} (hinv:SInv γ0 w0 H0 F γ w H ρ a) (hs:y0 P KP (zdR items) ρ H K):wpOps P ops Q (List.range ops.size) a w:=by
 simp only[zjq,Al0,yH] at h
 obtain⟨hl,hall⟩:=h
 refine zf8 hQ hK (List.range ops.size) (zdR items) (by simp[zdR,hl]) (fun k i it hk hit=>?_) γ w H ρ a hinv hs
 obtain⟨h1,h2⟩:=Z4.1 hk
 simp at h1 h2
 subst h2
 simp only[zdR,YH,zdp] at hit
 obtain⟨x,hx,rfl⟩:=hit
 refine⟨ops[k],by simp[h1],?_⟩
 have hz:(ops.toList.zip items)[k]?=some (ops[k],x):=by
  rw[List.getElem?_zip_eq_some]
  exact⟨by simp[h1],hx⟩
 exact YV.1 hall _ (List.mem_of_getElem? hz)
theorem zo0 {P:Program} {γ0:Gh} {w0:World} {H0:zb} {F:Fx} {KP:AV→zb→Prop} {id:Nat} {ops:Array Oper} {Q:Exit→Act→World→Prop} {K:Env→zb→Prop} {items:List AItem}
  (hQ:∀ ch a w,zdX γ0 w0 H0 F KP ch a w→Q (.panic ch) a w) (hK:∀ γ w H ρ a,SInv γ0 w0 H0 F γ w H ρ a→K ρ H→Q .normal a w)
  (h:zjq P F.N F.lo ops items=true) {γ:Gh} {w:World} {H:zb} {ρ:Env} {a:Act} (hinv:SInv γ0 w0 H0 F γ w H ρ a) (hs:y0 P KP (zdR items) ρ H K):(Code.region id ops false).wp P Q a w :=
 wp_region (zs0 hQ hK h hinv hs)
inductive AC where
 | skip
 | reg (c:List Nat) (items:List AItem)
 | seq (a b:AC)
 | cond (c:Opd) (t e:AC)
 | block (id:Nat) (b:AC)
 | loop (keep:List Nat) (b:AC)
 | scope (b:AC)
 | exit (id:Nat)
 | ret
inductive AExit where
 | normal
 | exit (id:Nat)
 | ret
def ze:List (Nat×AV)→Env
 | [],_=>.any
 | (d,c)::r,n=>if n=d then c else ze r n
theorem zhr (l:List (Nat×AV)) (d n:Nat) (c:AV):ze ((d,c)::l) n=if n=d then c else ze l n:=rfl
def Env.keep (ρ:Env) (l:List Nat):Env:=ze (l.map fun n=>(n,ρ n))
def zn2 (K:Env→zb→Prop) (Q:AExit→Env→zb→Prop):AExit→Env→zb→Prop
 | .normal=>K
 | e=>Q e
def zeq (id:Nat) (Q:AExit→Env→zb→Prop):AExit→Env→zb→Prop
 | .exit i=>if i=id then Q .normal else Q (.exit i)
 | e=>Q e
def zp6 (c:AV) (X Y:Prop):Prop :=
 match c with
 | .bool true=>X
 | .bool false=>Y
 | .ubool p=>(p→X)∧Y
 | _=>False
def AC.flat:AC→Bool
 | .seq a b|.cond _ a b=>a.flat&&b.flat
 | .block _ b=>b.flat
 | .loop _ _|.scope _=>false
 | _=>true
def AC.plain:AC→Bool
 | .seq a b|.cond _ a b=>a.plain&&b.plain
 | .block _ b|.loop _ b|.scope b=>b.plain
 | _=>true
def awp (P:Program) (KP:AV→zb→Prop):AC→(AExit→Env→zb→Prop)→Env→zb→Prop
 | .skip,Q,ρ,H=>Q .normal ρ H
 | .reg _ items,Q,ρ,H=>y0 P KP (zdR items) ρ H (Q .normal)
 | .seq a b,Q,ρ,H=>awp P KP a (zn2 (awp P KP b Q) Q) ρ H
 | .cond c t e,Q,ρ,H=>zp6 (c.ev ρ) (awp P KP t Q ρ H) (awp P KP e Q ρ H)
 | .block id b,Q,ρ,H=>awp P KP b (zeq id Q) ρ H
 | .loop keep b,Q,ρ,H=>∃ I:Nat→Env→zb→Prop,(∃ n,I n (ρ.keep keep) H)∧∀ n ρ H,I n ρ H→awp P KP b (zn2 (fun ρ' H'=>∃ m,m<n∧I m (ρ'.keep keep) H') Q) ρ H
 | .scope b,Q,ρ,H=>awp P KP b Q ρ H
 | .exit id,Q,ρ,H=>Q (.exit id) ρ H
 | .ret,Q,ρ,H=>Q .ret ρ H
def ZA (P:Program) (N lo:Nat):Code→AC→Bool
 | .skip,.skip=>true
 | .label _,.skip=>true
 | .region _ ops draw,.reg c items=>if draw then zeP P N lo ops c items else zjq P N lo ops items
 | .seq a b,.seq a' b'=>ZA P N lo a a'&&ZA P N lo b b'
 | .cond c t e,.cond c' t' e'=>zQ c c'&&ZA P N lo t t'&&ZA P N lo e e'
 | .block id b,.block id' b'=>decide (id=id')&&ZA P N lo b b'
 | .loop b,.loop _ b'=>ZA P N lo b b'
 | .scope b,.scope b'=>ZA P N lo b b'
 | .exit id,.exit id'=>decide (id=id')
 | .ret,.ret=>true
 | _,_=>false
def lift (γ0:Gh) (w0:World) (H0:zb) (F:Fx) (KP:AV→zb→Prop) (Q:AExit→Env→zb→Prop):Exit→Act→World→Prop
 | .normal,a,w=>∃ γ H ρ,SInv γ0 w0 H0 F γ w H ρ a∧Q .normal ρ H
 | .exit id,a,w=>∃ γ H ρ,SInv γ0 w0 H0 F γ w H ρ a∧Q (.exit id) ρ H
 | .ret,a,w=>∃ γ H ρ,SInv γ0 w0 H0 F γ w H ρ a∧Q .ret ρ H
 | .panic ch,a,w=>zdX γ0 w0 H0 F KP ch a w
 | .goto _,_,_=>False
 | .outgrown,_,_=>False
theorem zkQ {γ:Gh} {w:World} {ρ:Env} {tmps:Array Value} (h:EnvRel γ w ρ tmps) (l:List Nat):EnvRel γ w (ρ.keep l) tmps:=by
 refine⟨h.tab,fun n=>?_⟩
 unfold Env.keep
 induction l with
 | nil=>exact .any _
 | cons x l ih =>
  simp only[List.map_cons,ze]
  split
  ·rename_i e;subst e;exact h.rep n
  ·exact ih
theorem least {p:Nat→Prop} (h:∃ n,p n):∃ n,p n∧∀ m,p m→n≤m:=by
 obtain⟨n,hn⟩:=h
 induction n using Nat.strongRecOn with
 | _ n ih =>
  by_cases hx:∃ m,m<n∧p m
  ·obtain⟨m,hm,hp⟩:=hx;exact ih m hm hp
  ·exact⟨n,hn,fun m hm=>Nat.le_of_not_lt fun hlt=>hx ⟨m,hlt,hm⟩⟩
theorem zo4 {P:Program} {Q:Exit→Act→World→Prop} {c:Code} (J:Nat→Act→World→Prop) {a:Act} {w:World} {n:Nat} (h0:J n a w)
  (round:∀ n a w,J n a w→c.wp P (Exit.then (fun a' w'=>∃ m,m<n∧J m a' w') Q) a w):(Code.loop c).wp P Q a w:=by
 classical
 refine wp_loop (fun a w=>∃ n,J n a w) (fun a w=>if h:∃ n,J n a w then Classical.choose (least h) else 0) ⟨n,h0⟩ (fun a w hI=>?_)
 have hs:=Classical.choose_spec (least hI)
 refine wp_mono (round _ a w hs.1) (fun e a' w' hq=>?_)
 cases e<;>first|exact hq|skip
 obtain⟨m,hm,hJ⟩:=hq
 refine⟨⟨m,hJ⟩,?_⟩
 have hI':∃ n,J n a' w':=⟨m,hJ⟩
 have hle:=(Classical.choose_spec (least hI')).2 m hJ
 simp only[hI,hI',dif_pos]
 omega
theorem cells_of_cell {w:World} {b k:Nat} {v:Value} (h:w.cell? ⟨b,k,none⟩=some v):∃(arr:Array Value) (E:TypeId) (fr:Nat×Nat),w.heap[b]?=some (.cells arr E fr):=by
 unfold World.cell? at h
 split at h
 ·rename_i c E fr hb;exact⟨c,E,fr,hb⟩
 ·cases h
theorem zsh (γ:Gh) {w:World} {l:Nat} {o o':Obj} (h:w.heap[l]?=some o) (hc:∀ arr E fr,o≠.cells arr E fr) (hc':∀ arr E fr,o'≠.cells arr E fr):Ext (fun b=>b=l) γ w γ (w.putObj l o'):=by
 have hne:∀ b,b≠l→(w.putObj l o').heap[b]?=w.heap[b]?:=fun b hb=>World.putObj_heap_other hb
 have hcell:∀ b o v,w.cell? ⟨b,o,none⟩=some v→b≠l:=fun b k v hv e=>by
  subst e
  obtain⟨arr,E,fr,hb⟩:=cells_of_cell hv
  rw[h] at hb
  exact hc _ _ _ (Option.some.inj hb)
 refine⟨⟨by simp,fun b k v hv hp=>⟨hp,?_⟩,fun b arr E fr hb=>⟨arr,?_,rfl⟩⟩,rfl,rfl,fun a ha=>?_,fun b _ hb=>⟨rfl,hne b hb⟩⟩
 ·simp only[World.cell?,hne b (hcell b k v hv)];exact hv
 ·rw[hne b (fun e=>by subst e;rw[h] at hb;exact hc _ _ _ (Option.some.inj hb))];exact hb
 ·by_cases e:a.block=l
  ·simp only[World.frozen?,e,h,World.putObj_heap_same (zck.1 h).1]
   cases o<;>cases o'<;>first|rfl|exact absurd rfl (hc _ _ _)|exact absurd rfl (hc' _ _ _)
  ·simp only[World.frozen?,hne _ e]
theorem pl2 {p q:Bool} {X:Prop} (h:(p&&q)=true∨X):(p=true∨X)∧(q=true∨X):=by
 rcases h with h|h
 ·simp only[Al0] at h;exact⟨.inl h.1,.inl h.2⟩
 ·exact⟨.inr h,.inr h⟩
theorem zma {P:Program} {γ0:Gh} {w0:World} {H0:zb} {F:Fx} {KP:AV→zb→Prop} (hKP:zh9 KP):∀(ac:AC) (code:Code) (Q:AExit→Env→zb→Prop),(ac.plain=true∨(F.rf=true∧F.keep=[]∧F.base≤w0.heap.size))→ZA P F.N F.lo code ac=true →
  ∀(γ:Gh) (w:World) (H:zb) (ρ:Env) (a:Act),SInv γ0 w0 H0 F γ w H ρ a→awp P KP ac Q ρ H→code.wp P (lift γ0 w0 H0 F KP Q) a w:=by
 intro ac
 induction ac with
 | skip =>
  intro code Q hp hc γ w H ρ a hinv hs
  cases code<;>simp only[ZA] at hc<;>try (cases hc;done)
  ·exact wp_skip ⟨γ,H,ρ,hinv,hs⟩
  ·exact wp_label ⟨γ,H,ρ,hinv,hs⟩
 | reg c items =>
  intro code Q hp hc γ w H ρ a hinv hs
  cases code<;>simp only[ZA] at hc<;>try (cases hc;done)
  rename_i id ops draw
  have hQ:∀ ch a w,zdX γ0 w0 H0 F KP ch a w→lift γ0 w0 H0 F KP Q (.panic ch) a w:=fun _ _ _ h=>h
  have hK:∀ γ w H ρ a,SInv γ0 w0 H0 F γ w H ρ a→Q .normal ρ H→lift γ0 w0 H0 F KP Q .normal a w:=fun γ w H ρ a h1 h2=>⟨γ,H,ρ,h1,h2⟩
  cases draw with
  | true=>simp only[if_true] at hc;exact zmD hKP hQ hK hc hinv hs
  | false=>simp only[Al7,if_false] at hc;exact zo0 hQ hK hc hinv hs
 | seq x y ihx ihy =>
  intro code Q hp hc γ w H ρ a hinv hs
  cases code<;>simp only[ZA] at hc<;>try (cases hc;done)
  simp only[Al0] at hc
  refine wp_seq (wp_mono (ihx _ _ (pl2 hp).1 hc.1 γ w H ρ a hinv hs) fun e a' w' he=>?_)
  cases e with
  | normal=>obtain⟨γ',H',ρ',h1,h2⟩:=he;exact ihy _ Q (pl2 hp).2 hc.2 γ' w' H' ρ' a' h1 h2
  | exit id=>exact he
  | ret=>exact he
  | panic ch=>exact he
  | goto l=>exact he
  | outgrown=>exact he
 | cond c t e iht ihe =>
  intro code Q hp hc γ w H ρ a hinv hs
  cases code<;>simp only[ZA] at hc<;>try (cases hc;done)
  simp only[Al0] at hc
  have hr:=zt hc.1.1 hinv.env
  simp only[awp,zp6] at hs
  cases hx:c.ev ρ<;>simp only[hx] at hs hr<;>try (exact False.elim hs)
  ·rename_i b
   generalize hv:a.eval _=v at hr
   cases hr
   cases b with
   | true=>exact wp_cond_true hv (iht _ Q (pl2 hp).1 hc.1.2 γ w H ρ a hinv hs)
   | false=>exact wp_cond_false hv (ihe _ Q (pl2 hp).2 hc.2 γ w H ρ a hinv hs)
  ·rename_i p
   generalize hv:a.eval _=v at hr
   cases hr with
   | ubool _ b hb =>
    cases b with
    | true=>exact wp_cond_true hv (iht _ Q (pl2 hp).1 hc.1.2 γ w H ρ a hinv (hs.1 (hb rfl)))
    | false=>exact wp_cond_false hv (ihe _ Q (pl2 hp).2 hc.2 γ w H ρ a hinv hs.2)
 | block id b ih =>
  intro code Q hp hc γ w H ρ a hinv hs
  cases code<;>simp only[ZA] at hc<;>try (cases hc;done)
  simp only[Al0,yH] at hc
  obtain⟨rfl,hc⟩:=hc
  rename_i id0 b0
  refine wp_block (wp_mono (ih _ _ hp hc γ w H ρ a hinv hs) fun e a' w' he=>?_)
  cases e with
  | normal=>exact he
  | exit i =>
   obtain⟨γ',H',ρ',h1,h2⟩:=he
   simp only[zeq] at h2
   simp only[Exit.inBlock]
   by_cases hid:i=id0
   ·simp only[hid,if_true] at h2 ⊢;exact⟨γ',H',ρ',h1,h2⟩
   ·simp only[hid,if_false] at h2 ⊢;exact⟨γ',H',ρ',h1,h2⟩
  | ret=>exact he
  | panic ch=>exact he
  | goto l=>exact he
  | outgrown=>exact he
 | loop keep b ih =>
  intro code Q hp hc γ w H ρ a hinv hs
  cases code<;>simp only[ZA] at hc<;>try (cases hc;done)
  obtain⟨I,⟨n,h0⟩,hround⟩:=hs
  refine zo4 (fun n a w=>∃ γ H ρ,SInv γ0 w0 H0 F γ w H ρ a∧I n ρ H) (n:=n) ⟨γ,H,ρ.keep keep,⟨hinv.ext,hinv.st,hinv.keys,zkQ hinv.env keep,hinv.sz,hinv.fx,hinv.df⟩,h0⟩ (fun n a w ⟨γ,H,ρ,h1,h2⟩=>?_)
  refine wp_mono (ih _ _ hp hc γ w H ρ a h1 (hround n ρ H h2)) fun e a' w' he=>?_
  cases e with
  | normal =>
   obtain⟨γ',H',ρ',h3,m,hm,h4⟩:=he
   exact⟨m,hm,γ',H',ρ'.keep keep,⟨h3.ext,h3.st,h3.keys,zkQ h3.env keep,h3.sz,h3.fx,h3.df⟩,h4⟩
  | exit id=>exact he
  | ret=>exact he
  | panic ch=>exact he
  | goto l=>exact he
  | outgrown=>exact he
 | scope b ih =>
  intro code Q hp hc γ w H ρ a hinv hs
  cases code<;>simp only[ZA] at hc<;>try (cases hc;done)
  refine wp_scope_straight (wp_mono (ih _ Q hp hc γ w H ρ a hinv hs) fun e a' w' he=>?_)
  cases e<;>exact he
 | exit id =>
  intro code Q hp hc γ w H ρ a hinv hs
  cases code<;>simp only[ZA] at hc<;>try (cases hc;done)
  simp only[yH] at hc
  subst hc
  exact wp_exit ⟨γ,H,ρ,hinv,hs⟩
 | ret =>
  intro code Q hp hc γ w H ρ a hinv hs
  cases code<;>simp only[ZA] at hc<;>try (cases hc;done)
  exact wp_ret ⟨γ,H,ρ,hinv,hs⟩
inductive ARes where
 | t (n:Nat)
 | c (n sz:Nat) (ag:Bool)
structure AFn where
 N:Nat
 np:Nat
 res:List ARes
 body:AC
def Zk (ρ:Env) (H:zb):ARes→Option AV
 | .t n=>some (ρ n)
 | .c n sz ag=>rev ρ H (.ld sz ag (.t n))
def zG (ρ:Env) (H:zb):List ARes→Option (List AV)
 | []=>some []
 | r::rs=>match Zk ρ H r,zG ρ H rs with
  | some v,some vs=>some (v::vs)
  | _,_=>none
def zd:List AV→AV
 | [v]=>v
 | vs=>.tup vs
def zaU (P:Program):List ResultVar→List ARes→Bool
 | [],[]=>true
 | .tmp t::rs,.t n::as=>t==n&&zaU P rs as
 | .cell a t::rs,.c n sz ag::as=>a==n&&((P.info? t).any fun ti=>decide (ti.size=sz))&&(P.underlying t).isSome&&decide (zfA (P.underlying t)=ag)&&(ag||decide (sz=1))&&zaU P rs as
 | _,_=>false
def zh (P:Program) (f:FuncId) (af:AFn):Bool :=
 match P.funcs[f]? with
 | some fn=>match fn.body with
  | some code=>decide (fn.ntmps=af.N)&&decide (af.np≤af.N)&&zaU P fn.results.toList af.res&&ZA P af.N 0 code af.body
  | none=>false
 | none=>false
def Sub (A B:zb):Prop:=∀ b o,A b=some o→B b=some o
theorem Sub.refl (A:zb):Sub A A:=fun _ _ h=>h
structure Low (B A:zb):Prop where
 keys:∀ b,(B b).isSome=true→(A b).isSome=true
 st:∀ γ w,zr γ w A→zr γ w B
theorem Low.of_sub {A B:zb} (h:Sub B A):Low B A:=⟨fun b hb=>by
 cases hx:B b with
 | none=>simp[hx] at hb
 | some o=>simp[h b o hx],fun γ w hs=>hs.sub h⟩
theorem Low.refl (A:zb):Low A A:=Low.of_sub (Sub.refl A)
theorem Low.trans {A B C:zb} (h:Low A B) (h':Low B C):Low A C:=⟨fun b hb=>h'.keys b (h.keys b hb),fun γ w hs=>h.st γ w (h'.st γ w hs)⟩
theorem Low.upd {A B:zb} (h:Low B A) {b:Nat} {o:AObj} (hb:A b=none):Low B (A.upd b o) :=
 h.trans (Low.of_sub fun c x hc=>by
  have hne:c≠b:=fun e=>by subst e;rw[hb] at hc;cases hc
  simp only[zb.upd,hne,if_false];exact hc)
theorem Low.cells {A:zb} {b:Nat} {cs:List AV} (hb:A b=some (.cells cs)):Low (A.upd b (.cells (cs.map AV.strip1))) A:=by
 refine⟨fun c hc=>?_,fun γ w hs c o hc=>?_⟩
 ·unfold zb.upd at hc
  split at hc
  ·rename_i e;subst e;simp[hb]
  ·exact hc
 ·unfold zb.upd at hc
  split at hc
  ·rename_i e
   subst e
   simp only[Al1] at hc
   subst hc
   cases hs _ _ hb with
   | cells _ vs E hk hb' hl h1 hr =>
    refine .cells _ vs E hk hb' (by simpa using hl) h1 fun i c v hc hv=>?_
    rw[YH] at hc
    cases hx:cs[i]? with
    | none=>simp[hx] at hc
    | some x=>simp only[hx,zak,Al1] at hc;subst hc;exact(hr i x v hx hv).strip1
  ·exact hs c o hc
def zH:Nat→List AV→List (Nat×AV)
 | _,[]=>[]
 | k,c::cs=>(k,c)::zH (k+1) cs
def zjQ (res:List ARes) (Q:AEnd→zb→Prop):AExit→Env→zb→Prop
 | .exit _,_,_=>False
 | _,ρ,H=>match zG ρ H res with
  | some vs=>∃ H',Low H' H∧Q (.ret (zd vs)) H'
  | none=>False
def zuM (Q:AEnd→zb→Prop):AV→zb→Prop:=fun v H=>∃ H',Low H' H∧Q (.pan v) H'
theorem zoU (Q:AEnd→zb→Prop):zh9 (zuM Q):=fun v H b o hb ⟨H',hs,hq⟩=>⟨H',hs.upd hb,hq⟩
theorem zh2:∀(args:List AV) (k n:Nat),ze (zH k args) n=if k≤n then args.getD (n-k) .any else .any
 | [],k,n=>by simp[zH,ze]
 | c::cs,k,n=>by
  simp only[zH,ze,zh2 cs (k+1) n]
  by_cases h:n=k
  ·subst h;simp
  ·simp only[h,if_false]
   by_cases h2:k≤n
   ·have h3:k+1≤n:=by omega
    simp only[h2,h3,if_true]
    rw[show n-k=(n-(k+1))+1 by omega]
    simp
   ·have h3:¬ k+1≤n:=by omega
    simp[h2,h3]
theorem zpg {γ:Gh} {w:World} {args:List AV} {vs:List Value} (ht:za9 γ w) (h:yg γ w args vs) (m:Nat):EnvRel γ w (ze (zH 0 args)) (vs.toArray++Array.replicate m undef):=by
 refine⟨ht,fun n=>?_⟩
 rw[zh2]
 simp only[Nat.zero_le,if_true,Nat.sub_zero]
 by_cases hn:n<args.length
 ·have hv:n<vs.length:=by rw[← h.1];exact hn
  have e1:args.getD n .any=args[n]:=by simp[List.getD,hn]
  have e2:(vs.toArray++Array.replicate m undef).getD n undef=vs[n]:=by
   simp only[zjs]
   rw[Array.getElem?_append_left (by simpa using hv)]
   simp[hv]
  rw[e1,e2]
  exact h.2 n _ _ (Al9 hn) (Al9 hv)
 ·have e1:args.getD n .any=.any:=by simp[List.getD,hn]
  rw[e1]
  exact .any _
theorem zjH {P:Program} {γ:Gh} {w:World} {H:zb} {ρ:Env} {a:Act} (he:EnvRel γ w ρ a.tmps) (hs:zr γ w H):∀(rs:List ResultVar) (as:List ARes) (cs:List AV),zaU P rs as=true→zG ρ H as=some cs →
  ∃ vs,(rs.mapM (m:=Sem) fun
   | .tmp t=>pure (a.tmps.getD t undef)
   | .cell x t=>do loadVar t (← asAddr (a.tmps.getD x undef))).run P w=.ok vs w∧yg γ w cs vs
 | [],[],cs,_,h=>by simp only[zG,Al1] at h;subst h;exact⟨[],rfl,yg.nil⟩
 | [],_::_,_,h,_=>by simp[zaU] at h
 | .tmp t::_,[],_,h,_=>by simp[zaU] at h
 | .cell x t::_,[],_,h,_=>by simp[zaU] at h
 | .tmp t::rs,.c n sz ag::as,_,h,_=>by simp[zaU] at h
 | .cell x t::rs,.t n::as,_,h,_=>by simp[zaU] at h
 | .tmp t::rs,.t n::as,cs,hc,h=>by
  simp only[zaU,Al0,beq_iff_eq] at hc
  obtain⟨rfl,hc⟩:=hc
  simp only[zG,Zk] at h
  cases hr:zG ρ H as with
  | none=>simp[hr] at h
  | some ds =>
   simp only[hr,Al1] at h
   subst h
   obtain⟨vs,hv,hrep⟩:=zjH he hs rs as ds hc hr
   exact⟨a.tmps.getD t undef::vs,by simp only[List.mapM_cons,Sem.run_bind,Sem.run_pure,Result.andThen_ok,hv],yg.cons (he.rep t) hrep⟩
 | .cell x t::rs,.c n sz ag::as,cs,hc,h=>by
  simp only[zaU,Al0,beq_iff_eq,yH,zc6] at hc
  obtain⟨⟨⟨⟨⟨rfl,h1⟩,h2⟩,h3⟩,h4⟩,hc⟩:=hc
  obtain⟨ti,hti,h1⟩:=yu h1
  obtain⟨d,hd⟩:=zmt.1 h2
  simp only[zG,Zk] at h
  cases hv0:rev ρ H (.ld sz ag (.t x)) with
  | none=>simp[hv0] at h
  | some v0 =>
   cases hr:zG ρ H as with
   | none=>simp[hv0,hr] at h
   | some ds =>
    simp only[hv0,hr,Al1] at h
    subst h
    obtain⟨vs,hv,hrep⟩:=zjH he hs rs as ds hc hr
    have hread := zuv (P := P) (o := { dst := none, op := .load t (.tmp x), type := 0, pos := "", after := #[], guard := none }) (x' := .t x) rfl (by simp [zQ]) hti (by simpa using h1) hd h3 h4 γ w H ρ a v0 he hs hv0
    obtain⟨u,hu,hru⟩:=hread
    have hex:(do loadVar t (← asAddr (a.tmps.getD x undef)):Sem Value).run P w=.ok u w:=by
     have hr1:=he.rep x
     simp only[rev,Opd.ev] at hv0
     simp only[execOp,Instr.loadAt,Act.eval,Sem.run_bind] at hu
     cases hx:ρ x<;>simp only[hx] at hv0 hr1<;>try (cases hv0;done)
     all_goals
      generalize hg:a.tmps.getD x undef=g at hr1 hu ⊢
      cases hr1
      simp only[Instr.sureAddr,asAddr,Sem.run_bind,Sem.run_pure,Result.andThen_ok] at hu ⊢
      generalize (loadVar t _).run P w=r at hu ⊢
      cases r with
      | ok v w'=>simp only[Result.andThen_ok,Result.ok.injEq,Next.value.injEq] at hu;rw[hu.1,hu.2]
      | halt x w'=>simp[Result.andThen] at hu
    exact⟨u::vs,by simp only[List.mapM_cons,Sem.run_bind] at hex ⊢;rw[hex];simp only[Result.andThen_ok,hv,Sem.run_pure],yg.cons hru hrep⟩
theorem zkY {P:Program} {γ:Gh} {w:World} {H:zb} {ρ:Env} {a:Act} {fn:Func} {as:List ARes} {cs:List AV} (he:EnvRel γ w ρ a.tmps) (hs:zr γ w H) (hc:zaU P fn.results.toList as=true) (h:zG ρ H as=some cs) :
  ∃ v,(results fn a.tmps).run P w=.ok v w∧Rep γ w (zd cs) v:=by
 obtain⟨vs,hv,hrep⟩:=zjH (P:=P) he hs fn.results.toList as cs hc h
 have hm:(fn.results.mapM (m:=Sem) fun
   | .tmp t=>pure (a.tmps.getD t undef)
   | .cell x t=>do loadVar t (← asAddr (a.tmps.getD x undef))).run P w=.ok vs.toArray w:=by
  rw[Array.mapM_eq_mapM_toList]
  simp only[Sem.run_map]
  have e:∀ r:Result (List Value),r=.ok vs w→(r.andThen fun a w'=>Result.ok a.toArray w')=.ok vs.toArray w:=fun r hr=>by subst hr;rfl
  exact e _ hv
 unfold results
 rw[Sem.run_bind]
 have e:∀ r:Result (Array Value),r=.ok vs.toArray w→(r.andThen fun vs w'=>(pure (if h:vs.size=1 then vs[0] else .tuple vs):Sem Value).run P w')=.ok (if h:vs.toArray.size=1 then vs.toArray[0] else .tuple vs.toArray) w:=fun r hr=>by subst hr;rfl
 refine⟨_,e _ hm,?_⟩
 match cs,vs,hrep with
 | [],[],_=>exact .tup [] [] rfl (by simp)
 | [c],[v],h=>exact h.2 0 c v rfl rfl
 | c1::c2::cs,v1::v2::vs,h=>exact .tup _ _ h.1 h.2
 | [],_::_,h=>exact absurd h.1 (by simp)
 | _::_,[],h=>exact absurd h.1 (by simp)
 | [_],_::_::_,h=>exact absurd h.1 (by simp)
 | _::_::_,[_],h=>exact absurd h.1 (by simp)
theorem zcy {P:Program} {fn:Func} {tmps:Array Value} {R:Ending→World→Prop} {u:FrameMode} {γ:Gh} (hu:u≠.run):∀(bs:List Nat) (w:World) (H:zb),bs.Nodup→(∀ b∈bs,H b=none∧w.heap[b]?=some (.deferred (some [])))→zr γ w H →
  (∀ w',Ext (fun b=>b∈bs) γ w γ w'→zr γ w' H→LeavesIn Fence.wide 0 P fn tmps R [] u w')→LeavesInM Fence.wide 0 P fn tmps R (bs.map zwr) u w
 | [],w,H,_,_,hs,h=>h w (.refl _ _ _) hs
 | b::bs,w,H,hnd,hb,hs,h=>by
  have h1:=hb b (Zr ..)
  obtain⟨hnb,hnd'⟩:=List.nodup_cons.1 hnd
  have hE:=zsh γ (o':=.deferred none) h1.2 (fun _ _ _ h=>by cases h) (fun _ _ _ h=>by cases h)
  refine⟨hu,.inl ⟨b,w.putObj b (.deferred none),rfl,run_takeDeferred h1.2,?_⟩⟩
  have hs':zr γ (w.putObj b (.deferred none)) H:=hs.kept hE (fun c o hc e=>by subst e;rw[h1.1] at hc;cases hc)
  refine zcy hu bs _ H hnd' (fun c hc=>?_) hs' fun w' he hs2=>h w' ((hE.weaken fun c hc=>by subst hc;exact Zr ..).trans he fun c _ hc=>Zm _ hc) hs2
  have h2:=hb c (Zm _ hc)
  exact⟨h2.1,(World.putObj_heap_other (fun e=>by subst e;exact hnb hc)).trans h2.2⟩
theorem zi.of_fn {P:Program} {f:FuncId} (af:AFn) (hc:zh P f af=true) {args:List AV} {H:zb} {Q:AEnd→zb→Prop} (hnp:args.length≤af.np)
  (h:awp P (zuM Q) af.body (zjQ af.res Q) (ze (zH 0 args)) H):zi P f args H Q:=by
 intro γ w vs ht hs hv
 unfold zh at hc
 cases hfn:P.funcs[f]? with
 | none=>simp[hfn] at hc
 | some fn =>
  simp only[hfn] at hc
  cases hbody:fn.body with
  | none=>simp[hbody] at hc
  | some code =>
   simp only[hbody,Al0,yH] at hc
   obtain⟨⟨⟨hN,hnpN⟩,hres⟩,hcode⟩:=hc
   refine(callsIn_wide (n:=0)).1 (callsIn_of_wp_marks hfn hbody trivial (wpIn_wide.2 ?_))
   have hlen:vs.toArray.size≤af.N:=by simp only[List.size_toArray];rw[← hv.1];omega
   have hinv:SInv γ w H (Fx.marks af.N w.heap.size) γ w H (ze (zH 0 args)) { tmps:=vs.toArray++Array.replicate (fn.ntmps-vs.toArray.size) undef,defers:=[] } :=
    ⟨.refl _ _ _,hs,yw.refl _ _,zpg ht hv _,by show _=af.N;rw[hN,Array.size_append,Array.size_replicate];omega,fun n hn=>absurd hn (Nat.not_lt_zero n),DfOk.init rfl⟩
   refine wp_mono (zma (F:=Fx.marks af.N w.heap.size) (zoU Q) af.body code _ (.inr ⟨rfl,rfl,Al4 _⟩) hcode γ w H _ _ hinv h) fun e a' w' he=>?_
   have old:∀(H':zb) (bs:List Nat),(∀ b∈bs,w.heap.size≤b∧H' b=none∧w'.heap[b]?=some (.deferred (some [])))→∀ b,b<w.heap.size→b∈bs→keysOf H b :=
    fun H' bs h b hb hm=>absurd (h b hm).1 (by omega)
   have fin:∀ γ' H' ρ',SInv γ w H (Fx.marks af.N w.heap.size) γ' w' H' ρ' a'→(match zG ρ' H' af.res with|some vs=>∃ H'',Low H'' H'∧Q (.ret (zd vs)) H''|none=>False) →
     LeavesInM Fence.wide 0 P fn a'.tmps (fun e w'=>∃ γ' H' r,Ext (fun b=>(H b).isSome=true) γ w γ' w'∧zr γ' w' H' ∧
      (∀ b,(H' b).isSome=true→(H b).isSome=true∨w.heap.size≤b)∧zmL γ' w' e r∧Q r H') a'.defers .returning w':=by
    intro γ' H' ρ' h1 h2
    cases hr:zG ρ' H' af.res with
    | none=>simp[hr] at h2
    | some cs =>
     simp only[hr] at h2
     obtain⟨H'',hsub,hq⟩:=h2
     obtain⟨bs,hbs,hnd,_,hbk⟩:=h1.df.eq
     rw[hbs,show (Fx.marks af.N w.heap.size).D=[] from rfl,List.append_nil]
     refine zcy (γ:=γ') (by simp) bs w' H' hnd (fun b hb=>(hbk b hb).2) h1.st fun w2 he hs2=>?_
     obtain⟨v,hrun,hrep⟩:=zkY (P:=P) (h1.env.mono he.mono) hs2 hres hr
     refine⟨v,hrun,γ',H'',.ret (zd cs),h1.ext.trans he (old H' bs hbk),hsub.st _ _ hs2,fun b hb=>?_,hrep,hq⟩
     exact h1.keys b (hsub.keys b hb)
   cases e with
   | normal=>obtain⟨γ',H',ρ',h1,h2⟩:=he;exact fin γ' H' ρ' h1 h2
   | ret=>obtain⟨γ',H',ρ',h1,h2⟩:=he;exact fin γ' H' ρ' h1 h2
   | exit id=>obtain⟨γ',H',ρ',h1,h2⟩:=he;exact h2.elim
   | goto l=>exact he.elim
   | outgrown=>exact he.elim
   | panic ch =>
    obtain⟨γ',H',c,v,rfl,hext,hst,hk,hrep,⟨H'',hsub,hq⟩,_,_,_,hdf⟩:=he
    obtain⟨bs,hbs,hnd,_,hbk⟩:=hdf.eq
    show LeavesInM Fence.wide 0 P fn a'.tmps _ a'.defers _ w'
    rw[hbs,show (Fx.marks af.N w.heap.size).D=[] from rfl,List.append_nil]
    refine zcy (γ:=γ') (by simp) bs w' H' hnd (fun b hb=>(hbk b hb).2) hst fun w2 he hs2=>?_
    exact⟨γ',H'',.pan c,hext.trans he (old H' bs hbk),hsub.st _ _ hs2,fun b hb=>hk b (hsub.keys b hb),⟨v,rfl,hrep.mono he.mono⟩,hq⟩
def zg (P:Program) (f:FuncId) (args:List AV) (r:AV):Prop:=zi P f args zb.emp fun e H'=>e=.ret r∧H'=zb.emp
theorem ziW (H:zb):zb.union zb.emp H=H:=by funext n;simp[zb.union,zb.emp]
theorem zp8 (H:zb):zb.Disj zb.emp H:=fun _=>.inl rfl
theorem zg.use {P:Program} {f:FuncId} {args:List AV} {r:AV} (h:zg P f args r) {H:zb} {K KP:AV→zb→Prop} (hk:K r H):zi P f args H (ZU K KP):=by
 have:=h.frame (zp8 H)
 rw[ziW] at this
 refine this.mono fun e H' ⟨A',⟨he,hA⟩,_,hH⟩=>?_
 subst he;subst hA;subst hH
 rw[ziW]
 exact hk
theorem zi.strip {P:Program} {f:FuncId} {args:List AV} {H:zb} {Q:AEnd→zb→Prop} (h:zi P f args H fun e H'=>match e with|.ret v=>Q (.ret v.strip) H'|.pan v=>Q (.pan v) H'):zi P f args H Q :=
 fun γ w vs ht hs hv=>(h γ w vs ht hs hv).mono fun e w' ⟨γ',H',r,a,b,c,d,q⟩=>by
  cases r with
  | ret v =>
   refine⟨γ',H',.ret v.strip,a,b,c,?_,q⟩
   cases e with
   | returned u=>exact Rep.strip d
   | panicked ch=>exact d
   | outgrown=>exact d
  | pan v=>exact⟨γ',H',.pan v,a,b,c,d,q⟩
def zpI (r:AV):AEnd→zb→Prop
 | .ret v,H=>v.strip=r∧H=zb.emp
 | .pan _,_=>False
theorem zg.of_fn {P:Program} {f:FuncId} (af:AFn) (hc:zh P f af=true) {args:List AV} {r:AV} (hnp:args.length≤af.np)
  (h:awp P (zuM (zpI r)) af.body (zjQ af.res (zpI r)) (ze (zH 0 args)) zb.emp):zg P f args r:=by
 unfold zg
 refine zi.strip ((zi.of_fn af hc hnp h).mono fun e H' hq=>?_)
 cases e with
 | ret v=>exact⟨by rw[hq.1],hq.2⟩
 | pan v=>exact hq.elim
theorem zok {res:List ARes} {r:AV} {e:AExit} {ρ:Env} {H:zb} (he:∀ i,e≠.exit i) (h:∃ ws,zG ρ H res=some ws∧(zd ws).strip=r):zjQ res (zpI r) e ρ H:=by
 obtain⟨ws,h1,h2⟩:=h
 cases e with
 | exit i=>exact absurd rfl (he i)
 | normal=>simp only[zjQ,h1];exact⟨zb.emp,Low.of_sub fun b o hb=>by simp[zb.emp] at hb,h2,rfl⟩
 | ret=>simp only[zjQ,h1];exact⟨zb.emp,Low.of_sub fun b o hb=>by simp[zb.emp] at hb,h2,rfl⟩
def zpV (x:Option AItem):List Chk:=match x with|some x=>entry x|none=>[]
theorem zhf (d:Option Nat) (g:Option (Nat×Bool)) (op:AOp) (c:List Nat):zpV (some ⟨d,g,op,c⟩)=match d with|some d=>[(d,g,op)]|none=>[]:=by cases d<;>rfl
inductive Fr where
 | code (b:AC)
 | blk (id:Nat)
 | rep (keep:List Nat) (J:Env→zb→Prop)
def D (P:Program) (KP:AV→zb→Prop) (Q:AExit→Env→zb→Prop):List Fr→AExit→Env→zb→Prop
 | []=>Q
 | .code b::st=>zn2 (awp P KP b (D P KP Q st)) (D P KP Q st)
 | .blk id::st=>zeq id (D P KP Q st)
 | .rep keep J::st=>zn2 (fun ρ H=>J (ρ.keep keep) H) (D P KP Q st)
def goC (P:Program) (KP:AV→zb→Prop) (Q:AExit→Env→zb→Prop) (c:AC) (st:List Fr) (ρ:Env) (H:zb):Prop:=awp P KP c (D P KP Q st) ρ H
def goD (P:Program) (KP:AV→zb→Prop) (Q:AExit→Env→zb→Prop) (st:List Fr) (ρ:Env) (H:zb):Prop:=D P KP Q st .normal ρ H
def goE (P:Program) (KP:AV→zb→Prop) (Q:AExit→Env→zb→Prop) (e:AExit) (st:List Fr) (ρ:Env) (H:zb):Prop:=D P KP Q st e ρ H
def goI (P:Program) (KP:AV→zb→Prop) (Q:AExit→Env→zb→Prop) (all l:List AItem) (st:List Fr) (ρ:Env) (H:zb):Prop :=
 y0 P KP (l.map fun it=>(it,zcK all it.chk)) ρ H (fun ρ' H'=>D P KP Q st .normal ρ' H')
def goR (P:Program) (KP:AV→zb→Prop) (Q:AExit→Env→zb→Prop) (all l:List AItem) (st:List Fr) (R:List Chk) (ρ:Env) (H:zb):Prop :=
 Zi ρ H R∧goI P KP Q all l st ρ H
def goG (P:Program) (KP:AV→zb→Prop) (Q:AExit→Env→zb→Prop) (all l:List AItem) (st:List Fr) (g:AV) (want:Bool) (d:Option Nat) (op:AOp) (R:List Chk) (ρ:Env) (H:zb):Prop :=
 match g with
 | .bool b=>if b==want then aop P KP op ρ H (fun v H'=>goR P KP Q all l st R (ρ.set d v) H') else goI P KP Q all l st (ρ.set d (.tup [])) H
 | .tup []=>goI P KP Q all l st (ρ.set d (.tup [])) H
 | _=>False
def goO (P:Program) (KP:AV→zb→Prop) (Q:AExit→Env→zb→Prop) (all l:List AItem) (st:List Fr) (d:Option Nat) (op:AOp) (R:List Chk) (ρ:Env) (H:zb):Prop :=
 aop P KP op ρ H (fun v H'=>goR P KP Q all l st R (ρ.set d v) H')
def goV (P:Program) (KP:AV→zb→Prop) (Q:AExit→Env→zb→Prop) (all l:List AItem) (st:List Fr) (d:Option Nat) (ρ:Env) (H:zb) (v:Option AV):Prop :=
 match v with
 | some v=>goI P KP Q all l st (ρ.set d v) H
 | none=>False
def goK (P:Program) (KP:AV→zb→Prop) (Q:AExit→Env→zb→Prop) (all l:List AItem) (st:List Fr) (d:Option Nat) (R:List Chk) (ρ:Env) (f:FuncId) (args:List AV) (H:zb):Prop :=
 zi P f args H (ZU (fun v H'=>goR P KP Q all l st R (ρ.set d v) H') KP)
def goA (P:Program) (KP:AV→zb→Prop) (Q:AExit→Env→zb→Prop) (all l:List AItem) (st:List Fr) (d:Option Nat) (R:List Chk) (ρ:Env) (H:zb) (op:AOp) (x:Option AObj):Prop :=
 match x with
 | some x=>∀ b,H b=none→goR P KP Q all l st R (ρ.set d (yJ ρ b op)) (H.upd b x)
 | none=>zcz H
def goP (P:Program) (KP:AV→zb→Prop) (Q:AExit→Env→zb→Prop) (all l:List AItem) (st:List Fr) (d:Option Nat) (R:List Chk) (ρ:Env) (sz bytes:Nat) (x y:AV) (H:zb):Prop :=
 zl1 sz bytes x y H (fun v H'=>goR P KP Q all l st R (ρ.set d v) H')
def goS (P:Program) (KP:AV→zb→Prop) (Q:AExit→Env→zb→Prop) (all l:List AItem) (st:List Fr) (d:Option Nat) (R:List Chk) (ρ:Env) (n:Nat) (x:AV) (y:List AV) (bx:Bool) (H:zb):Prop :=
 match x with
 | .ptr b off=>match H b with
  | some (.cells cs)=>y.length=n∧off+n≤cs.length∧bx=true∧goR P KP Q all l st R (ρ.set d (.tup [])) (H.upd b (.cells (splice cs off y)))
  | _=>False
 | _=>False
def goB (P:Program) (KP:AV→zb→Prop) (Q:AExit→Env→zb→Prop) (c:AV) (t e:AC) (st:List Fr) (ρ:Env) (H:zb):Prop :=
 zp6 c (goC P KP Q t st ρ H) (goC P KP Q e st ρ H)
def goL (P:Program) (KP:AV→zb→Prop) (Q:AExit→Env→zb→Prop) (keep:List Nat) (b:AC) (st:List Fr) (ρ:Env) (H:zb):Prop:=goC P KP Q (.loop keep b) st ρ H
section
variable {P:Program} {KP:AV→zb→Prop} {Q:AExit→Env→zb→Prop} {st:List Fr} {ρ:Env} {H:zb}
theorem go_skip:goC P KP Q .skip st ρ H=goD P KP Q st ρ H:=rfl
theorem zrR (a b:AC):goC P KP Q (.seq a b) st ρ H=goC P KP Q a (.code b::st) ρ H:=rfl
theorem zqu (c:List Nat) (l:List AItem):goC P KP Q (.reg c l) st ρ H=goI P KP Q l l st ρ H:=rfl
theorem zm3 (c:Opd) (t e:AC):goC P KP Q (.cond c t e) st ρ H=goB P KP Q (c.ev ρ) t e st ρ H:=rfl
theorem zkP (id:Nat) (b:AC):goC P KP Q (.block id b) st ρ H=goC P KP Q b (.blk id::st) ρ H:=rfl
theorem zkd (b:AC):goC P KP Q (.scope b) st ρ H=goC P KP Q b st ρ H:=rfl
theorem znG (id:Nat):goC P KP Q (.exit id) st ρ H=goE P KP Q (.exit id) st ρ H:=rfl
theorem go_ret:goC P KP Q .ret st ρ H=goE P KP Q .ret st ρ H:=rfl
theorem go_loop (keep:List Nat) (b:AC):goC P KP Q (.loop keep b) st ρ H=goL P KP Q keep b st ρ H:=rfl
theorem zlH (b:AC):goD P KP Q (.code b::st) ρ H=goC P KP Q b st ρ H:=rfl
theorem zn6 (id:Nat):goD P KP Q (.blk id::st) ρ H=goD P KP Q st ρ H:=rfl
theorem zm1 (keep:List Nat) (J:Env→zb→Prop):goD P KP Q (.rep keep J::st) ρ H=J (ρ.keep keep) H:=rfl
theorem znA:goD P KP Q [] ρ H=Q .normal ρ H:=rfl
theorem zmX (e:AExit):goE P KP Q e [] ρ H=Q e ρ H:=rfl
theorem zfk (b:AC):goE P KP Q .ret (.code b::st) ρ H=goE P KP Q .ret st ρ H:=rfl
theorem zgc (id:Nat):goE P KP Q .ret (.blk id::st) ρ H=goE P KP Q .ret st ρ H:=rfl
theorem zgd (keep:List Nat) (J:Env→zb→Prop):goE P KP Q .ret (.rep keep J::st) ρ H=goE P KP Q .ret st ρ H:=rfl
theorem zd0 (i:Nat) (b:AC):goE P KP Q (.exit i) (.code b::st) ρ H=goE P KP Q (.exit i) st ρ H:=rfl
theorem zeN (i id:Nat):goE P KP Q (.exit i) (.blk id::st) ρ H=if i=id then goD P KP Q st ρ H else goE P KP Q (.exit i) st ρ H:=by
 simp only[goE,goD,D,zeq];split<;>rfl
theorem zex (i:Nat) (keep:List Nat) (J:Env→zb→Prop):goE P KP Q (.exit i) (.rep keep J::st) ρ H=goE P KP Q (.exit i) st ρ H:=rfl
variable {all l:List AItem} {d:Option Nat} {R:List Chk}
theorem znL:goI P KP Q all [] st ρ H=goD P KP Q st ρ H:=rfl
theorem zkD (op:AOp) (c:List Nat):goI P KP Q all (⟨d,none,op,c⟩::l) st ρ H=goO P KP Q all l st d op (zcK all c) ρ H:=rfl
theorem ziw (s:Nat) (w:Bool) (op:AOp) (c:List Nat):goI P KP Q all (⟨d,some (s,w),op,c⟩::l) st ρ H=goG P KP Q all l st (ρ s) w d op (zcK all c) ρ H:=by
 simp only[goI,List.map_cons,y0,ZP,gv,goG]
 cases hx:ρ s<;>try rfl
 ·rename_i b
  cases b<;>cases w<;>rfl
 ·rename_i vs
  cases vs<;>rfl
theorem zgG:goR P KP Q all l st [] ρ H=goI P KP Q all l st ρ H:=by simp[goR,Zi]
theorem ziF (items:List AItem):zcK items []=[]:=rfl
theorem zqn (op:AOp):goG P KP Q all l st (.bool true) true d op R ρ H=goO P KP Q all l st d op R ρ H:=rfl
theorem zqI (op:AOp):goG P KP Q all l st (.bool false) false d op R ρ H=goO P KP Q all l st d op R ρ H:=rfl
theorem zp1 (op:AOp):goG P KP Q all l st (.bool true) false d op R ρ H=goI P KP Q all l st (ρ.set d (.tup [])) H:=rfl
theorem zpr (op:AOp):goG P KP Q all l st (.bool false) true d op R ρ H=goI P KP Q all l st (ρ.set d (.tup [])) H:=rfl
theorem zpN (w:Bool) (op:AOp):goG P KP Q all l st (.tup []) w d op R ρ H=goI P KP Q all l st (ρ.set d (.tup [])) H:=rfl
theorem yz (op:AOp) (h:op.cls=.pure):goO P KP Q all l st d op [] ρ H=goV P KP Q all l st d ρ H (pev ρ op):=by
 simp only[goO,aop,h,goV]
 cases pev ρ op with
 | none=>rfl
 | some v=>simp only[zgG]
theorem zkh (op:AOp) (h:op.cls=.read):goO P KP Q all l st d op [] ρ H=goV P KP Q all l st d ρ H (rev ρ H op):=by
 simp only[goO,aop,h,goV]
 cases rev ρ H op with
 | none=>rfl
 | some v=>simp only[zgG]
theorem zk5 (v:AV):goV P KP Q all l st d ρ H (some v)=goI P KP Q all l st (ρ.set d v) H:=rfl
theorem zdI (op:AOp) (h:op.cls=.alloc):goO P KP Q all l st d op R ρ H=goA P KP Q all l st d R ρ H op (oev ρ op):=by
 simp only[goO,aop,h,goA]
 cases oev ρ op<;>rfl
theorem zw8 (x:Opd):goO P KP Q all l st d (.mv x) [] ρ H=goV P KP Q all l st d ρ H (pev ρ (.mv x)):=yz _ rfl
theorem zq5 (c a b:Opd):goO P KP Q all l st d (.pick c a b) [] ρ H=goV P KP Q all l st d ρ H (pev ρ (.pick c a b)):=yz _ rfl
theorem zkG (x:Opd):goO P KP Q all l st d (.nilchk x) [] ρ H=goV P KP Q all l st d ρ H (pev ρ (.nilchk x)):=yz _ rfl
theorem zwC (o:BinOp) (k:IntKind) (x y:Opd):goO P KP Q all l st d (.bi o k x y) [] ρ H=goV P KP Q all l st d ρ H (pev ρ (.bi o k x y)):=yz _ rfl
theorem zug (o:BinOp) (x y:Opd):goO P KP Q all l st d (.shf o x y) [] ρ H=goV P KP Q all l st d ρ H (pev ρ (.shf o x y)):=yz _ rfl
theorem zwI (o:BinOp) (x y:Opd):goO P KP Q all l st d (.bs o x y) [] ρ H=goV P KP Q all l st d ρ H (pev ρ (.bs o x y)):=yz _ rfl
theorem zwU (neg:Bool) (x y:Opd):goO P KP Q all l st d (.bb neg x y) [] ρ H=goV P KP Q all l st d ρ H (pev ρ (.bb neg x y)):=yz _ rfl
theorem zuw (neg:Bool) (ks:List K1) (x y:Opd):goO P KP Q all l st d (.eqa neg ks x y) [] ρ H=goV P KP Q all l st d ρ H (pev ρ (.eqa neg ks x y)):=yz _ rfl
theorem znU (neg:Bool) (x:Opd):goO P KP Q all l st d (.ifnil neg x) [] ρ H=goV P KP Q all l st d ρ H (pev ρ (.ifnil neg x)):=yz _ rfl
theorem zuh (x:Opd):goO P KP Q all l st d (.not x) [] ρ H=goV P KP Q all l st d ρ H (pev ρ (.not x)):=yz _ rfl
theorem ztY (zero:List AV) (parts:List (Nat×Nat×Opd)):goO P KP Q all l st d (.bld zero parts) [] ρ H=goV P KP Q all l st d ρ H (pev ρ (.bld zero parts)):=yz _ rfl
theorem zuf (sz len:Nat) (zero:List AV) (parts:List (Nat×Opd)):goO P KP Q all l st d (.bls sz len zero parts) [] ρ H=goV P KP Q all l st d ρ H (pev ρ (.bls sz len zero parts)):=yz _ rfl
theorem zpF (f:FuncId) (first caps:List Opd):goO P KP Q all l st d (.mkfn f first caps) [] ρ H=goV P KP Q all l st d ρ H (pev ρ (.mkfn f first caps)):=yz _ rfl
theorem zuj (x:Opd) (i:Nat):goO P KP Q all l st d (.ext x i) [] ρ H=goV P KP Q all l st d ρ H (pev ρ (.ext x i)):=yz _ rfl
theorem zw6 (off:Nat) (x:Opd):goO P KP Q all l st d (.fa off x) [] ρ H=goV P KP Q all l st d ρ H (pev ρ (.fa off x)):=yz _ rfl
theorem zwq (sz:Nat) (x i:Opd):goO P KP Q all l st d (.ia sz x i) [] ρ H=goV P KP Q all l st d ρ H (pev ρ (.ia sz x i)):=yz _ rfl
theorem zt5 (x i:Opd):goO P KP Q all l st d (.ixs x i) [] ρ H=goV P KP Q all l st d ρ H (pev ρ (.ixs x i)):=yz _ rfl
theorem zuE (x:Opd) (lo hi:Option Opd):goO P KP Q all l st d (.sls x lo hi) [] ρ H=goV P KP Q all l st d ρ H (pev ρ (.sls x lo hi)):=yz _ rfl
theorem zut (sz:Nat) (x:Opd) (lo hi mx:Option Opd):goO P KP Q all l st d (.sll sz x lo hi mx) [] ρ H=goV P KP Q all l st d ρ H (pev ρ (.sll sz x lo hi mx)):=yz _ rfl
theorem zuz (x:Opd):goO P KP Q all l st d (.len x) [] ρ H=goV P KP Q all l st d ρ H (pev ρ (.len x)):=yz _ rfl
theorem zq8 (x:Opd):goO P KP Q all l st d (.lens x) [] ρ H=goV P KP Q all l st d ρ H (pev ρ (.lens x)):=yz _ rfl
theorem zxq (mx:Bool) (x:Opd) (ys:List Opd):goO P KP Q all l st d (.mm mx x ys) [] ρ H=goV P KP Q all l st d ρ H (pev ρ (.mm mx x ys)):=yz _ rfl
theorem zqk (x:Opd):goO P KP Q all l st d (.boxv x) [] ρ H=goV P KP Q all l st d ρ H (pev ρ (.boxv x)):=yz _ rfl
theorem zxr (n:Nat) (ag:Bool) (x:Opd):goO P KP Q all l st d (.ld n ag x) [] ρ H=goV P KP Q all l st d ρ H (rev ρ H (.ld n ag x)):=zkh _ rfl
theorem zuF (kt:KT) (zero:AV) (ok:Bool) (m k:Opd):goO P KP Q all l st d (.lkp kt zero ok m k) [] ρ H=goV P KP Q all l st d ρ H (rev ρ H (.lkp kt zero ok m k)):=zkh _ rfl
theorem zn5 (zero:List AV):goO P KP Q all l st d (.alloc zero) R ρ H=goA P KP Q all l st d R ρ H (.alloc zero) (oev ρ (.alloc zero)):=zdI _ rfl
theorem zuC (x:Opd):goO P KP Q all l st d (.box x) R ρ H=goA P KP Q all l st d R ρ H (.box x) (oev ρ (.box x)):=zdI _ rfl
theorem zt2 (kt:KT):goO P KP Q all l st d (.mkm kt) R ρ H=goA P KP Q all l st d R ρ H (.mkm kt) (oev ρ (.mkm kt)):=zdI _ rfl
theorem zhN (items:List AItem) (k:Nat) (ks:List Nat):zcK items (k::ks)=zpV items[k]?++zcK items ks:=by
 simp only[zcK,List.flatMap_cons,zpV]<;>rfl
theorem zlu (n:Nat) (o:AOp):goR P KP Q all l st ((n,none,o)::R) ρ H=(rev ρ H o=some (ρ n)∧goR P KP Q all l st R ρ H):=by
 simp[goR,Zi,gv,and_assoc]
theorem zlS (n s:Nat) (w:Bool) (o:AOp):goR P KP Q all l st ((n,some (s,w),o)::R) ρ H=((gv (some (s,w)) ρ=some true→rev ρ H o=some (ρ n))∧goR P KP Q all l st R ρ H):=by
 simp[goR,Zi,and_assoc]
theorem zc {op:AOp} {x:AObj} (h:∀ b,H b=none→goR P KP Q all l st R (ρ.set d (yJ ρ b op)) (H.upd b x)):goA P KP Q all l st d R ρ H op (some x):=h
theorem zqg (f:FuncId) (args:List Opd):goO P KP Q all l st d (.call f args) R ρ H=goK P KP Q all l st d R ρ f (args.map (Opd.ev ρ)) H:=rfl
theorem zuD (sz bytes:Nat) (x y:Opd):goO P KP Q all l st d (.app sz bytes x y) R ρ H=goP P KP Q all l st d R ρ sz bytes (x.ev ρ) (y.ev ρ) H:=rfl
theorem zxg (n:Nat) (x y:Opd):goO P KP Q all l st d (.st n x y) R ρ H=goS P KP Q all l st d R ρ n (x.ev ρ) (y.ev ρ).cells (y.ev ρ).boxable H:=by
 simp only[goO,aop,AOp.cls,eff,goS]
 cases x.ev ρ<;>rfl
def goT (P:Program) (KP:AV→zb→Prop) (Q:AExit→Env→zb→Prop) (all l:List AItem) (st:List Fr) (d:Option Nat) (R:List Chk) (ρ:Env) (n b off:Nat) (y:List AV) (bx:Bool) (H:zb) (o:Option AObj):Prop :=
 match o with
 | some (.cells cs)=>y.length=n∧off+n≤cs.length∧bx=true∧goR P KP Q all l st R (ρ.set d (.tup [])) (H.upd b (.cells (splice cs off y)))
 | _=>False
theorem zm8 {b off n:Nat} {y:List AV} {bx:Bool}:goS P KP Q all l st d R ρ n (.ptr b off) y bx H=goT P KP Q all l st d R ρ n b off y bx H (H b):=by
 simp only[goS,goT]
theorem zje {b off n:Nat} {y cs:List AV} {bx:Bool}:goT P KP Q all l st d R ρ n b off y bx H (some (.cells cs))=(y.length=n∧off+n≤cs.length∧bx=true∧goR P KP Q all l st R (ρ.set d (.tup [])) (H.upd b (.cells (splice cs off y)))):=rfl
theorem za {f:FuncId} {args:List AV} {r:AV} (h:zg P f args r) (hk:goR P KP Q all l st R (ρ.set d r) H):goK P KP Q all l st d R ρ f args H:=h.use hk
theorem zY {f:FuncId} {args:List AV} {X:AEnd→zb→Prop} (h:zi P f args H X) (hk:∀ e H',X e H'→ZU (fun v H'=>goR P KP Q all l st R (ρ.set d v) H') KP e H'):goK P KP Q all l st d R ρ f args H:=h.mono hk
theorem zuq (t e:AC):goB P KP Q (.bool true) t e st ρ H=goC P KP Q t st ρ H:=rfl
theorem zus (t e:AC):goB P KP Q (.bool false) t e st ρ H=goC P KP Q e st ρ H:=rfl
theorem zqT {keep:List Nat} {b:AC} (I:Nat→Env→zb→Prop) (n0:Nat) (h0:I n0 (ρ.keep keep) H)
  (hr:∀ n ρ H (J:Env→zb→Prop),I n ρ H→(∀ m ρ' H',m<n→I m ρ' H'→J ρ' H')→goC P KP Q b (.rep keep J::st) ρ H):goL P KP Q keep b st ρ H:=by
 refine⟨I,⟨n0,h0⟩,fun n ρ H hI=>?_⟩
 exact hr n ρ H (fun ρ' H'=>∃ m,m<n∧I m ρ' H') hI fun m ρ' H' hm hi=>⟨m,hm,hi⟩
end
theorem upd_same (H:zb) (b:Nat) (o:AObj):(H.upd b o) b=some o:=by simp[zb.upd]
theorem upd_ne {H:zb} {b c:Nat} {o:AObj} (h:c≠b):(H.upd b o) c=H c:=by simp[zb.upd,h]
theorem zfd (H:zb) (b:Nat) (o o':AObj):(H.upd b o).upd b o'=H.upd b o':=by funext c;simp only[zb.upd];split<;>rfl
theorem yF {H:zb} {b c:Nat} {o:AObj} (h:(H.upd b o) c=none):c≠b:=fun e=>by subst e;simp[zb.upd] at h
theorem zrp {H:zb} {b c:Nat} {o:AObj} (h:(H.upd b o) c=none):H c=none:=by have:=yF h;simpa[zb.upd,this] using h
def ziM (ρ:Env):List Nat→List (Nat×AV)
 | []=>[]
 | n::l=>(n,ρ n)::ziM ρ l
theorem zi5 (ρ:Env):ziM ρ []=[]:=rfl
theorem zh8 (ρ:Env) (n:Nat) (l:List Nat):ziM ρ (n::l)=(n,ρ n)::ziM ρ l:=rfl
theorem zm0 (ρ:Env) (l:List Nat):ρ.keep l=ze (ziM ρ l):=by
 unfold Env.keep
 congr 1
 induction l with
 | nil=>rfl
 | cons n l ih=>simp[ziM,ih]
theorem znz (ρ:Env):[].map (Opd.ev ρ)=[]:=rfl
theorem zku (ρ:Env) (x:Opd) (xs:List Opd):(x::xs).map (Opd.ev ρ)=x.ev ρ::xs.map (Opd.ev ρ):=rfl
theorem zuy (a b:Prop):(if True then a else b)=a:=if_pos trivial
theorem zux (a b:Prop):(if False then a else b)=b:=if_neg id
theorem zun (a b:Option AV):(if True then a else b)=a:=if_pos trivial
theorem zuB (a b:Option AV):(if False then a else b)=b:=if_neg id
theorem zuc (a b:AV):(if True then a else b)=a:=if_pos trivial
theorem zt6 (a b:AV):(if False then a else b)=b:=if_neg id
theorem zlp (ρ:Env) (c:AV):ρ.set none c=ρ:=rfl
theorem zlD (l:List (Nat×AV)) (d:Nat) (c:AV):(ze l).set (some d) c=ze ((d,c)::l):=rfl
theorem ziT (n:Nat):ze [] n=.any:=rfl
theorem zxc (ρ:Env) (n:Nat):(Opd.t n).ev ρ=ρ n:=rfl
theorem zxo (ρ:Env) (c:AV):(Opd.k c).ev ρ=c:=rfl
theorem zw1 (a b:Int):(a==b)=decide (a=b):=rfl
theorem zxf (a b:Int):(a != b)=decide (a≠b):=by rw[decide_not];rfl
theorem zxh (a b:List UInt8):(a==b)=decide (a=b):=by by_cases h:a=b<;>simp[h]
theorem wrap64 {n:Int} (h1:-9223372036854775808≤n) (h2:n<9223372036854775808):IntKind.wrap .i64 n=n:=by rw[IntKind.wrap_i64];omega
def zwp (S:AV→AV) (P:Program) (KP:AV→zb→Prop) (Q:AExit→Env→zb→Prop) (all l:List AItem) (st:List Fr) (d:Option Nat) (R:List Chk) (ρ:Env) (sz bytes:Nat) (zero:List AV) (x y:AV) (H:zb):Prop :=
 zhK S sz bytes zero x y H (fun v H'=>goR P KP Q all l st R (ρ.set d v) H')
section
variable {P:Program} {KP:AV→zb→Prop} {Q:AExit→Env→zb→Prop} {st:List Fr} {ρ:Env} {H:zb} {all l:List AItem} {d:Option Nat} {R:List Chk}
theorem zrI (sz bytes:Nat) (zero:List AV) (x y:Opd):goO P KP Q all l st d (.appm sz bytes zero x y) R ρ H=zwp AV.strip1 P KP Q all l st d R ρ sz bytes zero (x.ev ρ) (y.ev ρ) H:=rfl
theorem zqx (sz n:Nat) (zero:List AV) (qs:List (Nat×Opd)):goO P KP Q all l st d (.blsm sz n zero qs) R ρ H=goA P KP Q all l st d R ρ H (.blsm sz n zero qs) (oev ρ (.blsm sz n zero qs)):=zdI _ rfl
end
theorem steps:type_of% (And.intro @go_skip<|And.intro @zrR<|And.intro @zqu<|And.intro @zm3<|And.intro @zkP<|And.intro @zkd<|And.intro @znG<|And.intro @go_ret<|And.intro @go_loop <|
 And.intro @zlH<|And.intro @zn6<|And.intro @zm1<|And.intro @znA<|And.intro @zmX<|And.intro @zfk<|And.intro @zgc<|And.intro @zgd<|And.intro @zd0<|And.intro @zeN<|And.intro @zex <|
 And.intro @znL<|And.intro @zkD<|And.intro @ziw<|And.intro @zgG<|And.intro @ziF<|And.intro @zhN<|And.intro @zhf<|And.intro @zlu<|And.intro @zlS<|And.intro @zqn<|And.intro @zqI<|And.intro @zp1<|And.intro @zpr<|And.intro @zpN <|
 And.intro @zk5<|And.intro @zw8<|And.intro @zq5<|And.intro @zkG<|And.intro @zwC<|And.intro @zug<|And.intro @zwI<|And.intro @zwU<|And.intro @zuw<|And.intro @znU<|And.intro @zuh<|And.intro @ztY<|And.intro @zuf<|And.intro @zpF<|And.intro @zuj<|And.intro @zw6<|And.intro @zwq<|And.intro @zt5<|And.intro @zuE<|And.intro @zrI<|And.intro @zqx<|And.intro @zut<|And.intro @zuz<|And.intro @zq8<|And.intro @zxq<|And.intro @zqk<|And.intro @zxr<|And.intro @zuF<|And.intro @zn5<|And.intro @zuC<|And.intro @zt2<|And.intro @zqg<|And.intro @zuD<|And.intro @zxg<|And.intro @zm8<|And.intro @zje<|And.intro @zuq<|And.intro @zus <|
 And.intro @zm0<|And.intro @zlp<|And.intro @zlD<|And.intro @ziT<|And.intro @zhr<|And.intro @zxc<|And.intro @zxo<|And.intro @zw1<|And.intro @zxf<|And.intro @zxh <|
 And.intro @upd_same<|And.intro @zfd<|And.intro @zku<|And.intro @znz<|And.intro @zh8<|And.intro @zi5<|And.intro @zuy<|And.intro @zux<|And.intro @zun<|And.intro @zuB<|And.intro @zuc<|And.intro @zt6<|And.intro @and_self<|And.intro @true_and<|@and_true) :=
 And.intro @go_skip<|And.intro @zrR<|And.intro @zqu<|And.intro @zm3<|And.intro @zkP<|And.intro @zkd<|And.intro @znG<|And.intro @go_ret<|And.intro @go_loop <|
 And.intro @zlH<|And.intro @zn6<|And.intro @zm1<|And.intro @znA<|And.intro @zmX<|And.intro @zfk<|And.intro @zgc<|And.intro @zgd<|And.intro @zd0<|And.intro @zeN<|And.intro @zex <|
 And.intro @znL<|And.intro @zkD<|And.intro @ziw<|And.intro @zgG<|And.intro @ziF<|And.intro @zhN<|And.intro @zhf<|And.intro @zlu<|And.intro @zlS<|And.intro @zqn<|And.intro @zqI<|And.intro @zp1<|And.intro @zpr<|And.intro @zpN <|
 And.intro @zk5<|And.intro @zw8<|And.intro @zq5<|And.intro @zkG<|And.intro @zwC<|And.intro @zug<|And.intro @zwI<|And.intro @zwU<|And.intro @zuw<|And.intro @znU<|And.intro @zuh<|And.intro @ztY<|And.intro @zuf<|And.intro @zpF<|And.intro @zuj<|And.intro @zw6<|And.intro @zwq<|And.intro @zt5<|And.intro @zuE<|And.intro @zrI<|And.intro @zqx<|And.intro @zut<|And.intro @zuz<|And.intro @zq8<|And.intro @zxq<|And.intro @zqk<|And.intro @zxr<|And.intro @zuF<|And.intro @zn5<|And.intro @zuC<|And.intro @zt2<|And.intro @zqg<|And.intro @zuD<|And.intro @zxg<|And.intro @zm8<|And.intro @zje<|And.intro @zuq<|And.intro @zus <|
 And.intro @zm0<|And.intro @zlp<|And.intro @zlD<|And.intro @ziT<|And.intro @zhr<|And.intro @zxc<|And.intro @zxo<|And.intro @zw1<|And.intro @zxf<|And.intro @zxh <|
 And.intro @upd_same<|And.intro @zfd<|And.intro @zku<|And.intro @znz<|And.intro @zh8<|And.intro @zi5<|And.intro @zuy<|And.intro @zux<|And.intro @zun<|And.intro @zuB<|And.intro @zuc<|And.intro @zt6<|And.intro @and_self<|And.intro @true_and<|@and_true
theorem zg.go {P:Program} {f:FuncId} (af:AFn) (hc:zh P f af=true) {args:List AV} {r:AV} (hnp:args.length≤af.np)
  (h:∀ KP Q,(∀ e ρ H vs,(∀ i,e≠.exit i)→zG ρ H af.res=some vs→(zd vs).strip=r→Q e ρ H)→goC P KP Q af.body [] (ze (zH 0 args)) zb.emp):zg P f args r :=
 zg.of_fn af hc hnp (h _ _ fun e ρ H vs he hv hr=>zok he ⟨vs,hv,hr⟩)
def zK (H:zb) (o:Own) (n sz:Nat):Prop :=
 match o with
 | .no=>False
 | .nil=>n=0
 | .full=>True
 | .tip b d=>H b=some (.tip (d+n) sz)
def Kept (H:zb) (o:Own) (H':zb):Prop:=∀ b x,H b=some x→(∀ d,o≠.tip b d)→H' b=some x
def zmz (H:zb) (o o':Own):Prop:=∀ b d,o'=.tip b d→H b=none∨∃ d0,o=.tip b d0
theorem zK.nil (H:zb) (sz:Nat):zK H .nil 0 sz:=rfl
theorem zK.full (H:zb) (n sz:Nat):zK H .full n sz:=trivial
theorem zsj {P:Program} {KP:AV→zb→Prop} {Q:AExit→Env→zb→Prop} {st:List Fr} {ρ:Env} {H:zb} {all l:List AItem} {d:Option Nat} {R:List Chk} {sz bytes:Nat} {o o2:Own} {xs ys:List (List AV)}
  (how:zK H o xs.length sz) (h1:(xs.length+ys.length)*bytes≤140737488355328) (h2:xs.length+ys.length≤maxLen)
  (hk:∀ o' H',zK H' o' (xs.length+ys.length) sz→Kept H o H'→zmz H o o'→goR P KP Q all l st R (ρ.set d (.sl o' sz (xs++ys.map (·.map AV.strip1)))) H') :
  goP P KP Q all l st d R ρ sz bytes (.sl o sz xs) (.sl o2 sz ys) H:=by
 refine⟨rfl,rfl,h1,h2,?_⟩
 cases o with
 | no=>exact how.elim
 | nil =>
  refine⟨fun hy=>?_,fun hy b hb=>hk _ _ (by simp[zK,zb.upd]) (fun c x hc hn=>?_) (fun c d' e=>?_)⟩
  ·subst hy
   have hx:xs=[]:=List.eq_nil_of_length_eq_zero how
   subst hx
   exact hk .nil H rfl (fun b x hb _=>hb) (fun b d' e=>by cases e)
  ·have hne:c≠b:=fun e=>by subst e;rw[hb] at hc;cases hc
   simp[zb.upd,hne,hc]
  ·cases e;exact .inl hb
 | full =>
  refine⟨fun hy=>?_,fun hy b hb=>hk _ _ (by simp[zK,zb.upd]) (fun c x hc hn=>?_) (fun c d' e=>?_)⟩
  ·subst hy
   have:=hk .full H trivial (fun b x hb _=>hb) (fun b d' e=>by cases e)
   simpa using this
  ·have hne:c≠b:=fun e=>by subst e;rw[hb] at hc;cases hc
   simp[zb.upd,hne,hc]
  ·cases e;exact .inl hb
 | tip b dr =>
  refine⟨how,fun b' dr' hb'=>hk _ _ (by simp[zK,zb.upd]) (fun c x hc hn=>?_) (fun c d' e=>?_)⟩
  ·have hcb:c≠b:=fun e=>by subst e;exact hn dr rfl
   have hcb':c≠b':=fun e=>by subst e;simp[zb.del,hcb,hc] at hb'
   simp[zb.upd,zb.del,hcb,hcb',hc]
  ·cases e
   by_cases hbb:b'=b
   ·subst hbb;exact .inr ⟨dr,rfl⟩
   ·left;simpa[zb.del,hbb] using hb'
theorem zi.go {P:Program} {f:FuncId} (af:AFn) (hc:zh P f af=true) {args:List AV} {H:zb} {R:AV→zb→Prop} (hnp:args.length≤af.np)
  (h:∀ KP Q,(∀ e ρ H1 H2 vs,(∀ i,e≠.exit i)→zG ρ H1 af.res=some vs→Low H2 H1→R (zd vs).strip H2→Q e ρ H1)→goC P KP Q af.body [] (ze (zH 0 args)) H):zi P f args H (fun e H'=>∃ v,e=.ret v∧R v H'):=by
 refine zi.strip ((zi.of_fn (Q:=fun e H'=>match e with|.ret v=>R v.strip H'|.pan _=>False) af hc hnp (h _ _ fun e ρ H1 H2 vs he hv hs hr=>?_)).mono fun e H' hq=>?_)
 ·cases e with
  | exit i=>exact absurd rfl (he i)
  | normal=>simp only[zjQ,hv];exact⟨H2,hs,hr⟩
  | ret=>simp only[zjQ,hv];exact⟨H2,hs,hr⟩
 ·cases e with
  | ret v=>exact⟨_,rfl,hq⟩
  | pan v=>exact hq.elim
theorem zfa {P:Program} {KP:AV→zb→Prop} {Q:AExit→Env→zb→Prop} {st:List Fr} {ρ:Env} {H:zb} {all l:List AItem} {d:Option Nat} {R:List Chk} {f:FuncId} {args:List AV} {X:AV→zb→Prop}
  (h:zi P f args H (fun e H'=>∃ v,e=.ret v∧X v H')) (hk:∀ v H',X v H'→goR P KP Q all l st R (ρ.set d v) H'):goK P KP Q all l st d R ρ f args H :=
 h.mono fun e H' ⟨v,he,hx⟩=>by subst he;exact hk v H' hx
theorem zi.low {P:Program} {f:FuncId} {args:List AV} {H:zb} {Q:AEnd→zb→Prop} (h:zi P f (args.map AV.strip) H Q):zi P f args H Q :=
 fun γ w vs ht hs hv=>h γ w vs ht hs ⟨by simpa using hv.1,fun i c v hc hvv=>by
  rw[YH] at hc
  cases hx:args[i]? with
  | none=>simp[hx] at hc
  | some x=>simp only[hx,zak,Al1] at hc;subst hc;exact(hv.2 i x v hx hvv).strip⟩
theorem zg.low {P:Program} {f:FuncId} {args:List AV} {r:AV} (h:zg P f (args.map AV.strip) r):zg P f args r:=zi.low h
theorem zpD (H:zb):Sub H H:=fun _ _ h=>h
theorem zr3 {A H:zb} {b:Nat} {o:AObj} (h:Sub A H) (hb:H b=none):Sub A (H.upd b o):=fun c x hc=>by
 have hne:c≠b:=fun e=>by subst e;have:=h _ _ hc;rw[hb] at this;cases this
 simp only[zb.upd,hne,if_false];exact h c x hc
structure OwnF (H0 H:zb) (o:Own) (n sz:Nat):Prop where
 sub:Sub H0 H
 own:zK H o n sz
 new:∀ b d,o=.tip b d→H0 b=none
theorem OwnF.nil (H:zb) (sz:Nat):OwnF H H .nil 0 sz:=⟨zpD H,rfl,fun b d e=>by cases e⟩
theorem OwnF.step {H0 H H':zb} {o o':Own} {n n' sz:Nat} (h:OwnF H0 H o n sz) (h1:zK H' o' n' sz) (h2:Kept H o H') (h3:zmz H o o'):OwnF H0 H' o' n' sz :=
 ⟨fun b x hb=>h2 b x (h.sub b x hb) fun d e=>(by have:=h.new b d e;rw[hb] at this;cases this),h1,fun b d e=>by
  rcases h3 b d e with h4|⟨d0,h4⟩
  ·cases hb:H0 b with
   | none=>rfl
   | some x=>have:=h.sub b x hb;rw[h4] at this;cases this
  ·exact h.new b d0 h4⟩
theorem OwnF.cast {H0 H:zb} {o:Own} {n n' sz:Nat} (h:OwnF H0 H o n sz) (e:n=n'):OwnF H0 H o n' sz:=e▸h
theorem zK.upd {H:zb} {o:Own} {n sz b:Nat} {x:AObj} (h:zK H o n sz) (hb:H b=none):zK (H.upd b x) o n sz:=by
 cases o with
 | tip c d =>
  have hc:H c=some (.tip (d+n) sz):=h
  have hne:c≠b:=fun e=>by subst e;rw[hb] at hc;cases hc
  show (H.upd b x) c=_
  simp[zb.upd,hne,hc]
 | no=>exact h
 | nil=>exact h
 | full=>exact h
theorem OwnF.upd {H0 H:zb} {o:Own} {n sz b:Nat} {x:AObj} (h:OwnF H0 H o n sz) (hb:H b=none):OwnF H0 (H.upd b x) o n sz:=⟨zr3 h.sub hb,h.own.upd hb,h.new⟩
theorem zd6 {H:zb} {b c:Nat} {x:AObj} (hb:H b=none) (hc:H c=some x):b≠c:=fun e=>by subst e;rw[hb] at hc;cases hc
theorem zge (c:AV) (cs:List AV) (v:AV) (vs:List AV):splice (c::cs) 0 (v::vs)=v::splice cs 0 vs:=by simp[splice]
theorem zf4 (c:AV) (cs:List AV) (n:Nat) (vs:List AV):splice (c::cs) (n+1) vs=c::splice cs n vs:=by simp[splice,Nat.add_right_comm]
theorem zf5 (cs:List AV):splice cs 0 []=cs:=by simp[splice]
open Go.ChangeAt Go.ChangeShapes Go.RowKit Go.WideElems Go.WideShapes
def zhy:Gh:=fun _=>.imm
section
variable {P:Program} {m:Nat} {t:TypeId}
theorem zca {γ:Gh} {w:World} {c:AV} {v:Value} (h:Rep γ w c v) (h1:v.oneCell'=true):zo γ w [c] [v] :=
 ⟨rfl,fun i u hu=>by cases i<;>simp at hu;subst hu;exact h1,fun i d u hd hu=>by cases i<;>simp at hd hu;subst hd;subst hu;exact h⟩
theorem addr_add_add (a:Addr) (x y:Nat):(a.add x).add y=a.add (x+y):=by
 unfold Addr.add
 by_cases hx:x=0
 ·subst hx;simp
 ·by_cases hy:y=0
  ·subst hy;simp[hx]
  ·simp[hx,hy,Nat.add_assoc]
theorem zf2 {H:Type} {e:TypeId}:∀ {ds:List (DataW H)} {d:DataW H},d∈ds→∀ n∈d.weights P e,n∈DataW.weightsAll P e ds
 | x::ds,d,hd,n,hn=>by
  simp only[DataW.weightsAll,List.mem_append]
  rcases List.mem_cons.1 hd with rfl|hd
  ·exact .inl hn
  ·exact .inr (zf2 hd n hn)
def flds (P:Program) (t:TypeId):Option (List (Nat×TypeId)) :=
 match P.underlying t with
 | some (.struct fs)=>some (fs.toList.map fun f=>(f.offset,f.type))
 | _=>none
theorem zis {P:Program} {t:TypeId} {l:List (Nat×TypeId)} (h:flds P t=some l):∃ fs:Array Field,P.underlying t=some (.struct fs)∧fs.toList.map (fun f=>(f.offset,f.type))=l:=by
 unfold flds at h
 split at h
 ·rename_i fs hf;simp only[Al1] at h;exact⟨fs,hf,h⟩
 ·cases h
end
theorem isAgg {P:Program} {W:World} {r:Reach} {b:Nat} {t:TypeId} {v:Value} {l:List (Nat×TypeId)} (ht:flds P t=some l) (h:Value.okWide P W r b t v):∃ cs,v=.agg cs:=by
 obtain⟨fs,hf,_⟩:=zis ht
 simp only[Value.okWide,hf] at h
 obtain⟨cs,rfl,_⟩:=h
 exact⟨cs,rfl⟩
theorem sized {P:Program} {H:Type} {ts:List TypeId} {ds:List (DataW H)} (h:(DataW.weightsEach P ts ds).all (·≤reachBytes)=true) {j:Nat} {t:TypeId} {d:DataW H} (ht:ts[j]?=some t) (hd:ds[j]?=some d):∀ n∈d.weights P t,n≤reachBytes:=fun n hn=>by
 have:=YV.1 h n (DataW.weights_mem_each ht hd n hn)
 simpa using this
theorem zd1 {P:Program} {H:Type} {enc:TypeId×Value→H} (hl:laidOutB P=true) {W W':World} {sp':Nat→Bool}:∀ {ts:List TypeId} {vs:List Value} {ds:List (DataW H)} {ps:List MemPlace},
  (∀ t∈ts,P.readableRec t=true∧t<P.types.size)→DataW.TrodAll enc P W 0 (fun _=>true) true ts vs ds ps→(∀ p∈ps,W.sameAt W' p)→(∀ p∈ps,sp' p.block=true)→DataW.TrodAll enc P W' 0 sp' true ts vs ds ps
 | [],_,_,_,_,h,_,_=>by
  obtain⟨rfl,rfl,rfl⟩:=trodAll_nil h
  exact rfl
 | t::ts,_,_,_,hr,h,hs,hsp=>by
  obtain⟨v,vs1,d,ds1,a,b,rfl,rfl,rfl,h1,h2⟩:=trodAll_cons h
  exact⟨a,b,Trod_stays hl (hr t (Zr ..)).1 (hr t (Zr ..)).2 h1 (fun p hp=>hs p (ZZ _ hp)) (fun p hp=>hsp p (ZZ _ hp)),
   zd1 hl (fun t ht=>hr t (Zm _ ht)) h2 (fun p hp=>hs p (List.mem_append_right _ hp)) (fun p hp=>hsp p (List.mem_append_right _ hp)),rfl⟩
theorem zfz {P:Program} {H:Type} {enc:TypeId×Value→H} {f:Func} {s:ChangeSpec} {apart fresh handsOn again:Bool} {W W':World} {args:Array Value} {v:Value} {ds gs:List (DataW H)} {before pa pv:List MemPlace}
  (hW:DataW.Whole enc P f.params.toList s.vars apart W args.toList ds gs before)
  (hres:∀(b:Nat) (sp:Nat→Bool) (hd:Bool),DataW.TrodAll enc P W' b sp hd f.resultTypes.toList (v.resultList f.resultTypes.size) (s.fn H (ds++gs)).results [])
  (hargs:∀ sp:Nat→Bool,(∀ p∈before,sp p.block=true)→DataW.TrodAll enc P W' 0 sp true f.params.toList args.toList (s.fn H (ds++gs)).args pa)
  (hvars:∀ sp:Nat→Bool,(∀ p∈before,sp p.block=true)→DataW.TrodVars enc P W' sp s.vars (s.fn H (ds++gs)).vars pv)
  (hps:before=pa++pv) (hk:W.keptBut W' (·∈before)) (hfz:∀ a,a.block<W.heap.size→W'.frozen? a=W.frozen? a)
  (hok:∀(j:Nat) (t:TypeId) (r:Value),f.resultTypes[j]?=some t→(v.resultList f.resultTypes.size)[j]?=some r→Value.okWide P W' .any 0 t r) :
  s.post enc P f apart fresh handsOn again W args v W':=by
 have hlt:∀ p∈before,p.block<W.heap.size:=fun p hp=>hW.lt p hp
 have hold:∀ p∈before,(fun b=>decide (b<W.heap.size)) p.block=true:=fun p hp=>by simpa using hlt p hp
 refine⟨ds,gs,before,[],pa,pv,hW,hres _ _ _,hargs _ hold,hvars _ hold,World.keptBut_mono (fun p hp=>⟨hp,?_⟩) hk,fun _=>?_⟩
 ·rw[hps,List.mem_append] at hp
  exact Or.inr hp
 ·obtain⟨_,_,_,_,_,hz,hn⟩:=hW
  refine⟨hok,_,_,([]++pa)++pv,⟨[]++pa,pv,trodAll_append (hargs _ (fun _ _=>rfl)) (hres _ _ _),hvars _ (fun _ _=>rfl),rfl,?_,?_⟩,?_⟩
  ·intro b off hp
   have hp':MemPlace.cell b off∈before:=by rw[hps];simpa using hp
   rw[hfz _ (hlt _ hp')]
   exact hz b off hp'
  ·intro ha
   have:=hn ha
   rw[hps] at this
   simpa using this
  ·intro p hp _
   rw[hps]
   simpa using hp
theorem zj9 {P:Program} {f:FuncId} {fn:Func} {s:ChangeSpec} {apart fresh handsOn again:Bool} {H:Type} {enc:TypeId×Value→H} {W:World} {args:Array Value} {ds gs:List (DataW H)} {before:List MemPlace} {tb:TypeId}
  (hl:laidOutB P=true) (hvars:s.vars=[]) (hr:∀ t∈fn.params.toList,P.readableRec t=true∧t<P.types.size) (hres:fn.resultTypes=#[tb]) (htb:P.underlying tb=some .bool)
  (hW:DataW.Whole enc P fn.params.toList s.vars apart W args.toList ds gs before) (hs:s.fn H (ds++gs)={ results:=[.lit (.bool true)],args:=ds })
  {avs:List AV} (htab:za9 zhy W) (hrep:yg zhy W avs args.toList) (hp:zg P f avs (.bool true)) :
  Calls P f args W fun e W'=>∃ v,e=.returned v∧s.post enc P fn apart fresh handsOn again W args v W':=by
 have h:=hp zhy W args.toList htab (fun b o hb=>by simp[zb.emp] at hb) hrep
 have ha:args.toList.toArray=args:=by simp
 rw[ha] at h
 refine h.mono fun e W' ⟨γ',H',r,hext,_,_,hend,hq,_⟩=>?_
 subst hq
 cases e with
 | panicked ch=>exact hend.elim
 | outgrown=>exact hend.elim
 | returned v =>
  have hv:Rep γ' W' (.bool true) v:=hend
  cases hv
  refine⟨_,rfl,?_⟩
  have hframe:∀ b,b<W.heap.size→W'.heap[b]?=W.heap[b]?:=fun b hb=>(hext.frame b hb (by simp[zb.emp])).2
  obtain⟨p,q,hA,hV,rfl,hfz,hnd⟩:=id hW
  rw[hvars] at hV
  obtain⟨rfl,rfl⟩:=trodVars_none hV
  have hlt:∀ x∈p,x.block<W.heap.size:=fun x hx=>hW.lt x (ZZ _ hx)
  have hsame:∀ x∈p,W.sameAt W' x:=fun x hx=>by
   have h1:=hframe _ (hlt x hx)
   cases x with
   | cell b off =>
    simp only[MemPlace.block] at h1
    simp only[World.sameAt,World.cell?,h1]
   | map b=>exact h1
  refine zfz (pa:=p) (pv:=[]) hW (fun b sp hd=>?_) (fun sp hsp=>?_) (fun sp hsp=>?_) rfl ⟨hext.os,hext.output,fun i hi=>?_⟩ hext.frozen ?_
  ·rw[hres,hs]
   exact trodAll_mk1 (shut_bool htb true)
  ·rw[hs]
   exact zd1 hl hr hA hsame fun x hx=>hsp x (ZZ _ hx)
  ·rw[hs,hvars]
   exact rfl
  ·rw[hframe i hi]
   cases W.heap[i]? with
   | none=>rfl
   | some o=>cases o<;>first|exact⟨rfl,rfl,rfl,fun _ _=>rfl⟩|exact .inr ⟨rfl,rfl⟩|rfl
  ·exact ok_one hres rfl (okWide_bool_mk htb true)
end Go.Ab
namespace Go.Ab
def zax (ρ:Env):List (Nat×AV)→Env
 | []=>ρ
 | (d,v)::r=>(zax ρ r).set (some d) v
theorem zhb (ρ:Env):zax ρ []=ρ:=rfl
theorem zgg (ρ:Env) (d:Nat) (v:AV) (r:List (Nat×AV)):zax ρ ((d,v)::r)=(zax ρ r).set (some d) v:=rfl
section
variable {P:Program} {KP:AV→zb→Prop} {Q:AExit→Env→zb→Prop} {st:List Fr} {ρ:Env} {H:zb} {keep:List Nat} {b:AC}
theorem goJ {J:Env→zb→Prop} {a b:Env} {H:zb} (h:J a H) (e:b=a):J b H:=e▸h
theorem zcZ {σ:Type} (m:σ→List (Nat×AV)) (I:σ→zb→Prop) (meas:σ→Nat) (s0:σ) (hm:ρ.keep keep=(zax ρ (m s0)).keep keep) (h0:I s0 H)
  (hr:∀ s H' J,I s H'→(∀ s' H'',meas s'<meas s→I s' H''→J ((zax ρ (m s')).keep keep) H'')→goC P KP Q b (.rep keep J::st) ((zax ρ (m s)).keep keep) H'):goL P KP Q keep b st ρ H:=by
 refine zqT (fun n ρ' H'=>∃ s,n=meas s∧ρ'=(zax ρ (m s)).keep keep∧I s H') (meas s0) ⟨s0,rfl,hm,h0⟩ ?_
 rintro n ρ' H' J ⟨s,rfl,rfl,hs⟩ hJ
 exact hr s H' J hs fun s' H'' h1 h2=>hJ _ _ _ h1 ⟨s',rfl,rfl,h2⟩
theorem zf {α σ:Type} (l:List α) (ci:Nat) (m:σ→List (Nat×AV)) (I:List α→List α→σ→zb→Prop) (s0:σ) (hm:ρ.keep keep=(zax ρ ((ci,.int .i64 0)::m s0)).keep keep) (h0:I [] l s0 H)
  (hend:∀ s H' J,I l [] s H'→¬ ((l.length:Int)<l.length)→goC P KP Q b (.rep keep J::st) ((zax ρ ((ci,.int .i64 l.length)::m s)).keep keep) H')
  (hr:∀ done x rest s H' J,l=done++x::rest→(done.length:Int)<l.length→done.length<l.length→I done (x::rest) s H' →
   (∀ s' H'',I (done++[x]) rest s' H''→J ((zax ρ ((ci,.int .i64 ((done.length:Int)+1))::m s')).keep keep) H'')→goC P KP Q b (.rep keep J::st) ((zax ρ ((ci,.int .i64 done.length)::m s)).keep keep) H'):goL P KP Q keep b st ρ H:=by
 refine zcZ (σ:=List α×List α×σ) (fun s=>(ci,.int .i64 s.1.length)::m s.2.2) (fun s H'=>l=s.1++s.2.1∧I s.1 s.2.1 s.2.2 H') (fun s=>s.2.1.length) ([],l,s0) (by simpa using hm) ⟨rfl,h0⟩ ?_
 rintro⟨done,rest,s⟩ H' J ⟨hl,hi⟩ hJ
 cases rest with
 | nil =>
  simp only[List.append_nil] at hl
  subst hl
  exact hend s H' J hi (by omega)
 | cons x rest =>
  have h1:done.length<l.length:=by rw[hl];simp
  refine hr done x rest s H' J hl (by omega) h1 hi fun s' H'' hi'=>?_
  have:=hJ (done++[x],rest,s') H'' (by simp) ⟨by simp[hl],hi'⟩
  simpa using this
end
section
variable {P:Program} {KP:AV→zb→Prop} {Q:AExit→Env→zb→Prop} {st:List Fr} {ρ:Env} {H:zb} {all l:List AItem} {d:Option Nat} {R:List Chk}
def goW (P:Program) (KP:AV→zb→Prop) (Q:AExit→Env→zb→Prop) (all l:List AItem) (st:List Fr) (d:Option Nat) (R:List Chk) (ρ:Env) (v:AV) (args:List AV) (H:zb):Prop :=
 match v with
 | .clo f first caps=>Program.callable P f=true∧goK P KP Q all l st d R ρ f (first++args++caps) H
 | _=>False
theorem znQ (g:Opd) (args:List Opd):goO P KP Q all l st d (.callv g args) R ρ H=goW P KP Q all l st d R ρ (g.ev ρ) (args.map (Opd.ev ρ)) H:=by
 simp only[goO,aop,AOp.cls,eff,goW,goK]
 cases g.ev ρ<;>rfl
theorem znl (f:FuncId) (first caps args:List AV):goW P KP Q all l st d R ρ (.clo f first caps) args H=(Program.callable P f=true∧goK P KP Q all l st d R ρ f (first++args++caps) H):=rfl
def goN (KP:AV→zb→Prop) (v:AV) (H:zb):Prop :=
 match v with
 | .ifc t y=>KP (.ifc t y) H
 | _=>False
theorem zur (x:Opd):goO P KP Q all l st d (.pan x) R ρ H=goN KP (x.ev ρ) H:=by
 simp only[goO,aop,AOp.cls,eff,goN]
 cases x.ev ρ<;>rfl
theorem zne (t:TypeId) (y:AV):goN KP (.ifc t y) H=KP (.ifc t y) H:=rfl
def goM (P:Program) (KP:AV→zb→Prop) (Q:AExit→Env→zb→Prop) (all l:List AItem) (st:List Fr) (d:Option Nat) (R:List Chk) (ρ:Env) (kt:KT) (b:Nat) (k v:AV) (H:zb) (o:Option AObj):Prop :=
 match o with
 | some (.map kt' es)=>kt'=kt∧kt.fits k=true∧goR P KP Q all l st R (ρ.set d (.tup [])) (H.upd b (.map kt (zbs es k v)))
 | _=>False
def zuU (P:Program) (KP:AV→zb→Prop) (Q:AExit→Env→zb→Prop) (all l:List AItem) (st:List Fr) (d:Option Nat) (R:List Chk) (ρ:Env) (kt:KT) (m k v:AV) (H:zb):Prop :=
 match m with
 | .mp b=>goM P KP Q all l st d R ρ kt b k v H (H b)
 | _=>False
theorem zum (kt:KT) (m k v:Opd):goO P KP Q all l st d (.mup kt m k v) R ρ H=zuU P KP Q all l st d R ρ kt (m.ev ρ) (k.ev ρ) (v.ev ρ) H:=by
 simp only[goO,aop,AOp.cls,eff,zuU,goM]
 cases m.ev ρ<;>rfl
theorem znt (kt:KT) (b:Nat) (k v:AV):zuU P KP Q all l st d R ρ kt (.mp b) k v H=goM P KP Q all l st d R ρ kt b k v H (H b):=rfl
theorem zn1 (kt kt':KT) (b:Nat) (es:List (AV×AV)) (k v:AV):goM P KP Q all l st d R ρ kt b k v H (some (.map kt' es))=(kt'=kt∧kt.fits k=true∧goR P KP Q all l st R (ρ.set d (.tup [])) (H.upd b (.map kt (zbs es k v)))):=rfl
theorem zi.goO {P:Program} {f:FuncId} (af:AFn) (hc:zh P f af=true) {args:List AV} {H:zb} {R RP:AV→zb→Prop} (hnp:args.length≤af.np)
  (h:∀ KP Q,(∀ e ρ H1 H2 vs,(∀ i,e≠.exit i)→zG ρ H1 af.res=some vs→Low H2 H1→R (zd vs) H2→Q e ρ H1)→(∀ v H1 H2,Low H2 H1→RP v H2→KP v H1)→goC P KP Q af.body [] (ze (zH 0 args)) H) :
  zi P f args H (fun e H'=>match e with|.ret v=>R v H'|.pan v=>RP v H'):=by
 refine zi.of_fn (Q:=fun e H'=>match e with|.ret v=>R v H'|.pan v=>RP v H') af hc hnp (h _ _ (fun e ρ H1 H2 vs he hv hs hr=>?_) fun v H1 H2 hl hr=>⟨H2,hl,hr⟩)
 cases e with
 | exit i=>exact absurd rfl (he i)
 | normal=>simp only[zjQ,hv];exact⟨H2,hs,hr⟩
 | ret=>simp only[zjQ,hv];exact⟨H2,hs,hr⟩
theorem yn {f:FuncId} {args:List AV} {X XP:AV→zb→Prop} (h:zi P f args H (fun e H'=>match e with|.ret v=>X v H'|.pan v=>XP v H')) (hk:∀ v H',X v H'→goR P KP Q all l st R (ρ.set d v) H') (hp:∀ v H',XP v H'→KP v H') :
  goK P KP Q all l st d R ρ f args H :=
 h.mono fun e H' hx=>by cases e with|ret v=>exact hk v H' hx|pan v=>exact hp v H' hx
end
structure OwnS (H:zb) (o:Own) (H':zb) (o':Own) (n sz:Nat):Prop where
 own:zK H' o' n sz
 kept:Kept H o H'
 new:zmz H o o'
theorem OwnS.refl {H:zb} {o:Own} {n sz:Nat} (h:zK H o n sz):OwnS H o H o n sz:=⟨h,fun b x hb _=>hb,fun b d e=>.inr ⟨d,e⟩⟩
theorem OwnS.trans {H H1 H2:zb} {o o1 o2:Own} {n n2 sz:Nat} (h:OwnS H o H1 o1 n sz) (h':OwnS H1 o1 H2 o2 n2 sz):OwnS H o H2 o2 n2 sz:=by
 refine⟨h'.own,fun b x hb hn=>h'.kept b x (h.kept b x hb hn) fun d e=>?_,fun b d e=>?_⟩
 ·rcases h.new b d e with h1|⟨d0,h1⟩
  ·rw[hb] at h1;cases h1
  ·exact hn d0 h1
 ·rcases h'.new b d e with h1|⟨d0,h1⟩
  ·cases hb:H b with
   | none=>exact .inl rfl
   | some x =>
    by_cases hx:∃ d,o=.tip b d
    ·exact .inr hx
    ·have:=h.kept b x hb (fun d e=>hx ⟨d,e⟩);rw[h1] at this;cases this
  ·exact h.new b d0 h1
theorem OwnS.upd {H H1:zb} {o o1:Own} {n sz b:Nat} {x:AObj} (h:OwnS H o H1 o1 n sz) (hb:H1 b=none):OwnS H o (H1.upd b x) o1 n sz:=by
 refine⟨h.own.upd hb,fun c y hc hn=>?_,h.new⟩
 have:=h.kept c y hc hn
 have hne:c≠b:=fun e=>by subst e;rw[hb] at this;cases this
 simp only[zb.upd,hne,if_false];exact this
theorem OwnF.stepS {H0 H H':zb} {o o':Own} {n n' sz:Nat} (h:OwnF H0 H o n sz) (h':OwnS H o H' o' n' sz):OwnF H0 H' o' n' sz:=h.step h'.own h'.kept h'.new
theorem zp {P:Program} {KP:AV→zb→Prop} {Q:AExit→Env→zb→Prop} {st:List Fr} {ρ:Env} {H:zb} {all l:List AItem} {d:Option Nat} {R:List Chk} {sz bytes:Nat} {o o2:Own} {xs ys:List (List AV)}
  (how:zK H o xs.length sz) (h1:(xs.length+ys.length)*bytes≤140737488355328) (h2:xs.length+ys.length≤maxLen)
  (hk:∀ o' H',OwnS H o H' o' (xs.length+ys.length) sz→goR P KP Q all l st R (ρ.set d (.sl o' sz (xs++ys.map (·.map AV.strip1)))) H') :
  goP P KP Q all l st d R ρ sz bytes (.sl o sz xs) (.sl o2 sz ys) H:=zsj how h1 h2 fun o' H' a b c=>hk o' H' ⟨a,b,c⟩
theorem yN {α:Type} {f:α→List AV} {l a:List α} {x:α} {b:List α} (h:l=a++x::b):(List.map f l).getD a.length []=f x:=by subst h;simp
theorem st2:type_of% (And.intro @znQ<|And.intro @znl<|And.intro @zur<|And.intro @zne<|And.intro @zum<|And.intro @znt<|And.intro @zn1<|And.intro @List.append_nil.{0}<|And.intro @zhb<|And.intro @zgg<|And.intro @zge<|And.intro @zf4<|And.intro @zf5<|And.intro @decide_true<|And.intro @decide_false<|And.intro @List.take_succ_cons.{0}<|And.intro @List.take_zero.{0}<|And.intro @List.drop_succ_cons.{0}<|And.intro @List.drop_zero.{0}<|And.intro @List.length_cons.{0}<|And.intro @List.length_nil.{0}<|And.intro @List.take_length.{0}<|And.intro @List.headD_cons.{0}<|And.intro @List.cons_append.{0}<|And.intro @List.nil_append.{0}<|And.intro @Option.map_some.{0,0}<|And.intro @Bool.not_true<|And.intro @Bool.not_false<|And.intro @Bool.false_eq_true<|And.intro @eq_self.{1}<|And.intro @List.replicate_zero.{0}<|And.intro @List.replicate_succ.{0}<|And.intro @List.set_cons_zero.{0}<|And.intro @List.set_cons_succ.{0}<|And.intro @Nat.lt_add_one<|And.intro @Nat.zero_lt_succ<|And.intro @Nat.le_refl<|And.intro @if_pos.{1}<|And.intro @upd_ne<|And.intro @List.getElem?_cons_succ.{0}<|And.intro @List.getElem?_cons_zero.{0}<|And.intro @Option.some.injEq.{0}<|And.intro @Int.cast_ofNat_Int<|And.intro @List.getD_cons_zero.{0}<|And.intro @List.getD_cons_succ.{0}<|And.intro @Int.toNat_natCast<|And.intro @Int.natCast_zero<|And.intro @Int.natCast_eq_zero<|And.intro @Int.zero_add<|And.intro @Int.natCast_nonneg<|And.intro @true_and<|And.intro @and_true<|And.intro @not_false_eq_true<|And.intro @not_true_eq_false<|And.intro @ne_eq.{1}<|And.intro @List.map_nil.{0,0}<|And.intro @List.map_cons.{0,0}<|And.intro @beq_self_eq_true.{0}<|And.intro @implies_true.{0}<|@Bool.true_eq_false) :=
 And.intro @znQ<|And.intro @znl<|And.intro @zur<|And.intro @zne<|And.intro @zum<|And.intro @znt<|And.intro @zn1<|And.intro @List.append_nil.{0}<|And.intro @zhb<|And.intro @zgg<|And.intro @zge<|And.intro @zf4<|And.intro @zf5<|And.intro @decide_true<|And.intro @decide_false<|And.intro @List.take_succ_cons.{0}<|And.intro @List.take_zero.{0}<|And.intro @List.drop_succ_cons.{0}<|And.intro @List.drop_zero.{0}<|And.intro @List.length_cons.{0}<|And.intro @List.length_nil.{0}<|And.intro @List.take_length.{0}<|And.intro @List.headD_cons.{0}<|And.intro @List.cons_append.{0}<|And.intro @List.nil_append.{0}<|And.intro @Option.map_some.{0,0}<|And.intro @Bool.not_true<|And.intro @Bool.not_false<|And.intro @Bool.false_eq_true<|And.intro @eq_self.{1}<|And.intro @List.replicate_zero.{0}<|And.intro @List.replicate_succ.{0}<|And.intro @List.set_cons_zero.{0}<|And.intro @List.set_cons_succ.{0}<|And.intro @Nat.lt_add_one<|And.intro @Nat.zero_lt_succ<|And.intro @Nat.le_refl<|And.intro @if_pos.{1}<|And.intro @upd_ne<|And.intro @List.getElem?_cons_succ.{0}<|And.intro @List.getElem?_cons_zero.{0}<|And.intro @Option.some.injEq.{0}<|And.intro @Int.cast_ofNat_Int<|And.intro @List.getD_cons_zero.{0}<|And.intro @List.getD_cons_succ.{0}<|And.intro @Int.toNat_natCast<|And.intro @Int.natCast_zero<|And.intro @Int.natCast_eq_zero<|And.intro @Int.zero_add<|And.intro @Int.natCast_nonneg<|And.intro @true_and<|And.intro @and_true<|And.intro @not_false_eq_true<|And.intro @not_true_eq_false<|And.intro @ne_eq.{1}<|And.intro @List.map_nil.{0,0}<|And.intro @List.map_cons.{0,0}<|And.intro @beq_self_eq_true.{0}<|And.intro @implies_true.{0}<|@Bool.true_eq_false
open Go.ChangeAt Go.ChangeShapes Go.RowKit Go.WideElems Go.WideShapes
mutual
def blk {H:Type}:DataW H→Nat
 | .lit (.string bytes)=>bytes.length+1
 | .lit _=>1
 | .nil=>1
 | .ptr d=>blk d+1
 | .slice elems spare=>Yq elems+Yq spare+1
 | .agg parts=>Yq parts+1
 | .iface _ d=>blk d+1
 | .map entries=>znJ entries+1
 | .held _=>1
def Yq {H:Type}:List (DataW H)→Nat
 | []=>0
 | d::r=>blk d+Yq r
def znJ {H:Type}:List (Lit×DataW H)→Nat
 | []=>0
 | x::r=>zmu x+znJ r
def zmu {H:Type}:Lit×DataW H→Nat
 | (.string bytes,d)=>bytes.length+blk d+1
 | (_,d)=>blk d+1
end
theorem znc {H:Type} (d:DataW H):1≤blk d:=by
 cases d with
 | lit l=>cases l<;>simp[blk]
 | nil=>simp[blk]
 | ptr d=>simp[blk]
 | slice elems spare=>simp[blk]
 | agg parts=>simp[blk]
 | iface t d=>simp[blk]
 | map entries=>simp[blk]
 | held h=>simp[blk]
theorem zig {H:Type} (l:List (DataW H)) (k:Nat) (h:k<l.length):Yq (l.take (k+1))=Yq (l.take k)+blk (l.getD k .nil):=by
 induction l generalizing k with
 | nil=>simp at h
 | cons d r ih =>
  cases k with
  | zero=>simp[Yq]
  | succ k =>
   simp only[zxz,Yq,List.getD_cons_succ]
   rw[ih k (by simpa using h)]
   omega
def zC (P:Program) (m:Nat) (t:TypeId) (sz:Nat) {α:Type} (f:α→List AV) (ok:α→Prop) (g:α→Nat):Prop :=
 ∀ {H:Type} (enc:TypeId×Value→H) (W:World) (cs:List Value) (d:DataW H) (ps:List MemPlace),DataW.trod enc P W 0 (fun _=>true) true m t cs=some (d,ps) →
  (∀ n∈d.weights P t,n≤reachBytes)→∃ a,ok a∧g a≤blk d∧(f a).length=sz∧zo zhy W (f a) cs
section
variable {P:Program} {m:Nat} {t:TypeId}
theorem zC.zero {sz:Nat} {α:Type} {f:α→List AV} {ok:α→Prop} {g:α→Nat}:zC P 0 t sz f ok g:=fun enc W cs d ps h _=>by simp[DataW.trod] at h
theorem zC.int {k:IntKind} (ht:P.underlying t=some (.int k)):zC P m t 1 (fun n:Int=>[.int k n]) (fun n=>(Lit.int k n).wf=true) (fun _=>1):=by
 intro H enc W cs d ps h _
 obtain⟨n,rfl,hx,hw⟩:=DataW.trod_int ht h
 simp only[Al8] at hx
 obtain⟨rfl,rfl⟩:=hx
 exact⟨n,hw,Al4 _,rfl,zca (.int k n) rfl⟩
theorem zC.bool (ht:P.underlying t=some .bool):zC P m t 1 (fun b:Bool=>[.bool b]) (fun _=>True) (fun _=>1):=by
 intro H enc W cs d ps h _
 obtain⟨b,rfl,hx⟩:=DataW.trod_bool ht h
 simp only[Al8] at hx
 obtain⟨rfl,rfl⟩:=hx
 exact⟨b,trivial,Al4 _,rfl,zca (.bool b) rfl⟩
theorem zC.str (ht:P.underlying t=some .string):zC P m t 1 (fun s:List UInt8=>[.str s]) (fun s=>s.length≤reachBytes) (fun s=>s.length+1):=by
 intro H enc W cs d ps h hw
 obtain⟨s,rfl,hx,hs⟩:=DataW.trod_string ht h
 simp only[Al8] at hx
 obtain⟨rfl,rfl⟩:=hx
 refine⟨s.data.toList,hw _ (by simp[DataW.weights]),Al4 _,rfl,zca ?_ rfl⟩
 exact .str _
theorem zC.slice {e:TypeId} {sz B:Nat} {α:Type} {f:α→List AV} {ok:α→Prop} {g:α→Nat} (ht:P.underlying t=some (.slice e)) (hB:P.bytesOf e=B) (hsz:P.cellsOf e=sz) (hpos:0<sz) (he:zC P m e sz f ok g) :
  zC P (m+1) t 1 (fun l:List α=>[.sl .no sz (l.map f)]) (fun l=>l.length*B≤reachBytes∧l.length≤maxLen∧∀ x∈l,ok x) (fun l=>(l.map g).sum+1):=by
 intro H enc W cs d ps h hw
 rcases DataW.trod_slice ht h with ⟨rfl,_⟩|⟨a,len,cap,elems,rest,n,hm,rfl,hx,hb,hlc,hcm,hel,hread,hspare,_⟩
 ·exact⟨[],⟨by simp,by simp,by simp⟩,by simp[znc],rfl,zca (.slnil .no sz (by simp)) rfl⟩
 ·cases hm
  simp only[Al8] at hx
  obtain⟨rfl,rfl⟩:=hx
  obtain⟨hrest,hreadr⟩:=hspare rfl
  subst hsz
  have hwt:∀ y∈elems,∀ n∈y.1.weights P e,n≤reachBytes:=fun y hy n hn=>hw n (by
   simp only[DataW.weights,ht,List.mem_cons,List.mem_append]
   exact .inr (.inl (zf2 (List.mem_map_of_mem hy) n hn)))
  have hlenB:len*P.bytesOf e≤reachBytes:=by
   have:=hw ((elems.length+rest.length)*P.bytesOf e) (by simp[DataW.weights,ht])
   rw[hel] at this
   exact Nat.le_trans (Nat.mul_le_mul_right _ (Nat.le_add_right _ _)) this
  have each:∀ i,i<len→∃(x:α) (us:List Value),ok x∧g x≤blk ((elems.map (·.1)).getD i .nil)∧(f x).length=P.cellsOf e∧zo zhy W (f x) us∧(∀ j,j<P.cellsOf e→W.cell? (a.add (i*P.cellsOf e+j))=us[j]?)∧us.length=P.cellsOf e:=by
   intro i hi
   have h1:=hread i hi
   have hi':i<elems.length:=by omega
   rw[Al9 hi',Option.bind_eq_some_iff] at h1
   obtain⟨us,hus,hd⟩:=h1
   obtain⟨x,hx1,hxg,hx2,hx3⟩:=he enc W us elems[i].1 elems[i].2 hd (hwt _ (List.getElem_mem hi'))
   obtain⟨_,hl,hc⟩:=World.cells?_some hus
   refine⟨x,us,hx1,by simpa[hi'] using hxg,hx2,hx3,fun j hj=>?_,hl⟩
   have:=hc j hj
   rwa [addr_add_add] at this
  rcases Nat.eq_zero_or_pos cap with hc0|hcpos
  ·have hl0:len=0:=by omega
   subst hl0;subst hc0
   exact⟨[],⟨by simp,by simp,by simp⟩,by simp[znc],rfl,zca (.sl0 .no _ a (.inl rfl)) rfl⟩
  ·-- some cell is read: the address is plain
   have hspot:a.spot=none:=by
    have h1:∃ us,W.cells? 0 (a.add 0) (P.cellsOf e)=some us:=by
     rcases Nat.eq_zero_or_pos len with hl0|hlpos
     ·have h2:=hreadr 0 (by omega)
      rw[Al9 (by omega),Option.bind_eq_some_iff] at h2
      obtain⟨us,h3,_⟩:=h2
      rw[hl0] at h3
      simp only[Nat.add_zero,Nat.zero_mul] at h3
      exact⟨us,h3⟩
     ·have h2:=hread 0 hlpos
      rw[Al9 (by omega),Option.bind_eq_some_iff] at h2
      obtain⟨us,h3,_⟩:=h2
      simp only[Nat.zero_mul] at h3
      exact⟨us,h3⟩
    obtain⟨us,h1⟩:=h1
    obtain⟨_,hl,hc⟩:=World.cells?_some h1
    have h3:=hc 0 hpos
    have e0:(a.add 0).add 0=a:=rfl
    rw[e0] at h3
    have h4:(W.cell? a).isSome=true:=by rw[h3,Al9 (by omega)];rfl
    unfold World.cell? at h4
    split at h4
    ·split at h4
     ·cases h4
     ·rename_i hs
      cases h5:a.spot with
      | none=>rfl
      | some s=>simp[h5] at hs
    ·cases h4
   obtain⟨b,off,spot⟩:=a
   simp only at hspot
   subst hspot
   have hchoose:∀ k,k≤len→∃ l:List α,l.length=k∧(l.map g).sum≤Yq ((elems.map (·.1)).take k)∧∀ i x,l[i]?=some x→ok x∧(f x).length=P.cellsOf e∧∃ us:List Value,zo zhy W (f x) us∧(∀ j,j<P.cellsOf e→W.cell? (Addr.add ⟨b,off,none⟩ (i*P.cellsOf e+j))=us[j]?)∧us.length=P.cellsOf e:=by
    intro k
    induction k with
    | zero=>intro _;exact⟨[],rfl,by simp,by simp⟩
    | succ k ih =>
     intro hk
     obtain⟨l,hl,hsum,hp⟩:=ih (by omega)
     obtain⟨x,us,h1,hgx,h2,h3,h4,h5⟩:=each k (by omega)
     refine⟨l++[x],by simp[hl],?_,fun i y hy=>?_⟩
     ·rw[List.map_append,List.sum_append,zig _ k (by simp;omega)]
      simp only[List.map_cons,List.map_nil,List.sum_cons,List.sum_nil]
      omega
     rcases Nat.lt_or_ge i l.length with hi|hi
     ·rw[zb8 hi] at hy;exact hp i y hy
     ·rw[zfc hi] at hy
      have:i=l.length:=by
       rcases Nat.lt_or_ge 0 (i-l.length) with h|h
       ·rw[List.getElem?_eq_none (by simp;omega)] at hy;cases hy
       ·omega
      subst this
      simp at hy
      subst hy
      exact⟨h1,h2,us,h3,by rw[hl];exact h4,h5⟩
   obtain⟨l,hl,hsum,hp⟩:=hchoose len (Al4 _)
   refine⟨l,⟨by rw[hl,← hB];exact hlenB,by omega,fun x hx=>?_⟩,?_,rfl,zca ?_ rfl⟩
   ·obtain⟨i,hi⟩:=List.mem_iff_getElem?.1 hx
    exact(hp i x hi).1
   ·rw[List.take_of_length_le (by simp;omega)] at hsum
    simp only[blk];omega
   ·have hml:(l.map f).length=len:=by simp[hl]
    rw[← hml]
    refine .sl .no _ (l.map f) b off cap (fun i j=>(W.cell? ⟨b,off+(i*P.cellsOf e+j),none⟩).getD undef) (by omega) hcm (fun x hx=>?_) (fun i x hx j hj=>?_) (fun i x hx j c hj=>?_) trivial
    ·obtain⟨y,hy,rfl⟩:=List.mem_map.1 hx
     obtain⟨i,hi⟩:=List.mem_iff_getElem?.1 hy
     exact(hp i y hi).2.1
    ·simp only[YH,zdp] at hx
     obtain⟨y,hy,rfl⟩:=hx
     obtain⟨_,h2,us,h3,h4,h5⟩:=hp i y hy
     have h6:=h4 j hj
     have h7:us[j]?=some us[j]:=Al9 (by omega)
     have h8:W.cell? ⟨b,off+(i*P.cellsOf e+j),none⟩=some us[j]:=by rw[← h7,← h6,addr_add]
     refine⟨by rw[h8];rfl,trivial,?_⟩
     rw[h8]
     exact h3.2.1 j _ h7
    ·simp only[YH,zdp] at hx
     obtain⟨y,hy,rfl⟩:=hx
     obtain⟨_,h2,us,h3,h4,h5⟩:=hp i y hy
     have hj':j<P.cellsOf e:=by have:=(Z4.1 hj).1;omega
     have h6:=h4 j hj'
     have h7:us[j]?=some us[j]:=Al9 (by omega)
     have h8:W.cell? ⟨b,off+(i*P.cellsOf e+j),none⟩=some us[j]:=by rw[← h7,← h6,addr_add]
     show Rep zhy W c ((W.cell? ⟨b,off+(i*P.cellsOf e+j),none⟩).getD undef)
     rw[h8]
     exact h3.2.2 j c _ hj h7
def zz (P:Program) (m:Nat) (off:Nat) (fs:List (Nat×TypeId)) (sz:Nat) {α:Type} (f:α→List AV) (ok:α→Prop) (gg:α→Nat):Prop :=
 ∀ {H:Type} (enc:TypeId×Value→H) (W:World) (cs:List Value) (xs:List (DataW H×List MemPlace)),
  (∀(i:Nat) (g:Nat×TypeId),fs[i]?=some g→DataW.trod enc P W 0 (fun _=>true) true m g.2 ((cs.drop g.1).take (P.cellsOf g.2))=xs[i]?)→xs.length=fs.length →
  (∀ n∈DataW.weightsEach P (fs.map (·.2)) (xs.map (·.1)),n≤reachBytes)→off+sz≤cs.length→∃ a,ok a∧gg a≤Yq (xs.map (·.1))∧(f a).length=sz∧zo zhy W (f a) ((cs.drop off).take sz)
theorem zz.nil {off:Nat}:zz P m off [] 0 (fun _:Unit=>[]) (fun _=>True) (fun _=>0):=by
 intro H enc W cs xs _ _ _ _
 exact⟨(),trivial,Nat.zero_le _,rfl,rfl,by simp,by simp⟩
theorem zz.cons {off sz sz':Nat} {u:TypeId} {fs:List (Nat×TypeId)} {α β:Type} {f:α→List AV} {ok:α→Prop} {f':β→List AV} {ok':β→Prop} {g:α→Nat} {g':β→Nat} (hsz:P.cellsOf u=sz) (h:zC P m u sz f ok g) (h':zz P m (off+sz) fs sz' f' ok' g') :
  zz P m off ((off,u)::fs) (sz+sz') (fun x:α×β=>f x.1++f' x.2) (fun x=>ok x.1∧ok' x.2) (fun x=>g x.1+g' x.2):=by
 intro H enc W cs xs hx hl hw hle
 cases xs with
 | nil=>simp at hl
 | cons y ys =>
  have h0:=hx 0 (off,u) rfl
  rw[hsz] at h0
  simp only[List.getElem?_cons_zero] at h0
  obtain⟨a,ha1,hag,ha2,ha3⟩:=h enc W _ y.1 y.2 h0 (fun n hn=>hw n (by simp only[List.map_cons,DataW.weightsEach,List.mem_append];exact .inl hn))
  obtain⟨b,hb1,hbg,hb2,hb3⟩:=h' enc W cs ys (fun i g' hg=>by have:=hx (i+1) g' (by simpa using hg);simpa using this) (by simpa using hl)
   (fun n hn=>hw n (by simp only[List.map_cons,DataW.weightsEach,List.mem_append];exact .inr hn)) (by omega)
  refine⟨(a,b),⟨ha1,hb1⟩,by simp only[List.map_cons,Yq];omega,by simp[ha2,hb2],?_⟩
  have e:(cs.drop off).take (sz+sz')=(cs.drop off).take sz++(cs.drop (off+sz)).take sz':=by
   rw[List.take_add,List.drop_drop]
  rw[e]
  exact ha3.append hb3
theorem zC.struct {fs:List (Nat×TypeId)} {sz:Nat} {α β:Type} {f:α→List AV} {ok:α→Prop} {gg:α→Nat} (h:zz P m 0 fs sz f ok gg) (ht:flds P t=some fs) (hsz:P.cellsOf t=sz) (g:β→List AV) (ok':β→Prop) (g':β→Nat) (k:α→β) (hg:∀ a,g (k a)=f a) (hok:∀ a,ok a→ok' (k a)) (hgg:∀ a,g' (k a)≤gg a+1) :
  zC P (m+1) t sz g ok' g':=by
 intro H enc W cs d ps hd hw
 obtain⟨gs,hgs,hfs⟩:=zis ht
 obtain⟨xs,n,hm,hx,hl,hlen,hf⟩:=DataW.trod_struct hgs hd
 cases hm
 simp only[Al8] at hx
 obtain⟨rfl,rfl⟩:=hx
 obtain⟨a,h1,hag,h2,h3⟩:=h enc W cs xs (fun i g' hg'=>by
   rw[← hfs,YH] at hg'
   cases hi:gs.toList[i]? with
   | none=>simp[hi] at hg'
   | some z=>simp only[hi,zak,Al1] at hg';subst hg';exact hf i z (by simpa using hi)) (by rw[← hfs];simpa using hlen) (fun n hn=>hw n (by
   rw[← hfs,List.map_map] at hn
   simpa[DataW.weights,hgs,Function.comp_def] using hn)) (by omega)
 refine⟨k a,hok a h1,by have:=hgg a;simp only[blk];omega,by rw[hg];exact h2,?_⟩
 rw[hg]
 simp only[List.drop_zero] at h3
 rw[List.take_of_length_le (by omega)] at h3
 exact h3
theorem zC.argS {sz:Nat} {α:Type} {f:α→List AV} {ok:α→Prop} {g:α→Nat} (h:∀ m,zC P m t sz f ok g) {H:Type} {enc:TypeId×Value→H} {W:World} {cs:Array Value} {d:DataW H} {ps:List MemPlace} (hd:DataW.Trod enc P W 0 (fun _=>true) true t (.agg cs) d ps)
  (hw:∀ n∈d.weights P t,n≤reachBytes):∃ a,ok a∧g a≤blk d∧Rep zhy W (.agg (f a)) (.agg cs):=by
 obtain⟨n,hn⟩:=hd
 obtain⟨a,h1,hag,h2,h3⟩:=h n enc W _ d ps hn hw
 simp only[Value.cells] at h3
 have:=Rep.agg (f a) cs.toList h3.1 h3.2.1 h3.2.2
 exact⟨a,h1,hag,by simpa using this⟩
end
end Go.Ab
namespace Go.Ab
attribute [go_sem] steps st2 pev rev oev yJ yR Zg Zf bound yi mm2 mk zH AV.cells AV.boxable AV.one AV.strip1 AV.strip2 yh yc Nat.reduceEqDiff reduceCtorEq Nat.reduceAdd Int.reduceNeg Nat.reduceLeDiff Int.reduceToNat Int.reduceEq Int.reduceLT Int.reduceLE Int.reduceAdd
attribute [go_sem ↓] reduceIte
abbrev Io (d:Nat) (o:AOp):AItem:=⟨some d,none,o,[]⟩
abbrev Im (d s:Nat):AItem:=⟨some d,none,.mv (.t s),[]⟩
abbrev If (d k s:Nat):AItem:=⟨some d,none,.fa k (.t s),[]⟩
abbrev Il (d k s:Nat):AItem:=⟨some d,none,.ld k false (.t s),[]⟩
abbrev Jt (d g:Nat) (o:AOp):AItem:=⟨some d,some (g,true),o,[]⟩
abbrev Jf (d g:Nat) (o:AOp):AItem:=⟨some d,some (g,false),o,[]⟩
attribute [go_sem] Io Im If Il Jt Jf
abbrev Imv (d:Nat) (n:Int):AItem:=⟨some d,none,.mv (.k (.int .i64 n)),[]⟩
abbrev Imb (d:Nat) (b:Bool):AItem:=⟨some d,none,.mv (.k (.bool b)),[]⟩
abbrev Iai (d s:Nat) (n:Int):AItem:=⟨some d,none,.bi .add .i64 (.t s) (.k (.int .i64 n)),[]⟩
abbrev Iei (d s:Nat) (n:Int):AItem:=⟨some d,none,.bi .eql .i64 (.t s) (.k (.int .i64 n)),[]⟩
abbrev Igi (d s:Nat) (n:Int):AItem:=⟨some d,none,.bi .gtr .i64 (.t s) (.k (.int .i64 n)),[]⟩
abbrev Isi (d s:Nat) (n:Int):AItem:=⟨some d,none,.bi .sub .i64 (.t s) (.k (.int .i64 n)),[]⟩
abbrev Ipf (d a b:Nat):AItem:=⟨some d,none,.pick (.t a) (.t b) (.k (.bool false)),[]⟩
abbrev Ipt (d a b:Nat):AItem:=⟨some d,none,.pick (.t a) (.k (.bool true)) (.t b),[]⟩
abbrev Ilb (d k s:Nat):AItem:=⟨some d,none,.ld k true (.t s),[]⟩
abbrev Iia (d k a b:Nat):AItem:=⟨some d,none,.ia k (.t a) (.t b),[]⟩
abbrev Ilt (d a b:Nat):AItem:=⟨some d,none,.bi .lss .i64 (.t a) (.t b),[]⟩
abbrev Iap (d k n a b:Nat):AItem:=⟨some d,none,.app k n (.t a) (.t b),[]⟩
abbrev Ink (d s:Nat):AItem:=⟨some d,none,.nilchk (.t s),[]⟩
abbrev Iln (d s:Nat):AItem:=⟨some d,none,.len (.t s),[]⟩
abbrev Ils (d s:Nat):AItem:=⟨some d,none,.lens (.t s),[]⟩
abbrev Iad (d a b:Nat):AItem:=⟨some d,none,.bi .add .i64 (.t a) (.t b),[]⟩
abbrev Iex (d s k:Nat):AItem:=⟨some d,none,.ext (.t s) k,[]⟩
abbrev Ibx (d s:Nat):AItem:=⟨some d,none,.boxv (.t s),[]⟩
abbrev Ing (d s:Nat):AItem:=⟨some d,none,.not (.t s),[]⟩
abbrev Jm (d g s:Nat):AItem:=⟨some d,some (g,true),.mv (.t s),[]⟩
abbrev Jl (d g k s:Nat):AItem:=⟨some d,some (g,true),.ld k false (.t s),[]⟩
abbrev Ja (d g k s:Nat):AItem:=⟨some d,some (g,true),.fa k (.t s),[]⟩
abbrev Fm (d g s:Nat):AItem:=⟨some d,some (g,false),.mv (.t s),[]⟩
abbrev Fl (d g k s:Nat):AItem:=⟨some d,some (g,false),.ld k false (.t s),[]⟩
abbrev Fa (d g k s:Nat):AItem:=⟨some d,some (g,false),.fa k (.t s),[]⟩
abbrev AC.rg (l:List AItem):AC:=.reg [] l
attribute [go_sem] AC.rg Jm Jl Ja Fm Fl Fa Imv Imb Iai Iei Igi Isi Ipf Ipt Ilb Iia Ilt Iap Ink Iln Ils Iad Iex Ibx Ing
end Go.Ab
