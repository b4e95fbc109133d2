import Derived.Test.YtnemcnegfkjpeaaGreatDoorM7
set_option maxRecDepth 100000
set_option linter.all false
namespace Go.Proofs.YtnemcnegfkjpeaaGreatDoor
open Go.Ab
def zch(n:List UInt8)(l:List (List UInt8))(x:DefD):List (List UInt8):=if x.k=1/\yo n x.faces=true then zcv l x.nm else l
def zdw(s:SchD)(l:List (List UInt8))(p:List UInt8):List (List UInt8):=if Za s p [1]=true then zcv l p else l
def zmQ(s:SchD)(n:List UInt8):zb3 s n=match yB s n with
 | none=>[]
 | some d=>if d.k=1 then [n]else if d.k=2 then s.defs.foldl (zch n) []else if d.k=3 then d.parts.foldl (zdw s) []else []:=rfl
def znf(n:List UInt8)(l:List (List UInt8))(x:DefD):(zch n l x).length<=l.length+1:=by have:=zpw l x.nm;unfold zch;split<;>omega
def zmw(s:SchD)(l:List (List UInt8))(x:List UInt8):(zdw s l x).length<=l.length+1:=by have:=zpw l x;unfold zdw;split<;>omega
def zrY(s:SchD)(n:List UInt8)(a2:zJ s<=Lim):ze Tryz.prog 237 [.agg (zm s),.str n] (.sl .no 1 (cT (zb3 s n))):=by
 refine ze.go ir237.1 ir237.2 (Al4 _) λKP Q a8=>?_;have a5:=yc a2;have a3:=zgy s n a5;have bc:=@YF s n;have bo:zJ s<=1099511627776:=a2;have a4:=λp=>zdA s p [1] a5 (by decide);have I:=zmQ s n;have a9:=zf6 s.defs;have a6:=λ(d:DefD) (h:d∈s.defs)=>zk9 h;obtain⟨X,a7,sm⟩:=s;generalize ao:(⟨X,a7,sm⟩:SchD)=s at *
 have ba:zm s=[.sl .no 6 (cEs X),.str a7,.str sm]:=by rw[<-ao];rfl
 have be:s.defs=X:=by rw[<-ao]
 have bl:bEs X<=zJ s:=by rw[<-ao];simp only[zJ];omega
 rw[be]at I a9 a6;simp only[ba,List.map,cI]at a3 a4 ⊢;have ac:=zgn X;have fin:∀l,zb3 s n=l->∀ρ H vs,zo ρ H ir237.1.res=some vs->(zP vs).strip=.sl .no 1 (cT l)->Q .ret ρ H:=λo e ρ H vs ac ad=>a8 _ ρ H vs nofun ac (by rw[ad,e]);simp(disch:=omega) only[ir237,go_sem];refine za a3 ?_;cases aq:yB s n with
 | none =>rw[aq]at I;simp(disch:=omega) only[Option.getD,Option.isSome,zE,yf,go_sem];refine zc λag ah=>?_;simp(disch:=omega) only[yf,go_sem];exact fin [] I _ _ [.sl .nil 1 []] (by simp(disch:=omega) only[ir237,zo,z8,go_sem]) rfl
 | some d =>
  rw[aq]at I;obtain⟨_,_,bd,_⟩:=bc aq;obtain⟨k,bh,bk,bj,ps,bq⟩:=d;simp only at I bd;have bp:=ZK ps;by_cases ax:k=1
  ·subst ax;simp(disch:=omega) only[Option.getD,Option.isSome,yf,go_sem];refine zc λag ah=>?_;simp(disch:=omega) only[yf,go_sem];exact fin [n] (by rw[I];rfl) _ _ [.sl .full 1 [[.str n]]] (by simp(disch:=omega) only[ir237,zo,z8,go_sem]) rfl
  by_cases ay:k=2
  ·subst ay;simp only[Int.reduceEq,if_false,if_true]at I;simp(disch:=omega) only[Option.getD,Option.isSome,yf,go_sem];refine zc λag ah=>?_;simp(disch:=omega) only[yf,ac,go_sem];refine zf X 31 (λx:Own×List (List UInt8)=>[(7,.sl x.1 1 (cT x.2))]) (λdone rest x H'=>rest.foldl (zch n) x.2=X.foldl (zch n) []/\x.2.length+rest.length<=X.length/\zA H' x.1 x.2.length 1) (.nil,[]) (by simp(disch:=omega) only[cT,List.map,go_sem]) ⟨rfl,by simp,rfl⟩ ?_ ?_
   ·rintro⟨U,a⟩ H' an ⟨A,_,J⟩ Y;simp only[List.foldl]at A;simp(disch:=omega) only[ac,Y,go_sem];exact fin a (by rw[I,<-A]) _ _ [.sl U 1 (cT a)] (by simp(disch:=omega) only[ir237,zo,z8,go_sem]) rfl
   ·rintro done x rest ⟨U,a⟩ H' an ai Y _ ⟨A,av,J⟩ ab;replace J:zA H' U a.length 1:=J;have ar:=zgS ai;have bf:=a6 x (by rw[ai];simp);obtain⟨a1,aa,Z,aj,al,ak⟩:=x;have bn:=ZK Z;simp only[bE]at bf;simp only[List.foldl,Al2]at A av;have aw:=znf n a ⟨a1,aa,Z,aj,al,ak⟩;simp(disch:=omega) only[ac,Y,ar,yf,go_sem];refine zc λbg ap=>?_;by_cases au:a1=1
    case neg =>
     have W:zch n a ⟨a1,aa,Z,aj,al,ak⟩=a:=by simp[zch,au]
     rw[W]at A;simp(disch:=omega) only[au,yf,go_sem];exact goJ (ab (U,a) _ ⟨A,by simp only;omega,J.upd ap⟩) (by simp(disch:=omega) only[wrap64,go_sem])
    subst au;simp(disch:=omega) only[yf,go_sem];refine za (yD Z n (by simp only[Lim];omega)) ?_;cases ae:yo n Z with
    | false =>
     have W:zch n a ⟨1,aa,Z,aj,al,ak⟩=a:=by simp[zch,ae]
     rw[W]at A;simp(disch:=omega) only[yf,go_sem];exact goJ (ab (U,a) _ ⟨A,by simp only;omega,J.upd ap⟩) (by simp(disch:=omega) only[wrap64,go_sem])
    | true =>
     have W:zch n a ⟨1,aa,Z,aj,al,ak⟩=zcv a aa:=by simp[zch,ae]
     rw[W]at A aw;simp(disch:=omega) only[yf,go_sem];refine zx (zA9 a aa U _ (by simp only[Lim];omega) (J.upd ap)) λa0 am af=>?_;rw[zG]at af;simp(disch:=omega) only[wrap64,go_sem];exact goJ (ab (a0,zcv a aa) am ⟨A,by simp only;omega,af.own⟩) (by simp(disch:=omega) only[go_sem])
  by_cases az:k=3
  ·subst az;simp only[Int.reduceEq,if_false,if_true]at I;have ad:=zG ps;simp(disch:=omega) only[Option.getD,Option.isSome,yf,go_sem];refine zc λag ah=>?_;simp(disch:=omega) only[yf,ad,go_sem];refine zf ps 54 (λx:Own×List (List UInt8)=>[(7,.sl x.1 1 (cT x.2))]) (λdone rest x H'=>rest.foldl (zdw s) x.2=ps.foldl (zdw s) []/\x.2.length+rest.length<=ps.length/\zA H' x.1 x.2.length 1) (.nil,[]) (by simp(disch:=omega) only[cT,List.map,go_sem]) ⟨rfl,by simp,rfl⟩ ?_ ?_
   ·rintro⟨U,a⟩ H' an ⟨A,_,J⟩ Y;simp only[List.foldl]at A;simp(disch:=omega) only[ad,Y,go_sem];exact fin a (by rw[I,<-A]) _ _ [.sl U 1 (cT a)] (by simp(disch:=omega) only[ir237,zo,z8,go_sem]) rfl
   ·rintro done x rest ⟨U,a⟩ H' an ai Y _ ⟨A,av,J⟩ ab;replace J:zA H' U a.length 1:=J;have ar:=YP ai;simp only[List.foldl,Al2]at A av;have aw:=zmw s a x;simp(disch:=omega) only[ad,Y,ar,go_sem];refine za (ze.low (a4 x)) ?_;cases ae:Za s x [1]with
    | false =>
     have W:zdw s a x=a:=by simp[zdw,ae]
     rw[W]at A;simp(disch:=omega) only[go_sem];exact goJ (ab (U,a) _ ⟨A,by simp only;omega,J⟩) (by simp(disch:=omega) only[wrap64,go_sem])
    | true =>
     have W:zdw s a x=zcv a x:=by simp[zdw,ae]
     rw[W]at A aw;simp(disch:=omega) only[go_sem];refine zx (zA9 a x U _ (by simp only[Lim];omega) J) λa0 am af=>?_;rw[zG]at af;simp(disch:=omega) only[wrap64,go_sem];exact goJ (ab (a0,zcv a x) am ⟨A,by simp only;omega,af.own⟩) (by simp(disch:=omega) only[go_sem])
  ·simp only[ax,ay,az,if_false]at I;simp(disch:=omega) only[Option.getD,Option.isSome,yf,go_sem];refine zc λag ah=>?_;simp(disch:=omega) only[yf,ax,ay,az,go_sem];exact fin [] I _ _ [.sl .nil 1 []] (by simp(disch:=omega) only[ir237,zo,z8,go_sem]) rfl
open Go.Lib
def zrq{s:List UInt8}(h:s.length≠1):zoi s=false:=by
 match s,h with
 | [],_=>rfl
 | [_],h=>exact absurd rfl h
 | _::_::_,_=>rfl
def zwo(t:Tok)(J:t.s.length<=Lim):ze Tryz.prog 40 [.agg (cK t)] (.bool (yy t)):=by
 refine ze.go ir40.1 ir40.2 (Al4 _) λKP Q A=>?_;obtain⟨k,s⟩:=t;simp only at J;by_cases U:k=1
 ·subst U;by_cases I:s=[46,46,46]
  ·simp(disch:=omega) only[ir40,cK,I,go_sem];exact A _ _ _ _ nofun rfl (by simp[yy,I,za6])
  by_cases aa:s.length=1
  ·obtain⟨c,rfl⟩:=List.length_eq_one_iff.1 aa;simp(disch:=omega) only[ir40,cK,I,go_sem];have e:yy ⟨1,[c]⟩=decide (0<=Lib.indexByte zf1 c):=by simp[yy,za6,zoi]
   refine za (znZ _ c) ?_;simp(disch:=omega) only[go_sem];exact A _ _ _ [_] nofun rfl (by rw[e];rfl)
  ·have ab:¬ ((s.length:Int)=1):=by omega
   simp(disch:=omega) only[ir40,cK,I,ab,go_sem];exact A _ _ _ _ nofun rfl (by simp[yy,I,za6,zrq aa])
 by_cases W:k=2
 ·subst W;simp(disch:=omega) only[ir40,cK,go_sem];refine za (zkG s J) ?_;simp(disch:=omega) only[go_sem];exact A _ _ _ _ nofun rfl (by simp[yy])
 by_cases X:k=3
 ·subst X;simp(disch:=omega) only[ir40,cK,go_sem];refine za (zgd s J) ?_;simp(disch:=omega) only[go_sem];exact A _ _ _ _ nofun rfl (by simp[yy])
 by_cases Y:k=4
 ·subst Y;simp(disch:=omega) only[ir40,cK,go_sem];refine za (zgd s J) ?_;simp(disch:=omega) only[go_sem];exact A _ _ _ _ nofun rfl (by simp[yy])
 by_cases Z:k=5
 ·subst Z;simp(disch:=omega) only[ir40,cK,go_sem];refine za (zr3 s J) ?_;simp(disch:=omega) only[go_sem];exact A _ _ _ _ nofun rfl (by simp[yy])
 ·simp(disch:=omega) only[ir40,cK,U,W,X,Y,Z,go_sem];exact A _ _ _ _ nofun rfl (by simp[yy,U,W,X,Y,Z])
def zwa:∀l:List (List UInt8),(Lib.join l [32]).length<=(l.map λs=>s.length+1).sum
 | []=>by simp[Lib.join_nil]
 | x::r=>by
  rw[Lib.join_length];have:∀l:List (List UInt8),lens l+l.length=(l.map λs=>s.length+1).sum:=λl=>by
   induction l with
   | nil=>rfl
   | cons y l A=>simp only[lens,List.map_cons,List.sum_cons,Al2]at A ⊢;omega
  have h:=this (x::r);simp only[Al2,Al3]at h ⊢;omega
def zuE(l:List Tok)(h:l.all yy=true):(Zt l).length<=6*wT l:=by
 refine Nat.le_trans (zwa _) ?_;induction l with
 | nil=>simp[wT]
 | cons t l I =>simp only[List.all_cons,Al0]at h;have J:=zus h.1;have A:=I h.2;rw[y6];simp only[List.map_cons,List.sum_cons,wK]at A ⊢;omega
def zy9{l:List Tok}{t:Tok}(h:t∈l):t.s.length+4<=wT l:=by
 induction l with
 | nil=>cases h
 | cons y l A =>
  rw[y6];rcases List.mem_cons.1 h with rfl|h
  ·unfold wK;omega
  ·have:=A h;omega
def zyV(l:List Tok):4*l.length<=wT l:=by
 induction l with
 | nil=>simp
 | cons y l A=>rw[y6];simp only[Al2,wK];omega
def zv8(L:List Tok)(W:8*wT L<=Lim):ze Tryz.prog 15 [.sl .no 2 (cKs L)] (.tup [.str (zaa L).1,.bool (zaa L).2]):=by
 refine ze.go ir15.1 ir15.2 (Al4 _) λKP Q af=>?_;have aa:=yP L;have am:=zyV L;simp only[Lim]at W;simp(disch:=omega) only[ir15,aa,go_sem];refine zf L 9 (λx:Own×List (List UInt8)=>[(4,.sl x.1 1 (cT x.2))]) (λdone rest x H=>x.2=done.map Yu/\done.all yy=true/\zA H x.1 x.2.length 1) (.nil,[]) (by simp(disch:=omega) only[cT,go_sem]) ⟨rfl,rfl,zA.nil _ _⟩ ?_ ?_
 ·rintro⟨o,l⟩ H ag ⟨I,hr,ho⟩ ab;simp only at I hr ho;subst I;have ak:=zuE L hr;have A:=zG (L.map Yu);simp(disch:=omega) only[aa,ab,go_sem];refine za (ze.low (ztV (L.map Yu) [32] (by show (Zt L).length<=_;omega) (by simp;omega))) ?_;simp(disch:=omega) only[go_sem];exact af _ _ _ _ nofun rfl (by simp[zaa,hr,Zt])
 ·rintro done x rest ⟨o,l⟩ H ag Z ab al ⟨I,hr,ho⟩ ae;simp only at I hr ho;have ah:=zvn Z;have ai:x∈L:=by rw[Z];simp
  have an:=zy9 ai;have hlen:l.length=done.length:=by rw[I];simp
  have A:=zG l;simp(disch:=omega) only[aa,ab,ah,go_sem];refine zc λb W=>?_;simp(disch:=omega) only[go_sem];refine za (zwo x (by simp only[Lim];omega)) ?_;cases J:yy x with
  | false =>
   have e:L.all yy=false:=by rw[Z];simp[J]
   simp(disch:=omega) only[go_sem];exact af _ _ _ _ nofun rfl (by simp[zaa,e])
  | true =>
   by_cases U:x.k=5
   ·have aj:validD x.s=true:=by unfold yy at J;rw[U]at J;simpa using J
    simp(disch:=omega) only[U,go_sem];refine za (zvF x.s aj (by simp only[Lim];omega)) ?_;simp(disch:=omega) only[go_sem];refine zj (by rw[A];exact ho.upd W) (by simp only[A,Al2,Al3];omega) (by simp only[A,Al2,Al3,maxLen];omega) λad X ac=>?_;have Y:Yu x=ziL x.s:=by unfold Yu;rw[if_pos U]
    simp(disch:=omega) only[wrap64,go_sem];exact goJ (ae (ad,l++[ziL x.s]) X ⟨by rw[I];simp[Y],by simp[hr,J],by simpa[A]using ac.own⟩) (by simp(disch:=omega) only[cT,List.map_append,go_sem])
   ·have Y:Yu x=x.s:=by unfold Yu;rw[if_neg U]
    simp(disch:=omega) only[U,go_sem];refine zj (by rw[A];exact ho.upd W) (by simp only[A,Al2,Al3];omega) (by simp only[A,Al2,Al3,maxLen];omega) λad X ac=>?_;simp(disch:=omega) only[wrap64,go_sem];exact goJ (ae (ad,l++[x.s]) X ⟨by rw[I];simp[Y],by simp[hr,J],by simpa[A]using ac.own⟩) (by simp(disch:=omega) only[cT,List.map_append,go_sem])
end Go.Proofs.YtnemcnegfkjpeaaGreatDoor
namespace Go.Proofs.YtnemcnegfkjpeaaGreatDoor
open Go.Ab
structure WAt (H:zb) (w:Nat) (o:Own) (l:List Tok) (ok:Bool) (dp:Int):Prop where
 cell:H w=some (.cells [.sl o 2 (cKs l),.bool ok,.int .i64 dp])
 own:zA H o l.length 2
structure WStep (H:zb) (o:Own) (w:Nat) (H':zb) (o':Own):Prop where
 keep:∀c x,c≠w->(∀d,o≠.tip c d)->H c=some x->H' c=some x
 new:∀b d,o'=.tip b d->H b=none∨∃d0,o=.tip b d0
def WStep.refl(H:zb)(o:Own)(w:Nat):WStep H o w H o:=⟨λ_ _ _ _ h=>h,λb d e=>.inr ⟨d,e⟩⟩
def WStep.trans{H H1 U:zb}{o aa o2:Own}{w:Nat}{x:AObj}(h:WStep H o w H1 aa)(ad:H1 w=some x)(h':WStep H1 aa w U o2):WStep H o w U o2:=by
 refine⟨λc y X Y Z=>h'.keep c y X (λd e=>?_) (h.keep c y X Y Z),λb d e=>?_⟩
 ·rcases h.new c d e with A|⟨I,A⟩
  ·rw[Z]at A;cases A
  ·exact Y I A
 ·rcases h'.new b d e with A|⟨I,A⟩
  ·cases ab:H b with
   | none=>exact .inl rfl
   | some y =>
    by_cases W:∃d,o=.tip b d
    ·exact .inr W
    ·have ac:b≠w:=λJ=>by subst J;rw[ad]at A;cases A
     have:=h.keep b y ac (λd J=>W ⟨d,J⟩) ab;rw[A]at this;cases this
  ·exact h.new b I A
def WStep.box{H H':zb}{o o':Own}{w b n:Nat}{cs:List AV}(h:WStep H o w H' o')(ho:zA H o n 2)(A:H b=some (.cells cs))(I:b≠w):H' b=some (.cells cs) :=h.keep b _ I (λd e=>by subst e;exact own_ne ho A rfl) A
def WStep.upd{H H':zb}{o o':Own}{w:Nat}{x:AObj}(h:WStep H o w H' o'):WStep H o w (H'.upd w x) o' :=⟨λc y A I J=>by rw[upd_ne A];exact h.keep c y A I J,h.new⟩
def WStep.alloc{H H':zb}{o o':Own}{w b:Nat}{x:AObj}(h:WStep H o w H' o')(A:H' b=none):WStep H o w (H'.upd b x) o' :=⟨λc y I J U=>by have:=h.keep c y I J U;rw[upd_ne (λe=>by subst e;rw[A]at this;cases this)];exact this,h.new⟩
def WAt.alloc{H:zb}{w b:Nat}{o:Own}{l:List Tok}{ok:Bool}{dp:Int}{x:AObj}(h:WAt H w o l ok dp)(A:H b=none):WAt (H.upd b x) w o l ok dp :=⟨by rw[upd_ne (λe=>by subst e;rw[h.cell]at A;cases A)];exact h.cell,h.own.upd A⟩
def WAt.put{H:zb}{w:Nat}{o:Own}{l:List Tok}{ok ok':Bool}{dp dp':Int}(h:WAt H w o l ok dp):WAt (H.upd w (.cells [.sl o 2 (cKs l),.bool ok',.int .i64 dp'])) w o l ok' dp' :=⟨upd_same ..,ZI h.own h.cell⟩
def WAt.app{H H1:zb}{w:Nat}{o A:Own}{l ts:List Tok}{ok:Bool}{dp:Int}{n:Nat}(h:WAt H w o l ok dp)(I:OwnS H o H1 A n 2)(J:n=(l++ts).length):
  H1 w=some (.cells [.sl o 2 (cKs l),.bool ok,.int .i64 dp])/\WAt (H1.upd w (.cells [.sl A 2 (cKs (l++ts)),.bool ok,.int .i64 dp])) w A (l++ts) ok dp/\WStep H o w (H1.upd w (.cells [.sl A 2 (cKs (l++ts)),.bool ok,.int .i64 dp])) A:=by
 subst J;have U:=Zs h.own h.cell I.kept;exact⟨U,⟨upd_same ..,ZI I.own U⟩,λc y W J X=>by rw[upd_ne W];exact I.kept c y X J,I.new⟩
abbrev zu1(R:AV->zb->Prop):AEnd->zb->Prop:=λe H'=>∃v,e=.ret v/\R v H'
def WC(f:FuncId)(args:List AV)(B:Nat)(lo hi:Int)(r:Int->Bool)(tk:List Tok):Prop :=∀(H:zb) (w:Nat) (o:Own) (l:List Tok) (ok:Bool) (dp:Int),WAt H w o l ok dp->lo<=dp->dp<=hi->l.length+B<=Lim -> zd Tryz.prog f (.ptr w 0::args) H (zu1 λv H'=>v=.tup []/\∃o' l',WAt H' w o' l' (ok&&r dp) dp/\WStep H o w H' o'/\l'.length<=l.length+B/\((ok&&r dp)=true->l'=l++tk))
structure WR (H0:zb) (o0:Own) (w:Nat) (l0:List Tok) (ok0:Bool) (dp:Int) (B:Nat) (r:Bool) (tk:List Tok) (H:zb) (o:Own) (l:List Tok):Prop where
 here:WAt H w o l (ok0&&r) dp
 st:WStep H0 o0 w H o
 len:l.length<=l0.length+B
 eq:(ok0&&r)=true->l=l0++tk
def WR.refl{H:zb}{o:Own}{w:Nat}{l:List Tok}{ok:Bool}{dp:Int}(h:WAt H w o l ok dp):WR H o w l ok dp 0 true [] H o l :=⟨by rw[Bool.and_true];exact h,.refl _ _ _,Al4 _,λ_=>by simp⟩
def WR.alloc{H0 H:zb}{o0 o:Own}{w b B:Nat}{l0 l tk:List Tok}{ok0 r:Bool}{dp:Int}{x:AObj}(h:WR H0 o0 w l0 ok0 dp B r tk H o l)(A:H b=none):WR H0 o0 w l0 ok0 dp B r tk (H.upd b x) o l :=⟨h.here.alloc A,h.st.alloc A,h.len,h.eq⟩
def WR.fin{H0 H:zb}{o0 o:Own}{w B B':Nat}{l0 l tk tk':List Tok}{ok0 r r':Bool}{dp:Int}(h:WR H0 o0 w l0 ok0 dp B r tk H o l)(hr:r=r')(I:r'=true->tk=tk')(J:B<=B'):
  ∃o' A,WAt H w o' A (ok0&&r') dp/\WStep H0 o0 w H o'/\A.length<=l0.length+B'/\((ok0&&r')=true->A=l0++tk'):=by
 subst hr;refine⟨o,l,h.here,h.st,by have:=h.len;omega,λe=>?_⟩;rw[h.eq e,I (by simp only[Al0]at e;exact e.2)]
section
variable {KP:AV->zb->Prop} {Q:AExit->Env->zb->Prop} {st:List Fr} {ρ:Env} {H:zb} {all items:List AItem} {d:Option Nat} {R:List Chk}
def zbG{f:FuncId}{args:List AV}{B:Nat}{lo hi:Int}{r:Int->Bool}{tk:List Tok}(aa:WC f args B lo hi r tk){w:Nat}{o:Own}{l:List Tok}{ok:Bool}{dp:Int}(h:WAt H w o l ok dp)(I:lo<=dp)(J:dp<=hi)(Z:l.length+B<=Lim)(k:∀o' A H',WAt H' w o' A (ok&&r dp) dp->WStep H o w H' o'->A.length<=l.length+B->((ok&&r dp)=true->A=l++tk)->goR Tryz.prog KP Q all items st R (ρ.set d (.tup [])) H'):
  goK Tryz.prog KP Q all items st d R ρ f (.ptr w 0::args) H:=by
 refine zC (aa H w o l ok dp h I J Z) λv H' ⟨ab,o',A,U,W,X,Y⟩=>?_;subst ab;exact k o' A H' U W X Y
def zt{f:FuncId}{args:List AV}{B':Nat}{lo hi:Int}{r':Int->Bool}{tk':List Tok}(Y:WC f args B' lo hi r' tk'){H0:zb}{o0 o:Own}{w B:Nat}{l0 l tk:List Tok}{ok0 r:Bool}{dp:Int}(h:WR H0 o0 w l0 ok0 dp B r tk H o l)(J:lo<=dp)(U:dp<=hi)(aa:l0.length+(B+B')<=Lim)(k:∀o' A H',WR H0 o0 w l0 ok0 dp (B+B') (r&&r' dp) (tk++tk') H' o' A->WStep H o w H' o'->goR Tryz.prog KP Q all items st R (ρ.set d (.tup [])) H'):
  goK Tryz.prog KP Q all items st d R ρ f (.ptr w 0::args) H:=by
 have hlen:=h.len;refine zbG Y h.here J U (by omega) λo' A H' W I Z X=>k o' A H' ⟨by rw[<-zak];exact W,h.st.trans h.here.cell I,by omega,λe=>?_⟩ I;rw[<-zak]at e;rw[X e,h.eq (by simp only[Al0]at e ⊢;exact e.1),ZP]
end
def zAh:zd Tryz.prog 36 [] zb.emp (zu1 λv H'=>∃w,v=.ptr w 0/\WAt H' w .nil [] true 0):=by refine zd.go ir36.1 ir36.2 (Al4 _) λKP Q A=>?_;simp(disch:=omega) only[ir36,go_sem];refine zc λb I=>?_;simp(disch:=omega) only[go_sem];exact A _ _ _ _ [_] nofun rfl (Low.refl _) ⟨b,rfl,upd_same ..,rfl⟩
def Yq(b:Bool):WC 37 [.bool b] 0 (-1000) 1000 (λ_=>b) []:=by
 intro H w o l ok dp h J U W;refine zd.go ir37.1 ir37.2 (Al4 _) λKP Q A=>?_;have I:=h.cell;cases ok
 ·simp(disch:=omega) only[ir37,I,go_sem];exact A _ _ _ _ [] nofun rfl (Low.refl _) ⟨rfl,o,l,h.put,(WStep.refl ..).upd,by simp,λ_=>by simp⟩
 ·simp(disch:=omega) only[ir37,I,go_sem];exact A _ _ _ _ [] nofun rfl (Low.refl _) ⟨rfl,o,l,by rw[Bool.true_and];exact h.put,(WStep.refl ..).upd,by simp,λ_=>by simp⟩
def yv(s:List UInt8)(ag:s.length<=Lim):WC 84 [.str s] 1 (-1000) 1000 (λ_=>zL s) [wk s]:=by intro H w o l ok dp h Z aa ae;refine zd.go ir84.1 ir84.2 (Al4 _) λKP Q ad=>?_;have al:=yP l;simp only[Lim]at ae;simp(disch:=omega) only[ir84,go_sem];refine za (zkG s ag) ?_;simp(disch:=omega) only[go_sem];refine zbG (Yq _) h Z aa (by simp only[Lim];omega) λam A H1 I ab ak ac=>?_;have J:=yP A;have af:=I.cell;simp(disch:=omega) only[af,go_sem];refine zj (by rw[J];exact I.own) (by simp only[J,Al2,Al3];omega) (by simp only[J,Al2,Al3,maxLen];omega) λai aj ah=>?_;obtain⟨W,X,Y⟩:=I.app (ts:=[wk s]) ah (by simp[J]);have U:cKs A++[[AV.int .i64 2,AV.str s]]=cKs (A++[wk s]):=zce A (wk s);simp(disch:=omega) only[W,U,go_sem];exact ad _ _ _ _ [] nofun rfl (Low.refl _) ⟨rfl,ai,A++[wk s],X,ab.trans I.cell Y,by simp;omega,λe=>by rw[ac e];simp⟩
def Zd(m:List UInt8)(ao:Own):WC 85 [.sl ao 1 [[.str m]]] 1 (-1000) 1000 (λ_=>true) [pk m]:=by
 intro H w o l ok dp h aq ar ah;refine zd.go ir85.1 ir85.2 (Al4 _) λKP Q ag=>?_;simp only[Lim]at ah;simp(disch:=omega) only[ir85,go_sem];refine zf [m] 8 (λx:Own×List Tok=>[]) (λdone rest x H'=>WAt H' w x.1 x.2 ok dp/\WStep H o w H' x.1/\x.2=l++done.map pk) (o,l) (by simp(disch:=omega) only[go_sem]) ⟨h,.refl _ _ _,by simp⟩ ?_ ?_
 ·rintro⟨Z,I⟩ H1 aa ⟨A,U,J⟩ Y;simp only at A U J;simp(disch:=omega) only[go_sem];refine ag _ _ H1 H1 [] nofun rfl (Low.refl _) ⟨rfl,Z,I,by simpa using A,U,by rw[J];simp,λ_=>by rw[J];simp⟩
 ·rintro done x rest ⟨Z,I⟩ H1 aa X Y al ⟨A,U,J⟩ af;simp only at A U J;have av:I.length<=l.length+1:=by rw[J];simp only[Al5,List.length_map];have:=congrArg List.length X;simp at this;omega
  have aj:([[AV.str m]]:List (List AV)).getD done.length []=[.str x]:=by have:([m].map λk=>[AV.str k]).getD done.length []=[.str x]:=yz X;exact this
  have W:=yP I;have ai:=A.cell;have ak:((done.length:Int)<1)=True:=eq_true (by simpa using Y);have au:done.length<1:=by simpa using al
  simp(disch:=omega) only[ak,aj,ai,go_sem];refine zj (by rw[W];exact A.own) (by simp only[W,Al2,Al3];omega) (by simp only[W,Al2,Al3,maxLen];omega) λan ap am=>?_;obtain⟨ac,ad,ae⟩:=A.app (ts:=[pk x]) am (by simp[W]);have ab:cKs I++[[AV.int .i64 1,AV.str x]]=cKs (I++[pk x]):=zce I (pk x);simp(disch:=omega) only[ac,ab,wrap64,go_sem];exact goJ (af (an,I++[pk x]) _ ⟨ad,U.trans A.cell ae,by rw[J];simp⟩) (by simp(disch:=omega) only[go_sem])
def zjQ(v:Val):zdD v=if zbH v then yQ v else []:=by unfold zdD;rfl
def zpN(v:Val)(ao:wfV v)(al:4*bV v<=Lim)(fixed:Bool):WC 170 [.agg (cV v),.bool fixed] (4*bV v) 0 32 (λdp=>yT dp fixed v) (yQ v):=by
 intro H w o l ok dp h a1 a2 az;have an:bV v<=Lim:=by simp only[Lim]at al ⊢;omega
 have a4:(zdD v).length<=4*bV v:=by
  have:=zgc v;rw[zjQ];split
  ·omega
  ·simp
 have af:=yP (zdD v);have a3:=zg2 v;have a5:=zcL v [];have aw:=zG (yL v []);simp only[Lim]at az al;refine zd.go ir170.1 ir170.2 (Al4 _) λKP Q am=>?_;have ak:=h.cell;have fin:∀(b:Bool),b=yT dp fixed v->∀(Y:zb) (W:Own) (A:List Tok),WAt Y w W A (ok&&b) dp->WStep H o w Y W->A.length<=l.length+0->((ok&&b)=true->A=l++[]) ->
   ∀(U:zb) (X:Own),OwnS Y W U X ((cKs A).length+(cKs (zdD v)).length) 2 ->
   U w=some (.cells [.sl W 2 (cKs A),.bool (ok&&b),.int .i64 dp])/\∃o' ar,WAt (U.upd w (.cells [.sl X 2 (cKs A++cKs (zdD v)),.bool (ok&&b),.int .i64 dp])) w o' ar (ok&&yT dp fixed v) dp /\ WStep H o w (U.upd w (.cells [.sl X 2 (cKs A++cKs (zdD v)),.bool (ok&&b),.int .i64 dp])) o'/\ar.length<=l.length+4*bV v/\((ok&&yT dp fixed v)=true->ar=l++yQ v):=by
  intro b Z Y W A I ac ae ad U X a0;obtain⟨ab,aa,av⟩:=I.app (ts:=zdD v) a0 (by simp[yP]);rw[zn2]at aa av;refine⟨ab,X,A++zdD v,by rw[<-Z];exact aa,ac.trans I.cell av,by simp only[Al5];omega,λe=>?_⟩;rw[<-Z]at e;have au:yT dp fixed v=true:=by rw[<-Z];simp only[Al0]at e;exact e.2
  have ay:zbH v=true:=by simp only[yT,Al0]at au;exact au.1
  rw[ad e,zjQ,ay];simp
 have ap:IntKind.wrap .i64 (dp+y5 v)=dp+y5 v:=wrap64 (by omega) (by omega);cases ai:zbH v with
 | false =>
  have Z:false=yT dp fixed v:=by simp[yT,ai]
  simp(disch:=omega) only[zp,zk,zg,zn,zl,zh,zu,ir170,go_sem];refine za (zh1 v ao al) ?_;simp(disch:=omega) only[ai,go_sem];refine zbG (Yq _) h (by omega) (by omega) (by simp only[Lim];omega) λW A Y I ac ae ad=>?_;have J:=yP A;have ag:=I.cell;simp(disch:=omega) only[ag,go_sem];refine zj (by rw[J];exact I.own) (by rw[J,af];omega) (by rw[J,af];simp only[maxLen];omega) λX U ah=>?_;obtain⟨ab,aa⟩:=fin _ Z Y W A I ac ae ad U X ah;simp(disch:=omega) only[ab,zbs,go_sem];exact am _ _ _ _ [] nofun rfl (Low.refl _) ⟨rfl,aa⟩
 | true =>
  by_cases aj:dp+y5 v<=16
  case neg =>
   have Z:false=yT dp fixed v:=by simp[yT,aj]
   simp(disch:=omega) only[zp,zk,zg,zn,zl,zh,zu,ir170,go_sem];refine za (zh1 v ao al) ?_;simp(disch:=omega) only[zp,zk,zg,zn,zl,zh,zu,ai,ak,go_sem];refine za (zlj v an) ?_;simp(disch:=omega) only[zp,zk,zg,zn,zl,zh,zu,ap,aj,ak,go_sem];refine zbG (Yq _) h (by omega) (by omega) (by simp only[Lim];omega) λW A Y I ac ae ad=>?_;have J:=yP A;have ag:=I.cell;simp(disch:=omega) only[ag,go_sem];refine zj (by rw[J];exact I.own) (by rw[J,af];omega) (by rw[J,af];simp only[maxLen];omega) λX U ah=>?_;obtain⟨ab,aa⟩:=fin _ Z Y W A I ac ae ad U X ah;simp(disch:=omega) only[ab,zbs,go_sem];exact am _ _ _ _ [] nofun rfl (Low.refl _) ⟨rfl,aa⟩
  cases fixed with
  | false =>
   have Z:true=yT dp false v:=by simp[yT,aj,ai]
   simp(disch:=omega) only[zp,zk,zg,zn,zl,zh,zu,ir170,go_sem];refine za (zh1 v ao al) ?_;simp(disch:=omega) only[zp,zk,zg,zn,zl,zh,zu,ai,ak,go_sem];refine za (zlj v an) ?_;simp(disch:=omega) only[zp,zk,zg,zn,zl,zh,zu,ap,aj,ak,go_sem];refine zbG (Yq _) h (by omega) (by omega) (by simp only[Lim];omega) λW A Y I ac ae ad=>?_;have J:=yP A;have ag:=I.cell;simp(disch:=omega) only[ag,go_sem];refine zj (by rw[J];exact I.own) (by rw[J,af];omega) (by rw[J,af];simp only[maxLen];omega) λX U ah=>?_;obtain⟨ab,aa⟩:=fin _ Z Y W A I ac ae ad U X ah;simp(disch:=omega) only[ab,zbs,go_sem];exact am _ _ _ _ [] nofun rfl (Low.refl _) ⟨rfl,aa⟩
  | true =>
   simp(disch:=omega) only[zp,zk,zg,zn,zl,zh,zu,ir170,go_sem];refine za (zh1 v ao al) ?_;simp(disch:=omega) only[zp,zk,zg,zn,zl,zh,zu,ai,ak,go_sem];refine za (zlj v an) ?_;simp(disch:=omega) only[zp,zk,zg,zn,zl,zh,zu,ap,aj,ak,go_sem];refine za (ztn v an) ?_;by_cases ax:(yL v []).length=0
   ·have Z:true=yT dp true v:=by simp[yT,aj,ai,ax]
    have aq:¬ ((0:Int)<(yL v []).length):=by omega
    simp(disch:=omega) only[zp,zk,zg,zn,zl,zh,zu,aw,aq,go_sem];refine zbG (Yq _) h (by omega) (by omega) (by simp only[Lim];omega) λW A Y I ac ae ad=>?_;have J:=yP A;have ag:=I.cell;simp(disch:=omega) only[ag,go_sem];refine zj (by rw[J];exact I.own) (by rw[J,af];omega) (by rw[J,af];simp only[maxLen];omega) λX U ah=>?_;obtain⟨ab,aa⟩:=fin _ Z Y W A I ac ae ad U X ah;simp(disch:=omega) only[ab,zbs,go_sem];exact am _ _ _ _ [] nofun rfl (Low.refl _) ⟨rfl,aa⟩
   ·have Z:false=yT dp true v:=by simp[yT,aj,ai,ax]
    have aq:((0:Int)<(yL v []).length)=True:=eq_true (by omega);simp(disch:=omega) only[zp,zk,zg,zn,zl,zh,zu,aw,aq,go_sem];refine zbG (Yq _) h (by omega) (by omega) (by simp only[Lim];omega) λW A Y I ac ae ad=>?_;have J:=yP A;have ag:=I.cell;simp(disch:=omega) only[ag,go_sem];refine zj (by rw[J];exact I.own) (by rw[J,af];omega) (by rw[J,af];simp only[maxLen];omega) λX U ah=>?_;obtain⟨ab,aa⟩:=fin _ Z Y W A I ac ae ad U X ah;simp(disch:=omega) only[ab,zbs,go_sem];exact am _ _ _ _ [] nofun rfl (Low.refl _) ⟨rfl,aa⟩
def zqe(m:Int)(k:Nat)(I:k<=64):m.fdiv (2 ^ min k IntKind.i64.bits)=m / 2 ^ k:=by
 have e:min k IntKind.i64.bits=k:=by show min k 64=k;omega
 have A:(0:Int)<=2 ^ k:=by exact_mod_cast Nat.zero_le _
 rw[e,Int.fdiv_eq_ediv_of_nonneg _ A]
def zaS(t:TyD)(Y:t.nm.length<=Lim):ze Tryz.prog 168 [.agg (cTy t)] (.bool (zM t)):=by
 refine ze.go ir168.1 ir168.2 (Al4 _) λKP Q X=>?_;obtain⟨nm,A,ms⟩:=t;simp only at Y;simp(disch:=omega) only[ir168,cTy,steps,st2,pev,rev,oev,zdI,zfD,zuD,ztu,bound,zdx,mm2,mk,ZO,AV.cells,AV.boxable,AV.one,AV.strip1,AV.strip2,zdB,zb8,go_sem_proc,AV.i,AV.e,AV.n,Opd.i,Opd.e,Opd.n,Opd.y,Opd.f,IC.op,ics,IC.m,IC.M,IC.z,IC.f,IC.F,IC.v,IC.V,IC.l,IC.L,IC.b,IC.B,IC.N,IC.G,IC.x,IC.E,IC.d,IC.D,IC.q,IC.Q,IC.S,IC.T,IC.p,IC.w,IC.i,IC.a,IC.o,IC.s,IC.c,IC.C,IC.k,IC.O,IC.j,IC.h,AC.K,AC.R,AC.r,AC.g,AC.Q,AC.u,AC.w,AC.c,AC.B,AC.L,AC.E,List.map_cons,List.map_nil,Nat.reduceSub];refine za (zkG nm Y) ?_;cases U:zL nm with
 | false =>simp(disch:=omega) only[steps,st2,pev,rev,oev,zdI,zfD,zuD,ztu,bound,zdx,mm2,mk,ZO,AV.cells,AV.boxable,AV.one,AV.strip1,AV.strip2,zdB,zb8,go_sem_proc];exact X _ _ _ _ nofun rfl (by simp[zM,U])
 | true =>
  by_cases I:0<=A
  case neg =>simp(disch:=omega) only[I,steps,st2,pev,rev,oev,zdI,zfD,zuD,ztu,bound,zdx,mm2,mk,ZO,AV.cells,AV.boxable,AV.one,AV.strip1,AV.strip2,zdB,zb8,go_sem_proc];exact X _ _ _ _ nofun rfl (by simp[zM,U,I])
  by_cases J:A<=4
  case neg =>simp(disch:=omega) only[I,J,steps,st2,pev,rev,oev,zdI,zfD,zuD,ztu,bound,zdx,mm2,mk,ZO,AV.cells,AV.boxable,AV.one,AV.strip1,AV.strip2,zdB,zb8,go_sem_proc];exact X _ _ _ _ nofun rfl (by simp[zM,U,I,J])
  by_cases W:0<=ms
  case neg =>simp(disch:=omega) only[I,J,W,steps,st2,pev,rev,oev,zdI,zfD,zuD,ztu,bound,zdx,mm2,mk,ZO,AV.cells,AV.boxable,AV.one,AV.strip1,AV.strip2,zdB,zb8,go_sem_proc];exact X _ _ _ _ nofun rfl (by simp[zM,U,I,J,W])
  have ae:IntKind.wrap .i64 (A+1)=A+1:=wrap64 (by omega) (by omega);have af:¬ (A+1<0):=by omega
  have Z:(A+1).toNat=A.toNat+1:=by omega
  have aa:=zqe ms (A.toNat+1) (by omega);have ad:(0:Int)<2 ^ (A.toNat+1):=by exact_mod_cast Nat.pos_of_ne_zero (by simp)
  have ab:(ms / 2 ^ (A.toNat+1)=0)=(ms<2 ^ (A.toNat+1)):=propext ⟨λh=>by
   by_cases ac:ms<2 ^ (A.toNat+1)
   ·exact ac
   ·have:=(Int.le_ediv_iff_mul_le ad).2 (show 1*2 ^ (A.toNat+1)<=ms by omega);omega,λh=>Int.ediv_eq_zero_of_lt W h⟩
  simp(disch:=omega) only[I,J,W,ae,af,Z,aa,ab,steps,st2,pev,rev,oev,zdI,zfD,zuD,ztu,bound,zdx,mm2,mk,ZO,AV.cells,AV.boxable,AV.one,AV.strip1,AV.strip2,zdB,zb8,go_sem_proc];exact X _ _ _ _ nofun rfl (by simp[zM,U,I,J,W])
def WR.cast{H0 H:zb}{o0 o:Own}{w B B':Nat}{l0 l tk tk':List Tok}{ok0 r r':Bool}{dp:Int}(h:WR H0 o0 w l0 ok0 dp B r tk H o l)(I:B<=B')(hr:r=r')(A:tk=tk'):WR H0 o0 w l0 ok0 dp B' r' tk' H o l:=by subst hr;subst A;exact⟨h.here,h.st,by have:=h.len;omega,h.eq⟩
def WR.after{H0 H1 H:zb}{o0 A o:Own}{w B:Nat}{l0 l tk:List Tok}{ok0 r:Bool}{dp:Int}(h:WR H1 A w l0 ok0 dp B r tk H o l)(I:WStep H0 o0 w H1 A){x:AObj}(J:H1 w=some x):WR H0 o0 w l0 ok0 dp B r tk H o l :=⟨h.here,I.trans J h.st,h.len,h.eq⟩
def zdj(n:Nat)(m:Int):Nat->List Tok
 | 0=>[]
 | j+1=>zfV n m j++zdj n m j
def zgZ(n:Nat)(m:Int):∀j,zd8 n m j=zdj n m (j+1)
 | 0=>by simp[zd8,zdj]
 | j+1=>by rw[zd8,zgZ n m j];rfl
def and1{x:Int}(A:0<=x)(I:x<64):IntKind.wrap .i64 ((BitVec.ofInt IntKind.i64.bits x &&& BitVec.ofInt IntKind.i64.bits 1).toNat:Int)=x % 2:=by
 have:∀y:Fin 64,IntKind.wrap .i64 ((BitVec.ofInt IntKind.i64.bits (y.val:Int) &&& BitVec.ofInt IntKind.i64.bits 1).toNat:Int)=(y.val:Int) % 2:=by decide +kernel
 have:=this ⟨x.toNat,by omega⟩;simp only[Int.toNat_of_nonneg A]at this;exact this
def zlm(t:TyD)(ap:t.nm.length<=Lim):WC 86 [.agg (cTy t)] 20 (-1000) 1000 (λ_=>zM t) (tTy t):=by
 intro H w o l ok dp h bx bz a3;have b2:=a3;simp only[Lim]at a3;refine zd.go ir86.1 ir86.2 (Al4 _) λKP Q a2=>?_;obtain⟨nm,U,ms⟩:=t;simp only at ap;have a9:cTy ⟨nm,U,ms⟩=[.str nm,.int .i64 U,.int .i64 ms]:=rfl;simp(disch:=omega) only[ir86,a9,steps,st2,pev,rev,oev,zdI,zfD,zuD,ztu,bound,zdx,mm2,mk,ZO,AV.cells,AV.boxable,AV.one,AV.strip1,AV.strip2,zdB,zb8,go_sem_proc,AV.i,AV.e,AV.n,Opd.i,Opd.e,Opd.n,Opd.y,Opd.f,IC.op,ics,IC.m,IC.M,IC.z,IC.f,IC.F,IC.v,IC.V,IC.l,IC.L,IC.b,IC.B,IC.N,IC.G,IC.x,IC.E,IC.d,IC.D,IC.q,IC.Q,IC.S,IC.T,IC.p,IC.w,IC.i,IC.a,IC.o,IC.s,IC.c,IC.C,IC.k,IC.O,IC.j,IC.h,AC.K,AC.R,AC.r,AC.g,AC.Q,AC.u,AC.w,AC.c,AC.B,AC.L,AC.E,List.map_cons,List.map_nil,Nat.reduceSub];refine za (show ze Tryz.prog 168 [.agg [.str nm,.int .i64 U,.int .i64 ms]] (.bool (zM ⟨nm,U,ms⟩)) from zaS ⟨nm,U,ms⟩ ap) ?_;simp(disch:=omega) only[steps,st2,pev,rev,oev,zdI,zfD,zuD,ztu,bound,zdx,mm2,mk,ZO,AV.cells,AV.boxable,AV.one,AV.strip1,AV.strip2,zdB,zb8,go_sem_proc];refine zbG (Yq _) h (by omega) (by omega) (by simp only[Lim];omega) λai Z ab X a0 b1 a1=>?_;have af:=X.cell;cases J:ok&&zM ⟨nm,U,ms⟩with
 | false =>rw[J]at X af;simp(disch:=omega) only[af,steps,st2,pev,rev,oev,zdI,zfD,zuD,ztu,bound,zdx,mm2,mk,ZO,AV.cells,AV.boxable,AV.one,AV.strip1,AV.strip2,zdB,zb8,go_sem_proc];exact a2 _ _ ab ab [] nofun rfl (Low.refl _) ⟨rfl,ai,Z,by rw[J];exact X,a0,by omega,λe=>by rw[J]at e;cases e⟩
 | true =>
  rw[J]at X af a1;have a8:Z=l:=by have:=a1 rfl;simpa using this
  subst a8;have a5:zM ⟨nm,U,ms⟩=true:=by simp only[Al0]at J;exact J.2
  have b6:ok=true:=by simp only[Al0]at J;exact J.1
  simp only[zM,Al0,z6]at a5;obtain⟨bh,b9,ca,a6,br⟩:=a5;obtain⟨n,rfl⟩:∃n:Nat,U=(n:Int):=⟨U.toNat,by omega⟩;have az:(n:Int).toNat=n:=by omega
  rw[az]at br;have b5:n<=4:=by omega
  have b4:ms<64:=by
   have:(2:Int) ^ (n+1)<=2 ^ 5:=by exact_mod_cast Nat.pow_le_pow_right (by decide) (by omega:n+1<=5)
   omega
  have w0:=WR.refl X;simp(disch:=omega) only[af,steps,st2,pev,rev,oev,zdI,zfD,zuD,ztu,bound,zdx,mm2,mk,ZO,AV.cells,AV.boxable,AV.one,AV.strip1,AV.strip2,zdB,zb8,go_sem_proc];refine Ze (λx:Nat×Own×List Tok=>[(16,.int .i64 x.1)]) (λx H'=>x.1<=n/\WR ab ai w Z true dp x.1 true (List.replicate x.1 (pk [91])) H' x.2.1 x.2.2) (λx=>n-x.1) (0,ai,Z) (by simp(disch:=omega) only[steps,st2,pev,rev,oev,zdI,zfD,zuD,ztu,bound,zdx,mm2,mk,ZO,AV.cells,AV.boxable,AV.one,AV.strip1,AV.strip2,zdB,zb8,go_sem_proc]) ⟨by simp,w0⟩ ?_;rintro⟨i,b8,b7⟩ bt bu ⟨hi,aw⟩ bf;simp only at hi aw;by_cases b3:i<n
  ·have ao:((i:Int)<n)=True:=eq_true (by omega);simp(disch:=omega) only[ao,steps,st2,pev,rev,oev,zdI,zfD,zuD,ztu,bound,zdx,mm2,mk,ZO,AV.cells,AV.boxable,AV.one,AV.strip1,AV.strip2,zdB,zb8,go_sem_proc];refine zt (Zd [91] _) aw (by omega) (by omega) (by simp only[Lim];omega) λau aq ay aj _=>?_;simp(disch:=omega) only[wrap64,steps,st2,pev,rev,oev,zdI,zfD,zuD,ztu,bound,zdx,mm2,mk,ZO,AV.cells,AV.boxable,AV.one,AV.strip1,AV.strip2,zdB,zb8,go_sem_proc];exact goJ (bf (i+1,au,aq) ay (by simp only;omega) ⟨by simp only;omega,aj.cast (Al4 _) rfl (by rw[List.replicate_succ'])⟩) (by simp(disch:=omega) only[Int.natCast_add,steps,st2,pev,rev,oev,zdI,zfD,zuD,ztu,bound,zdx,mm2,mk,ZO,AV.cells,AV.boxable,AV.one,AV.strip1,AV.strip2,zdB,zb8,go_sem_proc])
  ·have ao:¬ ((i:Int)<n):=by omega
   obtain rfl:i=n:=by omega
   simp(disch:=omega) only[ao,steps,st2,pev,rev,oev,zdI,zfD,zuD,ztu,bound,zdx,mm2,mk,ZO,AV.cells,AV.boxable,AV.one,AV.strip1,AV.strip2,zdB,zb8,go_sem_proc];refine zt (yv nm ap) aw (by omega) (by omega) (by simp only[Lim];omega) λau aq ay aj _=>?_;rw[bh]at aj;simp(disch:=omega) only[steps,st2,pev,rev,oev,zdI,zfD,zuD,ztu,bound,zdx,mm2,mk,ZO,AV.cells,AV.boxable,AV.one,AV.strip1,AV.strip2,zdB,zb8,go_sem_proc];refine Ze (λx:Nat×Own×List Tok×Nat×List Tok=>[(4,.int .i64 ((x.1:Int)-1))]) (λx H'=>x.1<=i+1/\x.2.2.2.1+2*x.1<=19/\x.2.2.2.2++zdj i ms x.1=tTy ⟨nm,i,ms⟩/\WR ab ai w Z true dp x.2.2.2.1 true x.2.2.2.2 H' x.2.1 x.2.2.1) (λx=>x.1) (i+1,au,aq,i+1,List.replicate i (pk [91])++[wk nm]) (by simp(disch:=omega) only[Int.natCast_add,Int.add_sub_cancel,steps,st2,pev,rev,oev,zdI,zfD,zuD,ztu,bound,zdx,mm2,mk,ZO,AV.cells,AV.boxable,AV.one,AV.strip1,AV.strip2,zdB,zb8,go_sem_proc]) ⟨by simp,by simp only;omega,by simp only[tTy,az,zgZ];simp,aj.cast (Al4 _) rfl rfl⟩ ?_;rintro⟨k,bp,bn,B,tk⟩ al bv ⟨bg,be,A,aa⟩ ac;simp only at bg be A aa;cases k with
   | zero =>
    have Y:¬ ((0:Int)<=-1):=by omega
    have ak:=aa.after a0 X.cell;simp only[zdj,List.append_nil]at A;simp(disch:=omega) only[Y,Int.reduceSub,steps,st2,pev,rev,oev,zdI,zfD,zuD,ztu,bound,zdx,mm2,mk,ZO,AV.cells,AV.boxable,AV.one,AV.strip1,AV.strip2,zdB,zb8,go_sem_proc];refine a2 _ _ al al [] nofun rfl (Low.refl _) ⟨rfl,?_⟩;obtain⟨o',bl,ba,bc,bw,bd⟩:=ak.fin (B':=20) rfl (λ_=>A) (by omega);rw[J];exact⟨o',bl,by simpa using ba,bc,by omega,λ_=>by simpa using bd rfl⟩
   | succ j =>
    have an:((j+1:Nat):Int)-1=(j:Int):=by omega
    have Y:((0:Int)<=j)=True:=eq_true (by omega);have ae:=zqe ms j (by omega);have bj:0<=ms / 2 ^ j:=Int.ediv_nonneg a6 (by exact_mod_cast Nat.zero_le _);have bk:ms / 2 ^ j<64:=by have:ms / 2 ^ j<=ms:=Int.ediv_le_self _ a6;omega
    have ad:=and1 bj bk;have ag:¬ ((j:Int)<0):=by omega
    simp only[zdj,zfV]at A;by_cases a4:j<i
    ·have ah:((j:Int)<i)=True:=eq_true (by omega);rw[if_pos a4]at A;simp(disch:=omega) only[an,Y,ah,steps,st2,pev,rev,oev,zdI,zfD,zuD,ztu,bound,zdx,mm2,mk,ZO,AV.cells,AV.boxable,AV.one,AV.strip1,AV.strip2,zdB,zb8,go_sem_proc];refine zt (Zd [93] _) aa (by omega) (by omega) (by simp only[Lim];omega) λbq bo a7 ak _=>?_;by_cases I:ms / 2 ^ j % 2=1
     ·have W:zeD ms j=true:=by simp[zeD,I]
      rw[W]at A;simp(disch:=omega) only[ae,ag,ad,I,steps,st2,pev,rev,oev,zdI,zfD,zuD,ztu,bound,zdx,mm2,mk,ZO,AV.cells,AV.boxable,AV.one,AV.strip1,AV.strip2,zdB,zb8,go_sem_proc];refine zt (Zd [33] _) ak (by omega) (by omega) (by simp only[Lim];omega) λav ar am ax _=>?_;simp(disch:=omega) only[wrap64,steps,st2,pev,rev,oev,zdI,zfD,zuD,ztu,bound,zdx,mm2,mk,ZO,AV.cells,AV.boxable,AV.one,AV.strip1,AV.strip2,zdB,zb8,go_sem_proc];exact goJ (ac (j,av,ar,B+1+1,tk++[pk [93]]++[pk [33]]) am (Nat.lt_succ_self j) ⟨by simp only;omega,by simp only;omega,by rw[<-A];simp,ax.cast (Al4 _) rfl rfl⟩) (by simp(disch:=omega) only[steps,st2,pev,rev,oev,zdI,zfD,zuD,ztu,bound,zdx,mm2,mk,ZO,AV.cells,AV.boxable,AV.one,AV.strip1,AV.strip2,zdB,zb8,go_sem_proc])
     ·have W:zeD ms j=false:=by simp[zeD,I]
      rw[W]at A;simp(disch:=omega) only[ae,ag,ad,I,wrap64,steps,st2,pev,rev,oev,zdI,zfD,zuD,ztu,bound,zdx,mm2,mk,ZO,AV.cells,AV.boxable,AV.one,AV.strip1,AV.strip2,zdB,zb8,go_sem_proc];exact goJ (ac (j,bq,bo,B+1,tk++[pk [93]]) a7 (Nat.lt_succ_self j) ⟨by simp only;omega,by simp only;omega,by rw[<-A];simp,ak.cast (Al4 _) rfl rfl⟩) (by simp(disch:=omega) only[steps,st2,pev,rev,oev,zdI,zfD,zuD,ztu,bound,zdx,mm2,mk,ZO,AV.cells,AV.boxable,AV.one,AV.strip1,AV.strip2,zdB,zb8,go_sem_proc])
    ·have ah:¬ ((j:Int)<i):=by omega
     rw[if_neg a4]at A;by_cases I:ms / 2 ^ j % 2=1
     ·have W:zeD ms j=true:=by simp[zeD,I]
      rw[W]at A;simp(disch:=omega) only[an,Y,ah,ae,ag,ad,I,steps,st2,pev,rev,oev,zdI,zfD,zuD,ztu,bound,zdx,mm2,mk,ZO,AV.cells,AV.boxable,AV.one,AV.strip1,AV.strip2,zdB,zb8,go_sem_proc];refine zt (Zd [33] _) aa (by omega) (by omega) (by simp only[Lim];omega) λav ar am ax _=>?_;simp(disch:=omega) only[wrap64,steps,st2,pev,rev,oev,zdI,zfD,zuD,ztu,bound,zdx,mm2,mk,ZO,AV.cells,AV.boxable,AV.one,AV.strip1,AV.strip2,zdB,zb8,go_sem_proc];exact goJ (ac (j,av,ar,B+1,tk++[pk [33]]) am (Nat.lt_succ_self j) ⟨by simp only;omega,by simp only;omega,by rw[<-A];simp,ax.cast (Al4 _) rfl rfl⟩) (by simp(disch:=omega) only[steps,st2,pev,rev,oev,zdI,zfD,zuD,ztu,bound,zdx,mm2,mk,ZO,AV.cells,AV.boxable,AV.one,AV.strip1,AV.strip2,zdB,zb8,go_sem_proc])
     ·have W:zeD ms j=false:=by simp[zeD,I]
      rw[W]at A;simp(disch:=omega) only[an,Y,ah,ae,ag,ad,I,wrap64,steps,st2,pev,rev,oev,zdI,zfD,zuD,ztu,bound,zdx,mm2,mk,ZO,AV.cells,AV.boxable,AV.one,AV.strip1,AV.strip2,zdB,zb8,go_sem_proc];exact goJ (ac (j,bp,bn,B,tk) al (Nat.lt_succ_self j) ⟨by simp only;omega,by simp only;omega,by rw[<-A];simp,aa⟩) (by simp(disch:=omega) only[steps,st2,pev,rev,oev,zdI,zfD,zuD,ztu,bound,zdx,mm2,mk,ZO,AV.cells,AV.boxable,AV.one,AV.strip1,AV.strip2,zdB,zb8,go_sem_proc])
def zjN(has:Bool)(v:Val)(Y:wfV v)(W:4*bV v<=Lim):WC 87 [.bool has,.agg (cV v)] (1+4*bV v) 0 32 (λdp=>if has then yT dp true v else eqd v zV) (tDf has v):=by
 intro H w o l ok dp h ac ad ae;have X:bV v<=Lim:=by simp only[Lim]at W ⊢;omega
 refine zd.go ir87.1 ir87.2 (Al4 _) λKP Q U=>?_;have w0:=WR.refl h;cases has with
 | false =>simp(disch:=omega) only[zp,zk,zg,zn,zl,zh,zu,ir87,go_sem];refine za (ze.low (r:=.bool (eqd v zV)) (by have:=zw6 v X zV;simpa[AV.strip,Y2,zwR,AV.strip1]using this)) ?_;simp(disch:=omega) only[go_sem];refine zt (Yq _) w0 (by omega) (by omega) (by omega) λaa Z A I _=>?_;simp(disch:=omega) only[go_sem];exact U _ _ A A [] nofun rfl (Low.refl _) ⟨rfl,I.fin (by simp) (λ_=>by simp[tDf]) (by omega)⟩
 | true =>simp(disch:=omega) only[zp,zk,zg,zn,zl,zh,zu,ir87,go_sem];refine zt (Zd [61] _) w0 (by omega) (by omega) (by omega) λaa Z A I _=>?_;simp(disch:=omega) only[zp,zk,zg,zn,zl,zh,zu,go_sem];refine zt (zpN v Y W true) I (by omega) (by omega) (by omega) λag af J ab _=>?_;simp(disch:=omega) only[go_sem];exact U _ _ J J [] nofun rfl (Low.refl _) ⟨rfl,ab.fin (by simp) (λ_=>by simp[tDf]) (by omega)⟩
def zs7(fixed:Bool)(m:List Mem)(ar:zf0 m)(ao:8*bMs m<=Lim):WC 171 [.bool fixed,.sl .no 6 (cMs m)] (2+6*bMs m) 0 32 (λdp=>zbg dp fixed m) (YD m):=by
 intro H w o l ok dp h a9 ba J;have bd:=Zg m;have I:=yU m;refine zd.go ir171.1 ir171.2 (Al4 _) λKP Q ac=>?_;have w0:=WR.refl h;by_cases af:m.length=0
 ·have Z:((m.length:Int)=0)=True:=eq_true (by omega);simp(disch:=omega) only[ir171,I,Z,go_sem];have aj:=zcN.1 af;subst aj;exact ac _ _ H H [] nofun rfl (Low.refl _) ⟨rfl,w0.fin rfl (λ_=>rfl) (by omega)⟩
 ·have Z:¬ ((m.length:Int)=0):=by omega
  simp(disch:=omega) only[ir171,I,Z,go_sem];refine zt (Zd [40] _) w0 (by omega) (by omega) (by omega) λay av a6 a3 _=>?_;simp(disch:=omega) only[I,go_sem];refine zf m 16 (λx:Own×List Tok=>[]) (λdone rest x H'=>WR H o w l ok dp (1+6*bMs done) (zbg dp fixed done) (pk [40]::ZV done) H' x.1 x.2) (ay,av) (by simp(disch:=omega) only[go_sem]) (a3.cast (by omega) rfl rfl) ?_ ?_
  ·rintro⟨az,aw⟩ aa ai A Y;simp only at A;simp(disch:=omega) only[I,Y,go_sem];refine zt (Zd [41] _) A (by omega) (by omega) (by omega) λbj bf ab U _=>?_;simp(disch:=omega) only[go_sem];exact ac _ _ ab ab [] nofun rfl (Low.refl _) ⟨rfl,U.fin (by simp) (λ_=>by unfold YD;rw[if_neg af];rfl) (by omega)⟩
  ·rintro done x rest ⟨az,aw⟩ aa ai X Y bc A ak;simp only at A;have an:=Zz X;have ae:=zdt done x rest;rw[<-X]at ae;have aq:x∈m:=by rw[X];simp
   obtain⟨s,v⟩:=x;have au:=zey ar s v aq;have be:=zc8 v;simp only[bM]at ae;have ap:=ao;simp only[Lim]at ap;have W:b0 w=b0 w:=rfl;simp(disch:=omega) only[zp,zk,zg,zn,zl,zh,zu,I,Y,an,go_sem];refine zc λb J=>?_;have W:b≠w:=λe=>by subst e;rw[A.here.cell]at J;cases J
   have U:=A.alloc (x:=.cells (.str s::cV v)) J;have am:(aa.upd b (.cells (.str s::cV v))) b=some (.cells (.str s::cV v)):=upd_same ..;simp(disch:=omega) only[zp,zk,zg,zn,zl,zh,zu,go_sem];refine zt (yv s (by simp only[Lim];omega)) U (by omega) (by omega) (by omega) λbk bg a7 ag a1=>?_;have ad:=a1.box U.here.own am W;simp(disch:=omega) only[zp,zk,zg,zn,zl,zh,zu,ad,go_sem];refine zt (Zd [58] _) ag (by omega) (by omega) (by omega) λbl bh a8 a4 a2=>?_;have al:=a2.box ag.here.own ad W;simp(disch:=omega) only[zp,zk,zg,zn,zl,zh,zu,al,go_sem];refine zt (zpN v au (by simp only[Lim];omega) fixed) a4 (by omega) (by omega) (by omega) λa0 ax ah a5 bn=>?_;simp(disch:=omega) only[wrap64,go_sem];exact goJ (ak (a0,ax) ah (a5.cast (by rw[zdt done (.mk s v) []];simp only[bM,bMs];omega) (by simp[zbg,zlR,zak]) (by rw[zjX];simp[ZV,zc7,wk,pk]))) (by simp(disch:=omega) only[go_sem])
def zdN{t:TyD}(h:zM t=true):0<=t.lists/\t.lists<=4/\0<=t.musts/\t.musts<32:=by
 simp only[zM,Al0,z6]at h;obtain⟨U,A,I,J,W⟩:=h;have:(2:Int) ^ (t.lists.toNat+1)<=2 ^ 5:=by exact_mod_cast Nat.pow_le_pow_right (by decide) (by omega)
 refine⟨A,I,J,?_⟩;have e:(2:Int) ^ 5=32:=by decide
 omega
def zqX(m:Int):Bool:=decide (m % 2=1)
def zzF(nm:List UInt8)(ls ms:Int)(X:0<=ms)(Y:ms<64):ze Tryz.prog 298 [.agg [.str nm,.int .i64 ls,.int .i64 ms],.int .i64 0] (.bool (zqX ms)):=by
 refine ze.go ir298.1 ir298.2 (Al4 _) λKP Q A=>?_;have U:=zqe ms 0 (by omega);simp only[Int.pow_zero,Int.ediv_one]at U;have W:=and1 X Y;by_cases I:ms % 2=1
 ·have J:zqX ms=true:=by simp[zqX,I]
  rw[J]at A;simp(disch:=omega) only[ir298,U,W,I,steps,st2,pev,rev,oev,zdI,zfD,zuD,ztu,bound,zdx,mm2,mk,ZO,AV.cells,AV.boxable,AV.one,AV.strip1,AV.strip2,zdB,zb8,go_sem_proc,AV.i,AV.e,AV.n,Opd.i,Opd.e,Opd.n,Opd.y,Opd.f,IC.op,ics,IC.m,IC.M,IC.z,IC.f,IC.F,IC.v,IC.V,IC.l,IC.L,IC.b,IC.B,IC.N,IC.G,IC.x,IC.E,IC.d,IC.D,IC.q,IC.Q,IC.S,IC.T,IC.p,IC.w,IC.i,IC.a,IC.o,IC.s,IC.c,IC.C,IC.k,IC.O,IC.j,IC.h,AC.K,AC.R,AC.r,AC.g,AC.Q,AC.u,AC.w,AC.c,AC.B,AC.L,AC.E,List.map_cons,List.map_nil,Nat.reduceSub];exact A _ _ _ _ nofun rfl (by simp )
 ·have J:zqX ms=false:=by simp[zqX,I]
  rw[J]at A;simp(disch:=omega) only[ir298,U,W,I,steps,st2,pev,rev,oev,zdI,zfD,zuD,ztu,bound,zdx,mm2,mk,ZO,AV.cells,AV.boxable,AV.one,AV.strip1,AV.strip2,zdB,zb8,go_sem_proc,AV.i,AV.e,AV.n,Opd.i,Opd.e,Opd.n,Opd.y,Opd.f,IC.op,ics,IC.m,IC.M,IC.z,IC.f,IC.F,IC.v,IC.V,IC.l,IC.L,IC.b,IC.B,IC.N,IC.G,IC.x,IC.E,IC.d,IC.D,IC.q,IC.Q,IC.S,IC.T,IC.p,IC.w,IC.i,IC.a,IC.o,IC.s,IC.c,IC.C,IC.k,IC.O,IC.j,IC.h,AC.K,AC.R,AC.r,AC.g,AC.Q,AC.u,AC.w,AC.c,AC.B,AC.L,AC.E,List.map_cons,List.map_nil,Nat.reduceSub];exact A _ _ _ _ nofun rfl (by simp )
def isM(t:TyD):Bool:=zM t&&zqX t.musts
def isC(t:TyD)(Z:t.nm.length<=Lim):ze Tryz.prog 240 [.agg (cTy t)] (.bool (isM t)):=by
 refine ze.go ir240.1 ir240.2 (Al4 _) λKP Q I=>?_;have hr:=zaS t Z;have Y:=@zdN t;obtain⟨nm,J,ms⟩:=t;simp only[cTy]at hr;simp(disch:=omega) only[ir240,cTy,go_sem];refine za hr ?_;cases h:zM ⟨nm,J,ms⟩with
 | false =>simp(disch:=omega) only[go_sem];exact I _ _ _ _ nofun rfl (by simp[isM,h])
 | true =>obtain⟨U,W,A,X⟩:=Y h;simp only at U W A X;simp(disch:=omega) only[go_sem];refine za (zzF nm J ms A (by omega)) ?_;simp(disch:=omega) only[go_sem];exact I _ _ _ _ nofun rfl (by simp[isM,h])
def zTy:TyD:=⟨[],0,0⟩
def YQ(t:TyD):Option TyD:=if zM t=true/\t.lists≠0 then some ⟨t.nm,t.lists-1,t.musts / 2⟩else none
def zwZ(t:TyD)(ac:t.nm.length<=Lim):ze Tryz.prog 301 [.agg (cTy t)] (.tup [.agg (cTy ((YQ t).getD zTy)),.bool (YQ t).isSome]):=by
 refine ze.go ir301.1 ir301.2 (Al4 _) λKP Q aa=>?_;have hr:=zaS t ac;have ab:=@zdN t;obtain⟨nm,A,ms⟩:=t;simp only[cTy]at hr;have fin:∀o,YQ ⟨nm,A,ms⟩=o->∀ρ H vs,zo ρ H ir301.1.res=some vs->(zP vs).strip=.tup [.agg (cTy (o.getD zTy)),.bool o.isSome]->Q .ret ρ H:=λo e ρ H vs J U=>aa _ ρ H vs nofun J (by rw[U,e]);simp(disch:=omega) only[ir301,cTy,steps,st2,pev,rev,oev,zdI,zfD,zuD,ztu,bound,zdx,mm2,mk,ZO,AV.cells,AV.boxable,AV.one,AV.strip1,AV.strip2,zdB,zb8,go_sem_proc,AV.i,AV.e,AV.n,Opd.i,Opd.e,Opd.n,Opd.y,Opd.f,IC.op,ics,IC.m,IC.M,IC.z,IC.f,IC.F,IC.v,IC.V,IC.l,IC.L,IC.b,IC.B,IC.N,IC.G,IC.x,IC.E,IC.d,IC.D,IC.q,IC.Q,IC.S,IC.T,IC.p,IC.w,IC.i,IC.a,IC.o,IC.s,IC.c,IC.C,IC.k,IC.O,IC.j,IC.h,AC.K,AC.R,AC.r,AC.g,AC.Q,AC.u,AC.w,AC.c,AC.B,AC.L,AC.E,List.map_cons,List.map_nil,Nat.reduceSub];refine zc λad ae=>?_;simp(disch:=omega) only[steps,st2,pev,rev,oev,zdI,zfD,zuD,ztu,bound,zdx,mm2,mk,ZO,AV.cells,AV.boxable,AV.one,AV.strip1,AV.strip2,zdB,zb8,go_sem_proc];refine za hr ?_;cases h:zM ⟨nm,A,ms⟩with
 | false =>simp(disch:=omega) only[steps,st2,pev,rev,oev,zdI,zfD,zuD,ztu,bound,zdx,mm2,mk,ZO,AV.cells,AV.boxable,AV.one,AV.strip1,AV.strip2,zdB,zb8,go_sem_proc];exact fin none (by simp[YQ,h]) _ _ [.agg [.str [],.int .i64 0,.int .i64 0],.bool false] (by simp(disch:=omega) only[ir301,zo,z8,steps,st2,pev,rev,oev,zdI,zfD,zuD,ztu,bound,zdx,mm2,mk,ZO,AV.cells,AV.boxable,AV.one,AV.strip1,AV.strip2,zdB,zb8,go_sem_proc,AV.i,AV.e,AV.n,Opd.i,Opd.e,Opd.n,Opd.y,Opd.f,IC.op,ics,IC.m,IC.M,IC.z,IC.f,IC.F,IC.v,IC.V,IC.l,IC.L,IC.b,IC.B,IC.N,IC.G,IC.x,IC.E,IC.d,IC.D,IC.q,IC.Q,IC.S,IC.T,IC.p,IC.w,IC.i,IC.a,IC.o,IC.s,IC.c,IC.C,IC.k,IC.O,IC.j,IC.h,AC.K,AC.R,AC.r,AC.g,AC.Q,AC.u,AC.w,AC.c,AC.B,AC.L,AC.E,List.map_cons,List.map_nil,Nat.reduceSub]) rfl
 | true =>
  obtain⟨J,U,Y,Z⟩:=ab h;simp only at J U Y Z;by_cases I:A=0
  ·simp(disch:=omega) only[I,steps,st2,pev,rev,oev,zdI,zfD,zuD,ztu,bound,zdx,mm2,mk,ZO,AV.cells,AV.boxable,AV.one,AV.strip1,AV.strip2,zdB,zb8,go_sem_proc];exact fin none (by simp[YQ,I]) _ _ [.agg [.str [],.int .i64 0,.int .i64 0],.bool false] (by simp(disch:=omega) only[ir301,zo,z8,steps,st2,pev,rev,oev,zdI,zfD,zuD,ztu,bound,zdx,mm2,mk,ZO,AV.cells,AV.boxable,AV.one,AV.strip1,AV.strip2,zdB,zb8,go_sem_proc,AV.i,AV.e,AV.n,Opd.i,Opd.e,Opd.n,Opd.y,Opd.f,IC.op,ics,IC.m,IC.M,IC.z,IC.f,IC.F,IC.v,IC.V,IC.l,IC.L,IC.b,IC.B,IC.N,IC.G,IC.x,IC.E,IC.d,IC.D,IC.q,IC.Q,IC.S,IC.T,IC.p,IC.w,IC.i,IC.a,IC.o,IC.s,IC.c,IC.C,IC.k,IC.O,IC.j,IC.h,AC.K,AC.R,AC.r,AC.g,AC.Q,AC.u,AC.w,AC.c,AC.B,AC.L,AC.E,List.map_cons,List.map_nil,Nat.reduceSub]) rfl
  ·have W:IntKind.wrap .i64 (A-1)=A-1:=wrap64 (by omega) (by omega);have X:ms.fdiv (2 ^ min 1 IntKind.i64.bits)=ms / 2:=by have:=zqe ms 1 (by omega);simpa using this
   simp(disch:=omega) only[I,W,X,steps,st2,pev,rev,oev,zdI,zfD,zuD,ztu,bound,zdx,mm2,mk,ZO,AV.cells,AV.boxable,AV.one,AV.strip1,AV.strip2,zdB,zb8,go_sem_proc];exact fin (some ⟨nm,A-1,ms / 2⟩) (by simp[YQ,I,h]) _ _ [.agg [.str nm,.int .i64 (A-1),.int .i64 (ms / 2)],.bool true] (by simp(disch:=omega) only[ir301,zo,z8,steps,st2,pev,rev,oev,zdI,zfD,zuD,ztu,bound,zdx,mm2,mk,ZO,AV.cells,AV.boxable,AV.one,AV.strip1,AV.strip2,zdB,zb8,go_sem_proc,AV.i,AV.e,AV.n,Opd.i,Opd.e,Opd.n,Opd.y,Opd.f,IC.op,ics,IC.m,IC.M,IC.z,IC.f,IC.F,IC.v,IC.V,IC.l,IC.L,IC.b,IC.B,IC.N,IC.G,IC.x,IC.E,IC.d,IC.D,IC.q,IC.Q,IC.S,IC.T,IC.p,IC.w,IC.i,IC.a,IC.o,IC.s,IC.c,IC.C,IC.k,IC.O,IC.j,IC.h,AC.K,AC.R,AC.r,AC.g,AC.Q,AC.u,AC.w,AC.c,AC.B,AC.L,AC.E,List.map_cons,List.map_nil,Nat.reduceSub]) rfl
def zoP(b a:Int):Bool:=decide (IntKind.i64.wrap ((BitVec.ofInt IntKind.i64.bits b &&& ~~~BitVec.ofInt IntKind.i64.bits a).toNat:Int)=0)
def za8(a b:TyD):Bool:=zM a&&(zM b&&(decide (a.nm=b.nm)&&(decide (a.lists=b.lists)&&zoP b.musts a.musts)))
def zo4(a b:TyD)(ae:a.nm.length<=Lim)(af:b.nm.length<=Lim):ze Tryz.prog 249 [.agg (cTy a),.agg (cTy b)] (.bool (za8 a b)):=by
 have ac:=zaS a ae;have ad:=zaS b af;obtain⟨X,U,W⟩:=a;obtain⟨ab,aa,bm⟩:=b;simp only[cTy]at ac ad ⊢;refine ze.go ir249.1 ir249.2 (Al4 _) λKP Q A=>?_;simp(disch:=omega) only[ir249,go_sem];refine za ac ?_;cases I:zM ⟨X,U,W⟩with
 | false =>simp(disch:=omega) only[go_sem];exact A _ _ _ _ nofun rfl (by simp[za8,I])
 | true =>
  simp(disch:=omega) only[go_sem];refine za ad ?_;cases Y:zM ⟨ab,aa,bm⟩with
  | false =>simp(disch:=omega) only[go_sem];exact A _ _ _ _ nofun rfl (by simp[za8,I,Y])
  | true =>
   by_cases J:X=ab
   case neg =>simp(disch:=omega) only[J,go_sem];exact A _ _ _ _ nofun rfl (by simp[za8,I,Y,J])
   by_cases Z:U=aa
   case neg =>simp(disch:=omega) only[J,Z,go_sem];exact A _ _ _ _ nofun rfl (by simp[za8,I,Y,J,Z])
   subst J;subst Z;have e:za8 ⟨X,U,W⟩ ⟨X,U,bm⟩=zoP bm W:=by simp[za8,I,Y]
   rw[e]at A;simp(disch:=omega) only[go_sem];exact A _ _ _ [.bool (zoP bm W)] nofun rfl rfl
def zaG(t:TyD):TyD:=if zM t=true then ⟨t.nm,t.lists,IntKind.i64.wrap ((BitVec.ofInt IntKind.i64.bits t.musts &&& ~~~BitVec.ofInt IntKind.i64.bits 1).toNat:Int)⟩else t
def zwT(t:TyD)(X:t.nm.length<=Lim):ze Tryz.prog 250 [.agg (cTy t)] (.agg (cTy (zaG t))):=by
 have hr:=zaS t X;obtain⟨nm,I,ms⟩:=t;simp only[cTy]at hr ⊢;refine ze.go ir250.1 ir250.2 (Al4 _) λKP Q U=>?_;simp(disch:=omega) only[ir250,steps,st2,pev,rev,oev,zdI,zfD,zuD,ztu,bound,zdx,mm2,mk,ZO,AV.cells,AV.boxable,AV.one,AV.strip1,AV.strip2,zdB,zb8,go_sem_proc,AV.i,AV.e,AV.n,Opd.i,Opd.e,Opd.n,Opd.y,Opd.f,IC.op,ics,IC.m,IC.M,IC.z,IC.f,IC.F,IC.v,IC.V,IC.l,IC.L,IC.b,IC.B,IC.N,IC.G,IC.x,IC.E,IC.d,IC.D,IC.q,IC.Q,IC.S,IC.T,IC.p,IC.w,IC.i,IC.a,IC.o,IC.s,IC.c,IC.C,IC.k,IC.O,IC.j,IC.h,AC.K,AC.R,AC.r,AC.g,AC.Q,AC.u,AC.w,AC.c,AC.B,AC.L,AC.E,List.map_cons,List.map_nil,Nat.reduceSub];refine zc λY aa=>?_;simp(disch:=omega) only[steps,st2,pev,rev,oev,zdI,zfD,zuD,ztu,bound,zdx,mm2,mk,ZO,AV.cells,AV.boxable,AV.one,AV.strip1,AV.strip2,zdB,zb8,go_sem_proc];refine zc λZ W=>?_;have A:=yS W;simp(disch:=omega) only[A,Ne.symm A,steps,st2,pev,rev,oev,zdI,zfD,zuD,ztu,bound,zdx,mm2,mk,ZO,AV.cells,AV.boxable,AV.one,AV.strip1,AV.strip2,zdB,zb8,go_sem_proc];refine za hr ?_;cases J:zM ⟨nm,I,ms⟩with
 | false =>simp(disch:=omega) only[A,Ne.symm A,steps,st2,pev,rev,oev,zdI,zfD,zuD,ztu,bound,zdx,mm2,mk,ZO,AV.cells,AV.boxable,AV.one,AV.strip1,AV.strip2,zdB,zb8,go_sem_proc];exact U _ _ _ [.agg [.str nm,.int .i64 I,.int .i64 ms]] nofun (by simp(disch:=omega) only[ir250,zo,z8,A,Ne.symm A,steps,st2,pev,rev,oev,zdI,zfD,zuD,ztu,bound,zdx,mm2,mk,ZO,AV.cells,AV.boxable,AV.one,AV.strip1,AV.strip2,zdB,zb8,go_sem_proc,AV.i,AV.e,AV.n,Opd.i,Opd.e,Opd.n,Opd.y,Opd.f,IC.op,ics,IC.m,IC.M,IC.z,IC.f,IC.F,IC.v,IC.V,IC.l,IC.L,IC.b,IC.B,IC.N,IC.G,IC.x,IC.E,IC.d,IC.D,IC.q,IC.Q,IC.S,IC.T,IC.p,IC.w,IC.i,IC.a,IC.o,IC.s,IC.c,IC.C,IC.k,IC.O,IC.j,IC.h,AC.K,AC.R,AC.r,AC.g,AC.Q,AC.u,AC.w,AC.c,AC.B,AC.L,AC.E,List.map_cons,List.map_nil,Nat.reduceSub]) (by simp[zaG,J]<;>rfl)
 | true =>simp(disch:=omega) only[A,Ne.symm A,steps,st2,pev,rev,oev,zdI,zfD,zuD,ztu,bound,zdx,mm2,mk,ZO,AV.cells,AV.boxable,AV.one,AV.strip1,AV.strip2,zdB,zb8,go_sem_proc];exact U _ _ _ [.agg [.str nm,.int .i64 I,.int .i64 (IntKind.i64.wrap ((BitVec.ofInt IntKind.i64.bits ms &&& ~~~BitVec.ofInt IntKind.i64.bits 1).toNat:Int))]] nofun (by simp(disch:=omega) only[ir250,zo,z8,A,Ne.symm A,steps,st2,pev,rev,oev,zdI,zfD,zuD,ztu,bound,zdx,mm2,mk,ZO,AV.cells,AV.boxable,AV.one,AV.strip1,AV.strip2,zdB,zb8,go_sem_proc,AV.i,AV.e,AV.n,Opd.i,Opd.e,Opd.n,Opd.y,Opd.f,IC.op,ics,IC.m,IC.M,IC.z,IC.f,IC.F,IC.v,IC.V,IC.l,IC.L,IC.b,IC.B,IC.N,IC.G,IC.x,IC.E,IC.d,IC.D,IC.q,IC.Q,IC.S,IC.T,IC.p,IC.w,IC.i,IC.a,IC.o,IC.s,IC.c,IC.C,IC.k,IC.O,IC.j,IC.h,AC.K,AC.R,AC.r,AC.g,AC.Q,AC.u,AC.w,AC.c,AC.B,AC.L,AC.E,List.map_cons,List.map_nil,Nat.reduceSub]) (by simp[zaG,J]<;>rfl)
def nmW(n:List UInt8)(p:VarD):Bool:=decide (p.nm=n)
def zW:VarD:=⟨[],⟨[],0,0⟩,false,zV⟩
def ya(l:List VarD)(n:List UInt8):Option VarD:=l.find? (nmW n)
def zaP(x:VarD):(cW x).length=10:=by obtain⟨nm,t,h,d⟩:=x;cases d;rfl
def z7(nm:List UInt8)(I:List UInt8)(tl A:Int)(h:Bool)(k n:Int)(s:List UInt8)(l:List Val)(m:List Mem):cW ⟨nm,⟨I,tl,A⟩,h,.mk k n s l m⟩=[.str nm,.str I,.int .i64 tl,.int .i64 A,.bool h,.int .i64 k,.int .i64 n,.str s,.sl .no 5 (cVs l),.sl .no 6 (cMs m)]:=rfl
def zuG(p:VarD)(n:List UInt8):ze Tryz.prog 239 [.agg (cW p),.view [.str n]] (.bool (nmW n p)):=by obtain⟨nm,⟨a,b,c⟩,h,⟨k,q,s,l,m⟩⟩:=p;refine ze.go ir239.1 ir239.2 (Al4 _) λKP Q A=>?_;simp(disch:=omega) only[ir239,z7,go_sem];exact A _ _ _ _ nofun rfl (by simp[nmW])
def zf4(l:List VarD)(n:List UInt8)(U:l.length<=Lim):ze Tryz.prog 149 [.sl .no 10 (cWs l),.str n] (.tup [.agg (cW ((ya l n).getD zW)),.bool (ya l n).isSome]):=by
 refine ze.go ir149.1 ir149.2 (Al4 _) λKP Q ab=>?_;have ac:=U;simp only[Lim]at ac;have ad:=zyE cW zaP l 239 [.view [.str n]] (nmW n) U (by kernel_rfl) λx _=>zuG x n;have fin:∀o,ya l n=o->∀ρ H vs,zo ρ H ir149.1.res=some vs->(zP vs).strip=.tup [.agg (cW (o.getD zW)),.bool o.isSome]->Q .ret ρ H:=λo e ρ H vs A I=>ab _ ρ H vs nofun A (by rw[I,e]);simp(disch:=omega) only[ir149,go_sem];refine zc λai aj=>?_;simp(disch:=omega) only[go_sem];refine za ad ?_;rcases zax (nmW n) l 0 with ⟨a,x,r,A,I,W,X⟩|⟨A,I⟩
 ·rw[X,Int.zero_add];have J:=Ya A;have Z:=Zk l;have Y:(a.length:Int)<l.length:=by rw[A,Al5,Al2];omega
  have aa:¬ ((a.length:Int)<0):=by omega
  have e:ya l n=some x:=W;obtain⟨nm,⟨af,ag,ah⟩,h,⟨k,q,s,ae,m⟩⟩:=x;rw[z7]at J;simp(disch:=omega) only[J,Z,Y,aa,go_sem];exact fin _ e _ _ [.agg (cW ⟨nm,⟨af,ag,ah⟩,h,.mk k q s ae m⟩),.bool true] (by simp(disch:=omega) only[ir149,zo,z8,z7,go_sem]) rfl
 ·rw[I];have e:ya l n=none:=A;simp(disch:=omega) only[go_sem];exact fin _ e _ _ [.agg [.str [],.str [],.int .i64 0,.int .i64 0,.bool false,.int .i64 0,.int .i64 0,.str [],.sl .nil 5 [],.sl .nil 6 []],.bool false] (by simp(disch:=omega) only[ir149,zo,z8,go_sem]) rfl
def zi0(p:VarD):Bool:=isM p.t&&!p.has
def zxM(p:VarD)(J:p.t.nm.length<=Lim):ze Tryz.prog 152 [.agg (cW p)] (.bool (zi0 p)):=by
 have hi:=isC p.t J;obtain⟨nm,⟨a,b,c⟩,h,⟨k,q,s,l,m⟩⟩:=p;simp only[cTy]at hi;refine ze.go ir152.1 ir152.2 (Al4 _) λKP Q I=>?_;simp(disch:=omega) only[ir152,z7,go_sem];refine za hi ?_;cases A:isM ⟨a,b,c⟩with
 | false =>simp(disch:=omega) only[go_sem];exact I _ _ _ _ nofun rfl (by simp[zi0,A])
 | true =>simp(disch:=omega) only[go_sem];exact I _ _ _ _ nofun rfl (by simp[zi0,A])
open Classical in
noncomputable def zao(s:SchD)(t:TyD)(v:Val)(w:Bool):Bool:=if h:∃r:Bool,ze Tryz.prog 247 [.agg (zm s),.agg (cTy t),.agg (cV v),.bool w] (.bool r)then Classical.choose h else false
def zcX{s:SchD}{t:TyD}{v:Val}{w:Bool}(h:∃r:Bool,ze Tryz.prog 247 [.agg (zm s),.agg (cTy t),.agg (cV v),.bool w] (.bool r)):ze Tryz.prog 247 [.agg (zm s),.agg (cTy t),.agg (cV v),.bool w] (.bool (zao s t v w)):=by unfold zao;rw[dif_pos h];exact Classical.choose_spec h
def zkA(n:List UInt8):Mem->Bool| .mk x _=>decide (x=n)
noncomputable def zpa(s:SchD)(ps:List VarD):List Mem->List Mem->Bool
 | _,[]=>true
 | seen,.mk n v::r=>(match ya ps n with|none=>false|some p=>zao s p.t v false)&&(!seen.any (zkA n)&&zpa s ps (seen++[.mk n v]) r)
def zfd(ps:List VarD)(m:List Mem):Bool:=ps.all λp=>(zcA p.nm m).2||!zi0 p
noncomputable def zfc(s:SchD)(ps:List VarD):Val->Bool| .mk k _ _ _ m=>decide (k=7)&&(zpa s ps [] m&&zfd ps m)
def zvp(x:Mem)(n:List UInt8)(b:Nat)(rest:List AV)(H:zb)(I:H b=some (.cells (.str n::rest))):zd Tryz.prog 344 [.agg (cM x),.ptr b 0] H (At (.bool (zkA n x)) H):=by obtain⟨J,⟨k,q,s,l,m⟩⟩:=x;refine zd.go ir344.1 ir344.2 (Al4 _) λKP Q A=>?_;simp(disch:=omega) only[ir344,zu,yj,I,go_sem];exact A _ _ _ _ _ nofun rfl (Low.refl _) ⟨by simp[zkA],rfl⟩
def zyA(s:SchD)(ps:List VarD)(v:Val)(a7:bV v<=Lim)(aw:ps.length<=Lim)(ax:∀p∈ps,p.t.nm.length<=Lim)(ab:∀k q st l m,v=.mk k q st l m->∀n x,Mem.mk n x∈m->∀t:TyD,t.nm.length<=Lim->ze Tryz.prog 247 [.agg (zm s),.agg (cTy t),.agg (cV x),.bool false] (.bool (zao s t x false))):
  ze Tryz.prog 326 [.agg (zm s),.sl .no 10 (cWs ps),.agg (cV v)] (.bool (zfc s ps v)):=by
 obtain⟨k,q,st,l,m⟩:=v;replace ab:=ab k q st l m rfl;have bq:1+st.length+bVs l+bMs m<=1099511627776:=a7;have bu:=Zg m;have X:=yU m;have ag:=Zk ps;have be:=aw;simp only[Lim]at be;obtain⟨az,a0,sm⟩:=s;generalize a6:(⟨az,a0,sm⟩:SchD)=s at *
 have a9:zm s=[.sl .no 6 (cEs az),.str a0,.str sm]:=by rw[<-a6];rfl
 simp only[a9]at ab ⊢;refine ze.go ir326.1 ir326.2 (Al4 _) λKP Q a5=>?_;have fin:∀r,zfc s ps (.mk k q st l m)=r->∀ρ H,zo ρ H ir326.1.res=some [.bool r]->Q .ret ρ H:=λr e ρ H X=>a5 _ ρ H _ nofun X (by rw[e];rfl);by_cases ak:k=7
 case neg =>
  have e:zfc s ps (.mk k q st l m)=false:=by simp[zfc,ak]
  simp(disch:=omega) only[ir326,yj,ak,go_sem];exact fin _ e _ _ rfl
 subst ak;simp(disch:=omega) only[ir326,yj,X,go_sem];refine zf m 21 (λ_:Unit=>[]) (λdone rest _ H=>zpa s ps done rest=zpa s ps [] m) () (by simp(disch:=omega) only[go_sem]) rfl ?_ ?_
 ·rintro _ H af A W;simp only[zpa]at A;simp(disch:=omega) only[X,W,ag,go_sem];refine zf ps 55 (λ_:Unit=>[]) (λdone rest _ H=>zfd rest m=zfd ps m) () (by simp(disch:=omega) only[go_sem]) rfl ?_ ?_
  ·rintro _ H af I W;have a3:zfd ps m=true:=by rw[<-I];rfl
   have e:zfc s ps (.mk 7 q st l m)=true:=by simp[zfc,<-A,a3]
   simp(disch:=omega) only[ag,W,go_sem];exact fin _ e _ _ rfl
  ·rintro done x rest _ H af U W _ I Z;have Y:=Ya U;have ay:=zxM x (ax x (by rw[U];simp));have aq:=zuX x.nm m (by simp only[Lim];omega);have aj:zfd (x::rest) m=(((zcA x.nm m).2||!zi0 x)&&zfd rest m):=by simp[zfd]
   rw[aj]at I;obtain⟨nm,⟨ac,ad,ae⟩,bc,⟨al,ao,xs,am,an⟩⟩:=x;rw[z7]at Y ay;simp only at aq I;simp(disch:=omega) only[ag,W,Y,go_sem];refine zc λbh br=>?_;simp(disch:=omega) only[go_sem];refine za aq ?_;generalize zcA nm m=g at *
   obtain⟨⟨bk,bo,bp,bl,bn⟩,a2⟩:=g;simp(disch:=omega) only[yj,go_sem];refine zc λbj a8=>?_;have J:=yS a8;cases a2 with
   | true =>simp only[Bool.true_or,Bool.true_and]at I;simp(disch:=omega) only[J,Ne.symm J,go_sem];exact goJ (Z () _ I) (by simp(disch:=omega) only[wrap64,go_sem])
   | false =>
    simp only[Bool.false_or]at I;simp(disch:=omega) only[J,Ne.symm J,go_sem];refine za ay ?_;cases hr:zi0 ⟨nm,⟨ac,ad,ae⟩,bc,.mk al ao xs am an⟩with
    | true =>
     rw[hr]at I;have e:zfc s ps (.mk 7 q st l m)=false:=by simp[zfc,<-I]
     simp(disch:=omega) only[go_sem];exact fin _ e _ _ rfl
    | false =>rw[hr]at I;simp only[Bool.not_false,Bool.true_and]at I;simp(disch:=omega) only[go_sem];exact goJ (Z () _ I) (by simp(disch:=omega) only[wrap64,go_sem])
 ·rintro done x rest _ H af U W _ A Z;have Y:=Zz U;obtain⟨n,x⟩:=x;have av:=ab n x (by rw[U];simp);have a4:=zf4 ps n aw;have ba:done.length<=Lim:=by
   have:m.length=done.length+(rest.length+1):=by rw[U];simp
   simp only[Lim];omega
  have bg:(cMs m).take done.length=done.map cM:=by rw[zaE,U];simp
  have aj:zpa s ps done (.mk n x::rest)=((match ya ps n with|none=>false|some p=>zao s p.t x false)&&(!done.any (zkA n)&&zpa s ps (done++[.mk n x]) rest)):=rfl;rw[aj]at A;obtain⟨al,ao,xs,am,an⟩:=x;rw[zu,yj]at Y;rw[yj]at av;simp(disch:=omega) only[X,W,Y,go_sem];refine zc λap bt=>?_;simp(disch:=omega) only[go_sem];refine za a4 ?_;cases ai:ya ps n with
  | none =>
   rw[ai]at A;have e:zfc s ps (.mk 7 q st l m)=false:=by simp[zfc,<-A]
   simp(disch:=omega) only[Option.getD,Option.isSome,zW,zV,z7,go_sem];refine zc λa1 ah=>?_;have J:=yS ah;simp(disch:=omega) only[J,Ne.symm J,go_sem];exact fin _ e _ _ rfl
  | some p =>
   rw[ai]at A;have bf:=ax p (List.mem_of_find?_eq_some ai);obtain⟨bx,⟨ac,ad,ae⟩,bv,⟨pk,bz,b1,pl,bw⟩⟩:=p;have ar:=av ⟨ac,ad,ae⟩ bf;simp only at A;simp only[cTy]at ar;simp(disch:=omega) only[Option.getD,Option.isSome,z7,go_sem];refine zc λa1 ah=>?_;have J:=yS ah;simp(disch:=omega) only[J,Ne.symm J,go_sem];refine za ar ?_;cases au:zao s ⟨ac,ad,ae⟩ (.mk al ao xs am an) false with
   | false =>
    rw[au]at A;have e:zfc s ps (.mk 7 q st l m)=false:=by simp[zfc,<-A]
    simp(disch:=omega) only[go_sem];exact fin _ e _ _ rfl
   | true =>
    rw[au]at A;simp only[Bool.true_and]at A;have bd:(done.length:Int)<=m.length:=by omega
    simp(disch:=omega) only[X,bd,bg,go_sem];refine zQ (zuK cM zn done 344 [.ptr ap 0] (zkA n) _ ba (by kernel_rfl) λy _=>zvp y n ap _ _ (by rw[upd_ne (Ne.symm J),upd_same])) ?_;rintro _ _ ⟨_,rfl,rfl,rfl⟩;cases aa:done.any (zkA n)with
    | true =>
     rw[aa]at A;have e:zfc s ps (.mk 7 q st l m)=false:=by simp[zfc,<-A]
     simp(disch:=omega) only[ZT,aa,go_sem];exact fin _ e _ _ rfl
    | false =>rw[aa]at A;simp(disch:=omega) only[ZT,aa,go_sem];exact goJ (Z () _ (by simpa using A)) (by simp(disch:=omega) only[wrap64,go_sem])
noncomputable def zjY(s:SchD)(name:List UInt8)(v:Val):Bool:=match yB s name,v with
 | none,_=>false
 | some d,.mk k n st l m=>if d.k=4 then decide (k=5)&&yo st d.parts else if d.k=5 then zfc s d.ps (.mk k n st l m)else if d.k≠0 then false else if name=[73,110,116]then decide (k=2)&&(decide (-2147483648<=n)&&decide (n<=2147483647))else if name=[83,116,114,105,110,103]then decide (k=4)else if name=[66,111,111,108,101,97,110]then decide (k=1)else if name=[73,68]then decide (k=4)||decide (k=2)else false
def YL{p:VarD}:∀ {l:List VarD},p∈l->bW p<=bWs l
 | x::l,h=>by
  rcases List.mem_cons.1 h with rfl|h
  ·simp only[bWs,List.map_cons,List.sum_cons];omega
  ·have:=YL h;simp only[bWs,List.map_cons,List.sum_cons]at this ⊢;omega
def zxY(s:SchD)(name:List UInt8)(v:Val)(al:zJ s<=Lim)(av:bV v<=Lim)(a0:∀k q st l m,v=.mk k q st l m->∀n x,Mem.mk n x∈m->∀t:TyD,t.nm.length<=Lim->ze Tryz.prog 247 [.agg (zm s),.agg (cTy t),.agg (cV x),.bool false] (.bool (zao s t x false))):
  ze Tryz.prog 302 [.agg (zm s),.str name,.agg (cV v)] (.bool (zjY s name v)):=by
 have ak:=λps ad aq=>zyA s ps v av ad aq a0;obtain⟨k,q,st,l,m⟩:=v;have aj:=zgy s name (yc al);have ax:=@YF s name;have a9:zJ s<=1099511627776:=al;obtain⟨ao,ap,sm⟩:=s;generalize au:(⟨ao,ap,sm⟩:SchD)=s at *
 have aw:zm s=[.sl .no 6 (cEs ao),.str ap,.str sm]:=by rw[<-au];rfl
 simp only[aw,yj]at aj ak ⊢;refine ze.go ir302.1 ir302.2 (Al4 _) λKP Q ar=>?_;have fin:∀r,zjY s name (.mk k q st l m)=r->∀ρ H,zo ρ H ir302.1.res=some [.bool r]->Q .ret ρ H:=λr e ρ H ad=>ar _ ρ H _ nofun ad (by rw[e];rfl);have A:zjY s name (.mk k q st l m)=match yB s name with
  | none=>false
  | some d=>if d.k=4 then decide (k=5)&&yo st d.parts else if d.k=5 then zfc s d.ps (.mk k q st l m)else if d.k≠0 then false else if name=[73,110,116]then decide (k=2)&&(decide (-2147483648<=q)&&decide (q<=2147483647))else if name=[83,116,114,105,110,103]then decide (k=4)else if name=[66,111,111,108,101,97,110]then decide (k=1)else if name=[73,68]then decide (k=4)||decide (k=2)else false:=by
  unfold zjY;cases yB s name<;>rfl
 simp(disch:=omega) only[ir302,go_sem];refine za aj ?_;cases ae:yB s name with
 | none =>rw[ae]at A;simp(disch:=omega) only[Option.getD,Option.isSome,zE,yf,go_sem];refine zc λX Y=>?_;simp(disch:=omega) only[go_sem];exact fin _ A _ _ rfl
 | some d =>
  rw[ae]at A;obtain⟨_,_,ay,az⟩:=ax ae;obtain⟨ac,a4,a6,a5,ps,an⟩:=d;simp only at A ay az;have a8:=ZK ps;have a7:=yJ an;by_cases ag:ac=4
  ·subst ag;rw[if_pos rfl]at A;simp(disch:=omega) only[Option.getD,Option.isSome,yf,go_sem];refine zc λX Y=>?_;by_cases J:k=5
   ·subst J;simp(disch:=omega) only[go_sem];refine za (yD ps st (by simp only[Lim];omega)) ?_;simp(disch:=omega) only[go_sem];exact fin _ (by rw[A];simp) _ _ rfl
   ·simp(disch:=omega) only[J,go_sem];exact fin false (by rw[A];simp[J]) _ _ rfl
  rw[if_neg ag]at A;by_cases J:ac=5
  ·subst J;rw[if_pos rfl]at A;simp(disch:=omega) only[Option.getD,Option.isSome,yf,go_sem];refine zc λX Y=>?_;simp(disch:=omega) only[go_sem];refine za (ak an (by simp only[Lim];omega) λp a1=>by have:=YL a1;simp only[bW]at this;simp only[Lim];omega) ?_;simp(disch:=omega) only[go_sem];exact fin _ A _ _ rfl
  rw[if_neg J]at A;by_cases af:ac=0
  case neg =>rw[if_pos af]at A;simp(disch:=omega) only[Option.getD,Option.isSome,yf,go_sem];refine zc λX Y=>?_;simp(disch:=omega) only[ag,J,af,go_sem];exact fin _ A _ _ rfl
  subst af;rw[if_neg (by simp)]at A;simp(disch:=omega) only[Option.getD,Option.isSome,yf,go_sem];refine zc λX Y=>?_;by_cases I:name=[73,110,116]
  ·rw[if_pos I]at A;have ah:=eq_true I;by_cases ai:k=2
   case neg =>simp(disch:=omega) only[ah,ai,go_sem];exact fin false (by rw[A];simp[ai]) _ _ rfl
   subst ai;by_cases aa:-2147483648<=q
   case neg =>simp(disch:=omega) only[ah,aa,go_sem];exact fin false (by rw[A];simp[aa]) _ _ rfl
   simp(disch:=omega) only[ah,aa,go_sem];exact fin (decide (q<=2147483647)) (by rw[A];simp[aa]) _ _ rfl
  rw[if_neg I]at A;by_cases U:name=[83,116,114,105,110,103]
  ·rw[if_pos U]at A;have a2:=eq_true U;simp(disch:=omega) only[I,a2,go_sem];exact fin _ A _ _ rfl
  rw[if_neg U]at A;by_cases W:name=[66,111,111,108,101,97,110]
  ·rw[if_pos W]at A;have a3:=eq_true W;simp(disch:=omega) only[I,U,a3,go_sem];exact fin _ A _ _ rfl
  rw[if_neg W]at A;by_cases Z:name=[73,68]
  ·rw[if_pos Z]at A;have am:=eq_true Z;by_cases ab:k=4
   ·simp(disch:=omega) only[I,U,W,am,ab,go_sem];exact fin true (by rw[A];simp[ab]) _ _ rfl
   ·simp(disch:=omega) only[I,U,W,am,ab,go_sem];exact fin (decide (k=2)) (by rw[A];simp[ab]) _ _ rfl
  rw[if_neg Z]at A;simp(disch:=omega) only[I,U,W,Z,go_sem];exact fin _ A _ _ rfl
noncomputable def zsA(s:SchD)(t:TyD)(v:Val)(w:Bool):Bool:=match v with
 | .mk k n st l m=>if k=8 then zM t else if k=0 then zM t&&!isM t else if zM t=false then false else match YQ t with
  | none=>zjY s t.nm (.mk k n st l m)
  | some it=>if k≠6 then !w&&zao s it (.mk k n st l m) false else l.all λx=>zao s it x true
def zgG{t it:TyD}(h:YQ t=some it):it.nm=t.nm/\0<=it.lists/\it.lists.toNat+1=t.lists.toNat:=by
 unfold YQ at h;split at h
 ·rename_i A;have:=zdN A.1;have I:=A.2;cases h;refine⟨rfl,?_,?_⟩
  ·show 0<=t.lists-1;omega
  ·show (t.lists-1).toNat+1=t.lists.toNat;omega
 ·cases h
def zlo{v:Val}:∀ {l:List Val},v∈l->bV v<=bVs l
 | x::l,h=>by
  rcases List.mem_cons.1 h with rfl|h
  ·simp only[bVs];omega
  ·have:=zlo h;simp only[bVs];omega
def zz0(s:SchD)(a8:zJ s<=Lim):∀v:Val,∀(n:Nat) (t:TyD) (w:Bool),t.lists.toNat<=n->bV v<=Lim->t.nm.length<=Lim->ze Tryz.prog 247 [.agg (zm s),.agg (cTy t),.agg (cV v),.bool w] (.bool (zsA s t v w)):=by
 refine Val.ind λk q st l m bc bd=>?_;have bl:=zbl l;have U:=Y6 l;intro n;induction n using Nat.strongRecOn with
 | _ n ba =>
 intro t w bn al Z;have bk:1+st.length+bVs l+bMs m<=1099511627776:=al;have hr:=zaS t Z;have hi:=isC t Z;have hit:=zwZ t Z;have ar:=zxY s t.nm (.mk k q st l m) a8 al λbo br bt bp bq e be x I t' a9=>by
  cases e;have an:bV x<=Lim:=by have:=zgp I;simp only[Lim];omega
  exact zcX ⟨_,bd be x I t'.lists.toNat t' false (Al4 _) an a9⟩
 have Y:∀it,YQ t=some it->ze Tryz.prog 247 [.agg (zm s),.agg (cTy it),.agg (cV (.mk k q st l m)),.bool false] (.bool (zao s it (.mk k q st l m) false)):=λit h=>by obtain⟨ak,a1,a2⟩:=zgG h;exact zcX ⟨_,ba it.lists.toNat (by omega) it false (Al4 _) al (by rw[ak];exact Z)⟩
 have W:∀it,YQ t=some it->∀x∈l,ze Tryz.prog 247 [.agg (zm s),.agg (cTy it),.agg (cV x),.bool true] (.bool (zao s it x true)):=λit h x I=>by
  obtain⟨ak,a1,a2⟩:=zgG h;have an:bV x<=Lim:=by have:=zlo I;simp only[Lim];omega
  exact zcX ⟨_,bc x I it.lists.toNat it true (Al4 _) an (by rw[ak];exact Z)⟩
 have A:zsA s t (.mk k q st l m) w=if k=8 then zM t else if k=0 then zM t&&!isM t else if zM t=false then false else match YQ t with
  | none=>zjY s t.nm (.mk k q st l m)
  | some it=>if k≠6 then !w&&zao s it (.mk k q st l m) false else l.all λx=>zao s it x true:=rfl
 generalize zsA s t (.mk k q st l m) w=F at *
 obtain⟨ax,ay,sm⟩:=s;generalize a5:(⟨ax,ay,sm⟩:SchD)=s at *
 have a7:zm s=[.sl .no 6 (cEs ax),.str ay,.str sm]:=by rw[<-a5];rfl
 obtain⟨ai,tl,ah⟩:=t;simp only[a7,yj]at ar Y W ⊢;simp only[cTy]at hr hi hit ⊢;refine ze.go ir247.1 ir247.2 (Al4 _) λKP Q a4=>?_;have fin:∀r,F=r->∀ρ H,zo ρ H ir247.1.res=some [.bool r]->Q .ret ρ H:=λr e ρ H U=>a4 _ ρ H _ nofun U (by rw[e];rfl);by_cases ap:k=8
 ·subst ap;rw[if_pos rfl]at A;simp(disch:=omega) only[ir247,go_sem];refine za hr ?_;simp(disch:=omega) only[go_sem];exact fin _ A _ _ rfl
 rw[if_neg ap]at A;by_cases ao:k=0
 ·subst ao;rw[if_pos rfl]at A;simp(disch:=omega) only[ir247,go_sem];refine za hr ?_;cases X:zM ⟨ai,tl,ah⟩with
  | false =>simp(disch:=omega) only[go_sem];exact fin false (by rw[A,X];rfl) _ _ rfl
  | true =>simp(disch:=omega) only[go_sem];refine za hi ?_;simp(disch:=omega) only[go_sem];exact fin (!isM ⟨ai,tl,ah⟩) (by rw[A,X];rfl) _ _ rfl
 rw[if_neg ao]at A;simp(disch:=omega) only[ir247,ap,ao,go_sem];refine za hr ?_;cases X:zM ⟨ai,tl,ah⟩with
 | false =>rw[if_pos X]at A;simp(disch:=omega) only[go_sem];exact fin false A _ _ rfl
 | true =>
  rw[if_neg (by rw[X];simp)]at A;simp(disch:=omega) only[go_sem];refine za hit ?_;cases ab:YQ ⟨ai,tl,ah⟩with
  | none =>rw[ab]at A;simp(disch:=omega) only[Option.getD,Option.isSome,zTy,go_sem];refine zc λaj a6=>?_;simp(disch:=omega) only[go_sem];refine za ar ?_;simp(disch:=omega) only[go_sem];exact fin _ A _ _ rfl
  | some it =>
   rw[ab]at A;replace Y:=Y it ab;replace W:=W it ab;obtain⟨af,ad,ae⟩:=it;simp only at Y W A;simp(disch:=omega) only[Option.getD,Option.isSome,go_sem];refine zc λaj a6=>?_;by_cases ag:k=6
   case neg =>
    rw[if_pos ag]at A;cases w with
    | true =>simp(disch:=omega) only[ag,go_sem];exact fin false A _ _ rfl
    | false =>simp(disch:=omega) only[ag,go_sem];refine za Y ?_;simp(disch:=omega) only[go_sem];exact fin _ (by rw[A];rfl) _ _ rfl
   subst ag;rw[if_neg (by simp)]at A;simp(disch:=omega) only[U,go_sem];refine zf l 59 (λ_:Unit=>[]) (λdone rest _ H=>H aj=some (.cells [.str af,.int .i64 ad,.int .i64 ae])/\(rest.all λx=>zao s ⟨af,ad,ae⟩ x true)=l.all λx=>zao s ⟨af,ad,ae⟩ x true) () (by simp(disch:=omega) only[go_sem]) ⟨upd_same ..,rfl⟩ ?_ ?_
   ·rintro _ H az ⟨aa,J⟩ am;simp(disch:=omega) only[U,am,go_sem];exact fin true (by rw[A,<-J];rfl) _ _ rfl
   ·rintro done x rest _ H az au am _ ⟨aa,J⟩ a3;have aw:=zbf au;have I:=W x (by rw[au];simp);rw[List.all_cons]at J;obtain⟨bf,bj,xs,bg,bh⟩:=x;rw[yj]at aw I;simp(disch:=omega) only[U,am,aw,go_sem];refine zc λa0 aq=>?_;have ac:aj≠a0:=λe=>by subst e;rw[aa]at aq;cases aq
    simp(disch:=omega) only[aa,ac,Ne.symm ac,go_sem];refine za I ?_;cases av:zao s ⟨af,ad,ae⟩ (.mk bf bj xs bg bh) true with
    | false =>rw[av]at J;simp(disch:=omega) only[go_sem];exact fin false (by rw[A,<-J];rfl) _ _ rfl
    | true =>rw[av]at J;simp(disch:=omega) only[go_sem];exact goJ (a3 () _ ⟨by simp(disch:=omega) only[aa,ac,Ne.symm ac,go_sem],by simpa using J⟩) (by simp(disch:=omega) only[wrap64,go_sem])
def zAr(s:SchD)(t:TyD)(v:Val)(w:Bool)(I:zJ s<=Lim)(A:bV v<=Lim)(J:t.nm.length<=Lim):ze Tryz.prog 247 [.agg (zm s),.agg (cTy t),.agg (cV v),.bool w] (.bool (zao s t v w)) :=zcX ⟨_,zz0 s I v _ t w (Al4 _) A J⟩
noncomputable def ZN(s:SchD)(t:TyD)(v:Val):Bool:=zp9 v&&zao s t v false
def zhj(s:SchD)(t:TyD)(v:Val)(W:zJ s<=Lim)(I:bV v<=Lim)(X:t.nm.length<=Lim):ze Tryz.prog 161 [.agg (zm s),.agg (cTy t),.agg (cV v)] (.bool (ZN s t v)):=by
 have J:=zAr s t v false W I X;have U:=zxm v I;obtain⟨Y,Z,sm⟩:=s;obtain⟨ab,tl,aa⟩:=t;obtain⟨k,q,st,l,m⟩:=v;simp only[zm,cTy,yj]at J U ⊢;refine ze.go ir161.1 ir161.2 (Al4 _) λKP Q A=>?_;simp(disch:=omega) only[ir161,go_sem];refine za U ?_;cases h:zp9 (.mk k q st l m)with
 | false =>simp(disch:=omega) only[go_sem];exact A _ _ _ _ nofun rfl (by simp[ZN,h])
 | true =>simp(disch:=omega) only[go_sem];refine za J ?_;simp(disch:=omega) only[go_sem];exact A _ _ _ _ nofun rfl (by simp[ZN,h])
def zvB(d:DefD)(f:FuncId)(caps:List AV)(r:Bool)(H:zb)(I:Program.callable Tryz.prog f=true)(h:zd Tryz.prog f (.agg (cE d)::caps) H (At (.bool r) H)):
  zd Tryz.prog 288 [.agg (cE d),.view [.clo f [] caps]] H (At (.bool (!r)) H):=by
 obtain⟨k,nm,U,J,ps,W⟩:=d;rw[yf]at h ⊢;refine zd.go ir288.1 ir288.2 (Al4 _) λKP Q A=>?_;simp(disch:=omega) only[ir288,go_sem];refine⟨I,zQ h ?_⟩;rintro _ _ ⟨_,rfl,rfl,rfl⟩;simp(disch:=omega) only[ZT,go_sem];exact A _ _ _ _ _ nofun rfl (Low.refl _) ⟨rfl,rfl⟩
def zfC(s:SchD)(f:FuncId)(caps:List AV)(p:DefD->Bool)(H:zb)(X:s.defs.length<=Lim)(W:Program.callable Tryz.prog f=true)(J:∀d∈s.defs,zd Tryz.prog f (.agg (cE d)::caps) H (At (.bool (p d)) H)):
  zd Tryz.prog 202 [.agg (zm s),.clo f [] caps] H (At (.bool (s.defs.all p)) H):=by
 have A:=zwc cE (λ_=>rfl) s.defs 288 [.view [.clo f [] caps]] (λd=>!p d) H X (by kernel_rfl) λd U=>zvB d f caps (p d) H W (J d U);have e:(!s.defs.any λd=>!p d)=s.defs.all p:=by simp[List.all_eq_not_any_not]
 obtain⟨Y,Z,sm⟩:=s;simp only at A e;refine zd.go ir202.1 ir202.2 (Al4 _) λKP Q I=>?_;simp(disch:=omega) only[ir202,zm,go_sem];refine zQ A ?_;rintro _ _ ⟨_,rfl,rfl,rfl⟩;simp(disch:=omega) only[ZT,go_sem];exact I _ _ _ _ _ nofun rfl (Low.refl _) ⟨by rw[<-e];rfl,rfl⟩
def zhE:List (List UInt8)->List (List UInt8)->Bool
 | _,[]=>true
 | a,x::r=>!yo x a&&zhE (a++[x]) r
def za5(l:List (List UInt8)):Bool:=zhE [] l
def zql(l:List (List UInt8))(ac:l.length<=Lim):ze Tryz.prog 197 [.sl .no 1 (cT l)] (.bool (za5 l)):=by
 refine ze.go ir197.1 ir197.2 (Al4 _) λKP Q U=>?_;have I:=zG l;simp only[Lim]at ac;simp(disch:=omega) only[ir197,I,go_sem];refine zf l 7 (λ_:Unit=>[]) (λdone rest _ H=>zhE done rest=za5 l) () (by simp(disch:=omega) only[go_sem]) rfl ?_ ?_
 ·rintro _ H Y A J;simp(disch:=omega) only[I,J,go_sem];exact U _ _ _ _ nofun rfl (by simp[<-A,zhE])
 ·rintro done x rest _ H Y W J _ A Z;have ab:=YP W;have ae:(cT l).take done.length=cT done:=by rw[W];simp[cT]
  have ad:(done.length:Int)<=l.length:=by omega
  have aa:done.length<=Lim:=by simp only[Lim];omega
  simp only[zhE]at A;simp(disch:=omega) only[I,J,ab,ae,ad,go_sem];refine za (yD done x aa) ?_;cases X:yo x done with
  | true =>rw[X]at A;simp(disch:=omega) only[go_sem];exact U _ _ _ _ nofun rfl (by simp[<-A])
  | false =>rw[X]at A;simp(disch:=omega) only[go_sem];exact goJ (Z () _ (by simpa using A)) (by simp(disch:=omega) only[wrap64,go_sem])
def zqG(s:List UInt8):ze Tryz.prog 285 [.str s] (.bool (List.isPrefixOf [95,95] s)):=by refine ze.go ir285.1 ir285.2 (Al4 _) λKP Q A=>?_;simp(disch:=omega) only[ir285,go_sem];refine za (zdl s [95,95]) ?_;simp(disch:=omega) only[go_sem];exact A _ _ _ _ nofun rfl (by simp )
def zbB(l:List (List UInt8)):Bool:=l.all λs=>!List.isPrefixOf [95,95] s
def znP(l:List (List UInt8))(I:l.length<=Lim):ze Tryz.prog 198 [.sl .no 1 (cT l)] (.bool (zbB l)):=by
 have J:=zoy (λs:List UInt8=>AV.str s) l 285 [] (λs=>List.isPrefixOf [95,95] s) I (by kernel_rfl) λs _=>zqG s;have e:(!l.any λs=>List.isPrefixOf [95,95] s)=zbB l:=by simp[zbB,List.all_eq_not_any_not]
 refine ze.go ir198.1 ir198.2 (Al4 _) λKP Q A=>?_;simp(disch:=omega) only[ir198,go_sem];refine za J ?_;simp(disch:=omega) only[go_sem];exact A _ _ _ _ nofun rfl (by rw[<-e];rfl)
def zvi{P:Program}{f:FuncId}{args:List AV}{r:AV}(h:ze P f args r)(H:zb):zd P f args H (At r H) :=
 (h.use (K:=λv H'=>v=r/\H'=H) (KP:=λ_ _=>False) ⟨rfl,rfl⟩).mono λe H' A=>by
  cases e with
  | ret v=>exact⟨v,rfl,A.1,A.2⟩
  | pan v=>exact A.elim
def zv5(x:DefD):ze Tryz.prog 195 [.agg (cE x)] (.str x.nm):=by obtain⟨k,nm,J,I,ps,U⟩:=x;refine ze.go ir195.1 ir195.2 (Al4 _) λKP Q A=>?_;simp(disch:=omega) only[ir195,yf,go_sem];exact A _ _ _ _ nofun rfl (by simp )
def zn6(l:List DefD)(ai:l.length<=Lim):ze Tryz.prog 194 [.sl .no 6 (cEs l),.clo 195 [] []] (.sl .no 1 (cT (l.map (·.nm)))):=by
 have U:=zgn l;simp only[Lim]at ai;refine ze.go ir194.1 ir194.2 (Al4 _) λKP Q af=>?_;simp(disch:=omega) only[ir194,U,go_sem];refine zf l 10 (λx:Own×List (List UInt8)=>[(5,.sl x.1 1 (cT x.2))]) (λdone rest x H'=>x.2=done.map (·.nm)/\zA H' x.1 done.length 1) (.nil,[]) (by simp(disch:=omega) only[cT,List.map,go_sem]) ⟨rfl,rfl⟩ ?_ ?_
 ·rintro⟨aa,a⟩ H' ac ⟨I,J⟩ W;simp only at I;subst I;simp(disch:=omega) only[U,W,go_sem];exact af _ _ _ _ nofun rfl (by simp )
 ·rintro done x rest ⟨aa,a⟩ H' ac ah W _ ⟨I,J⟩ ae;have Y:=zgS ah;have X:=zv5 x;simp only at I;subst I;have A:=zG (done.map (·.nm));rw[List.length_map]at A;replace J:zA H' aa done.length 1:=J;obtain⟨k,nm,am,al,ps,an⟩:=x;rw[yf]at Y X
  try simp only at X
  simp(disch:=omega) only[U,W,Y,go_sem];refine zc λak ag=>?_;simp(disch:=omega) only[go_sem];refine⟨by kernel_rfl,za X ?_⟩;simp(disch:=omega) only[go_sem];refine zj (by rw[A];exact J.upd ag) ?_ ?_ λo' ab aj=>?_
  ·simp only[A,Al2,Al3];omega
  ·simp only[A,Al2,Al3,maxLen];omega
  have ad:cT (done.map (·.nm))++[[AV.str nm]]=cT (done.map (·.nm)++[nm]):=by simp[cT]
  have Z:=aj.own;simp only[A,Al2,Al3]at Z;simp(disch:=omega) only[wrap64,ad,go_sem];exact goJ (ae (o',done.map (·.nm)++[nm]) ab ⟨by simp,by simpa using Z⟩) (by simp(disch:=omega) only[go_sem])
def zvg(x:FldD):ze Tryz.prog 205 [.agg (cL x)] (.str x.nm):=by obtain⟨nm,ps,⟨I,J,U⟩,ds⟩:=x;refine ze.go ir205.1 ir205.2 (Al4 _) λKP Q A=>?_;simp(disch:=omega) only[ir205,zaM,go_sem];exact A _ _ _ _ nofun rfl (by simp )
def zos(l:List FldD)(ai:l.length<=Lim):ze Tryz.prog 204 [.sl .no 6 (cLs l),.clo 205 [] []] (.sl .no 1 (cT (l.map (·.nm)))):=by
 have U:=zbd l;simp only[Lim]at ai;refine ze.go ir204.1 ir204.2 (Al4 _) λKP Q af=>?_;simp(disch:=omega) only[ir204,U,go_sem];refine zf l 10 (λx:Own×List (List UInt8)=>[(5,.sl x.1 1 (cT x.2))]) (λdone rest x H'=>x.2=done.map (·.nm)/\zA H' x.1 done.length 1) (.nil,[]) (by simp(disch:=omega) only[cT,List.map,go_sem]) ⟨rfl,rfl⟩ ?_ ?_
 ·rintro⟨aa,a⟩ H' ac ⟨I,J⟩ W;simp only at I;subst I;simp(disch:=omega) only[U,W,go_sem];exact af _ _ _ _ nofun rfl (by simp )
 ·rintro done x rest ⟨aa,a⟩ H' ac ah W _ ⟨I,J⟩ ae;have Y:=ze6 ah;have X:=zvg x;simp only at I;subst I;have A:=zG (done.map (·.nm));rw[List.length_map]at A;replace J:zA H' aa done.length 1:=J;obtain⟨nm,ps,⟨al,am,an⟩,ds⟩:=x;rw[zaM]at Y X
  try simp only at X
  simp(disch:=omega) only[U,W,Y,go_sem];refine zc λak ag=>?_;simp(disch:=omega) only[go_sem];refine⟨by kernel_rfl,za X ?_⟩;simp(disch:=omega) only[go_sem];refine zj (by rw[A];exact J.upd ag) ?_ ?_ λo' ab aj=>?_
  ·simp only[A,Al2,Al3];omega
  ·simp only[A,Al2,Al3,maxLen];omega
  have ad:cT (done.map (·.nm))++[[AV.str nm]]=cT (done.map (·.nm)++[nm]):=by simp[cT]
  have Z:=aj.own;simp only[A,Al2,Al3]at Z;simp(disch:=omega) only[wrap64,ad,go_sem];exact goJ (ae (o',done.map (·.nm)++[nm]) ab ⟨by simp,by simpa using Z⟩) (by simp(disch:=omega) only[go_sem])
def zvd(x:VarD):ze Tryz.prog 207 [.agg (cW x)] (.str x.nm):=by obtain⟨nm,⟨J,U,W⟩,h,⟨k,q,st,I,m⟩⟩:=x;refine ze.go ir207.1 ir207.2 (Al4 _) λKP Q A=>?_;simp(disch:=omega) only[ir207,z7,go_sem];exact A _ _ _ _ nofun rfl (by simp )
def zik(l:List VarD)(ai:l.length<=Lim):ze Tryz.prog 206 [.sl .no 10 (cWs l),.clo 207 [] []] (.sl .no 1 (cT (l.map (·.nm)))):=by
 have U:=Zk l;simp only[Lim]at ai;refine ze.go ir206.1 ir206.2 (Al4 _) λKP Q af=>?_;simp(disch:=omega) only[ir206,U,go_sem];refine zf l 10 (λx:Own×List (List UInt8)=>[(5,.sl x.1 1 (cT x.2))]) (λdone rest x H'=>x.2=done.map (·.nm)/\zA H' x.1 done.length 1) (.nil,[]) (by simp(disch:=omega) only[cT,List.map,go_sem]) ⟨rfl,rfl⟩ ?_ ?_
 ·rintro⟨aa,a⟩ H' ac ⟨I,J⟩ W;simp only at I;subst I;simp(disch:=omega) only[U,W,go_sem];exact af _ _ _ _ nofun rfl (by simp )
 ·rintro done x rest ⟨aa,a⟩ H' ac ah W _ ⟨I,J⟩ ae;have Y:=Ya ah;have X:=zvd x;simp only at I;subst I;have A:=zG (done.map (·.nm));rw[List.length_map]at A;replace J:zA H' aa done.length 1:=J;obtain⟨nm,⟨am,an,ao⟩,h,⟨k,q,st,al,m⟩⟩:=x;rw[z7]at Y X
  try simp only at X
  simp(disch:=omega) only[U,W,Y,go_sem];refine zc λak ag=>?_;simp(disch:=omega) only[go_sem];refine⟨by kernel_rfl,za X ?_⟩;simp(disch:=omega) only[go_sem];refine zj (by rw[A];exact J.upd ag) ?_ ?_ λo' ab aj=>?_
  ·simp only[A,Al2,Al3];omega
  ·simp only[A,Al2,Al3,maxLen];omega
  have ad:cT (done.map (·.nm))++[[AV.str nm]]=cT (done.map (·.nm)++[nm]):=by simp[cT]
  have Z:=aj.own;simp only[A,Al2,Al3]at Z;simp(disch:=omega) only[wrap64,ad,go_sem];exact goJ (ae (o',done.map (·.nm)++[nm]) ab ⟨by simp,by simpa using Z⟩) (by simp(disch:=omega) only[go_sem])
def zqI(s:SchD)(p:VarD)(J:s.defs.length<=Lim):ze Tryz.prog 289 [.agg (cW p),.view (zm s)] (.bool (!zci s p.t.nm)):=by have A:=zut s p.t.nm J;obtain⟨nm,⟨X,Y,Z⟩,h,⟨k,q,st,l,m⟩⟩:=p;obtain⟨U,W,sm⟩:=s;simp only[zm]at A ⊢;refine ze.go ir289.1 ir289.2 (Al4 _) λKP Q I=>?_;simp(disch:=omega) only[ir289,z7,go_sem];refine za A ?_;simp(disch:=omega) only[go_sem];exact I _ _ _ _ nofun rfl (by simp )
def zcR(s:SchD)(l:List VarD):Bool:=l.all λp=>zci s p.t.nm
def not_any{α:Type}(p:α->Bool)(l:List α):(!l.any λx=>!p x)=l.all p:=by simp[List.all_eq_not_any_not]
def zmT(s:SchD)(ps:List VarD)(J:s.defs.length<=Lim)(U:ps.length<=Lim):ze Tryz.prog 211 [.agg (zm s),.sl .no 10 (cWs ps)] (.bool (zcR s ps)):=by have A:=zsG cW zaP ps 289 [.view (zm s)] (λp=>!zci s p.t.nm) U (by kernel_rfl) λp _=>zqI s p J;obtain⟨W,X,sm⟩:=s;simp only[zm]at A ⊢;refine ze.go ir211.1 ir211.2 (Al4 _) λKP Q I=>?_;simp(disch:=omega) only[ir211,go_sem];refine za A ?_;simp(disch:=omega) only[go_sem];exact I _ _ _ _ nofun rfl (by rw[zcR,<-not_any];rfl)
def ztq(s:SchD)(f:FldD):Bool:=(!zaT s f.t.nm&&!Z4 s f.t.nm)||!zcR s f.ps
def zr2(s:SchD)(f:FldD)(b:Nat)(H:zb)(A:H b=some (.cells (zm s)))(X:s.defs.length<=Lim)(Z:f.ps.length<=Lim):zd Tryz.prog 212 [.agg (cL f),.ptr b 0] H (At (.bool (ztq s f)) H):=by
 have J:=zm1 s f.t.nm X;have U:=zie s f.t.nm X;have I:=zmT s f.ps X Z;obtain⟨nm,ps,⟨Y,ae,af⟩,ds⟩:=f;simp only at J U I;unfold ztq;simp only
 generalize zaT s Y=aa at *
 generalize Z4 s Y=ab at *
 generalize zcR s ps=ag at *
 obtain⟨ac,ad,sm⟩:=s;simp only[zm]at J U I A;refine zd.go ir212.1 ir212.2 (Al4 _) λKP Q W=>?_;simp(disch:=omega) only[ir212,zaM,A,go_sem];refine za J ?_;cases aa with
 | true =>simp(disch:=omega) only[A,go_sem];refine za I ?_;simp(disch:=omega) only[go_sem];exact W _ _ _ _ _ nofun rfl (Low.refl _) ⟨by simp ,rfl⟩
 | false =>
  simp(disch:=omega) only[A,go_sem];refine za U ?_;cases ab with
  | true =>simp(disch:=omega) only[A,go_sem];refine za I ?_;simp(disch:=omega) only[go_sem];exact W _ _ _ _ _ nofun rfl (Low.refl _) ⟨by simp ,rfl⟩
  | false =>simp(disch:=omega) only[A,go_sem];exact W _ _ _ _ _ nofun rfl (Low.refl _) ⟨by simp ,rfl⟩
def zuA(s:SchD)(d:DefD):Bool:=zcR s d.ps&&!d.flds.any (ztq s)
def zc1{f:FldD}:∀ {l:List FldD},f∈l->bL f<=bLs l
 | x::l,h=>by
  rcases List.mem_cons.1 h with rfl|h
  ·simp only[bLs,List.map_cons,List.sum_cons];omega
  ·have:=zc1 h;simp only[bLs,List.map_cons,List.sum_cons]at this ⊢;omega
def zsD{f:FldD}:f.ps.length<=bL f:=by have:=yJ f.ps;simp only[bL];omega
def zwO(s:SchD)(d:DefD)(b:Nat)(H:zb)(A:H b=some (.cells (zm s)))(W:s.defs.length<=Lim)(Y:bE d<=Lim):zd Tryz.prog 210 [.agg (cE d),.ptr b 0] H (At (.bool (zuA s d)) H):=by
 have Z:=Y;simp only[bE,Lim]at Z;have ae:=zaf d.flds;have af:=yJ d.ps;have I:=zmT s d.ps W (by simp only[Lim];omega);have J:=zlp cL (λ_=>rfl) d.flds 212 [.ptr b 0] (ztq s) H (by simp only[Lim];omega) (by kernel_rfl) λf aa=>zr2 s f b H A W (by have:=zc1 aa;have:=@zsD f;simp only[Lim];omega);obtain⟨k,nm,ad,X,ps,ab⟩:=d;simp only at I J;unfold zuA;simp only
 generalize zcR s ab=ac at *
 generalize X.any (ztq s)=ai at *
 obtain⟨ag,ah,sm⟩:=s;simp only[zm]at I J A;refine zd.go ir210.1 ir210.2 (Al4 _) λKP Q U=>?_;simp(disch:=omega) only[ir210,yf,A,go_sem];refine za I ?_;cases ac with
 | false =>simp(disch:=omega) only[A,go_sem];exact U _ _ _ _ _ nofun rfl (Low.refl _) ⟨by simp ,rfl⟩
 | true =>simp(disch:=omega) only[A,go_sem];refine zQ J ?_;rintro _ _ ⟨_,rfl,rfl,rfl⟩;simp(disch:=omega) only[ZT,go_sem];exact U _ _ _ _ _ nofun rfl (Low.refl _) ⟨by simp ,rfl⟩
def zlY(s:SchD):Bool:=s.defs.all (zuA s)
def zkL{s:SchD}{d:DefD}(h:d∈s.defs)(A:zJ s<=Lim):bE d<=Lim:=by have:=zk9 h;simp only[zJ]at A;omega
def zyL(s:SchD)(A:zJ s<=Lim):ze Tryz.prog 116 [.agg (zm s)] (.bool (zlY s)):=by
 have I:=yc A;have J:=λb H X=>zfC s 210 [.ptr b 0] (zuA s) H I (by kernel_rfl) λd Y=>zwO s d b H X I (zkL Y A);rw[zlY];generalize s.defs.all (zuA s)=ac at *
 obtain⟨aa,ab,sm⟩:=s;simp only[zm]at J ⊢;refine ze.go ir116.1 ir116.2 (Al4 _) λKP Q W=>?_;simp(disch:=omega) only[ir116,go_sem];refine zc λU Z=>?_;simp(disch:=omega) only[go_sem];refine zQ (J U _ (upd_same ..)) ?_;rintro _ _ ⟨_,rfl,rfl,rfl⟩;simp(disch:=omega) only[ZT,go_sem];exact W _ _ _ _ nofun rfl rfl
def zt5(s:SchD)(n:List UInt8)(b:Nat)(H:zb)(I:H b=some (.cells (zm s)))(U:s.defs.length<=Lim):zd Tryz.prog 221 [.str n,.ptr b 0] H (At (.bool (!Za s n [1])) H):=by
 have A:=zdA s n [1] U (by decide);generalize Za s n [1]=Y at *
 obtain⟨W,X,sm⟩:=s;simp only[zm,List.map,cI]at A I;refine zd.go ir221.1 ir221.2 (Al4 _) λKP Q J=>?_;simp(disch:=omega) only[ir221,I,go_sem];refine za (ze.low A) ?_;simp(disch:=omega) only[go_sem];exact J _ _ _ _ _ nofun rfl (Low.refl _) ⟨by simp ,rfl⟩
def znd(s:SchD)(d:DefD):Bool:=!decide (d.k=3)||!(d.parts.any λn=>!Za s n [1])
def zv9(s:SchD)(d:DefD)(b:Nat)(H:zb)(A:H b=some (.cells (zm s)))(Y:s.defs.length<=Lim)(W:bE d<=Lim):zd Tryz.prog 220 [.agg (cE d),.ptr b 0] H (At (.bool (znd s d)) H):=by
 have X:=W;simp only[bE,Lim]at X;have ab:=ZK d.parts;have I:=zf9 (λn:List UInt8=>AV.str n) d.parts 221 [.ptr b 0] (λn=>!Za s n [1]) H (by simp only[Lim];omega) (by kernel_rfl) λn _=>zt5 s n b H A Y;obtain⟨k,nm,aa,Z,ps,ac⟩:=d;simp only at I;unfold znd;simp only
 generalize (ps.any λn=>!Za s n [1])=af at *
 obtain⟨ad,ae,sm⟩:=s;simp only[zm]at I A;refine zd.go ir220.1 ir220.2 (Al4 _) λKP Q U=>?_;by_cases J:k=3
 ·subst J;simp(disch:=omega) only[ir220,yf,A,go_sem];refine zQ I ?_;rintro _ _ ⟨_,rfl,rfl,rfl⟩;simp(disch:=omega) only[ZT,go_sem];exact U _ _ _ _ _ nofun rfl (Low.refl _) ⟨by simp ,rfl⟩
 ·simp(disch:=omega) only[ir220,yf,A,J,go_sem];exact U _ _ _ _ _ nofun rfl (Low.refl _) ⟨by simp[J],rfl⟩
def zk8(s:SchD):Bool:=s.defs.all (znd s)
def zxJ(s:SchD)(A:zJ s<=Lim):ze Tryz.prog 119 [.agg (zm s)] (.bool (zk8 s)):=by
 have I:=yc A;have J:=λb H X=>zfC s 220 [.ptr b 0] (znd s) H I (by kernel_rfl) λd Y=>zv9 s d b H X I (zkL Y A);rw[zk8];generalize s.defs.all (znd s)=ac at *
 obtain⟨aa,ab,sm⟩:=s;simp only[zm]at J ⊢;refine ze.go ir119.1 ir119.2 (Al4 _) λKP Q W=>?_;simp(disch:=omega) only[ir119,go_sem];refine zc λU Z=>?_;simp(disch:=omega) only[go_sem];refine zQ (J U _ (upd_same ..)) ?_;rintro _ _ ⟨_,rfl,rfl,rfl⟩;simp(disch:=omega) only[ZT,go_sem];exact W _ _ _ _ nofun rfl rfl
def zl9(s:SchD):Bool:=Za s s.q [1]&&(decide (s.m=[])||(!decide (s.m=s.q)&&Za s s.m [1]))
def zxF(s:SchD)(Y:zJ s<=Lim):ze Tryz.prog 114 [.agg (zm s)] (.bool (zl9 s)):=by
 have W:=yc Y;have J:=zdA s s.q [1] W (by decide);have U:=zdA s s.m [1] W (by decide);unfold zl9;generalize Za s s.q [1]=ab at *
 generalize Za s s.m [1]=ad at *
 obtain⟨ac,aa,sm⟩:=s;simp only[zm,List.map,cI]at J U ⊢;refine ze.go ir114.1 ir114.2 (Al4 _) λKP Q I=>?_;simp(disch:=omega) only[ir114,go_sem];refine za (ze.low J) ?_;cases ab with
 | false =>simp(disch:=omega) only[go_sem];exact I _ _ _ _ nofun rfl (by simp )
 | true =>
  by_cases A:sm=[]
  ·have Z:=eq_true A;simp(disch:=omega) only[Z,go_sem];exact I _ _ _ _ nofun rfl (by simp[A])
  ·by_cases hq:sm=aa
   ·have X:=eq_true hq;simp(disch:=omega) only[A,X,go_sem];exact I _ _ _ _ nofun rfl (by simp[A,X])
   ·simp(disch:=omega) only[A,hq,go_sem];refine za (ze.low U) ?_;simp(disch:=omega) only[go_sem];exact I _ _ _ _ nofun rfl (by simp[A,hq])
def zeI(l:List (List UInt8)):Bool:=za5 l&&zbB l
def zoD(l:List (List UInt8))(I:l.length<=Lim):ze Tryz.prog 201 [.sl .no 1 (cT l)] (.bool (zeI l)):=by
 have J:=zql l I;have U:=znP l I;unfold zeI;generalize za5 l=W at *
 generalize zbB l=X at *
 refine ze.go ir201.1 ir201.2 (Al4 _) λKP Q A=>?_;simp(disch:=omega) only[ir201,go_sem];refine za J ?_;cases W with
 | false =>simp(disch:=omega) only[go_sem];exact A _ _ _ _ nofun rfl (by simp )
 | true =>simp(disch:=omega) only[go_sem];refine za U ?_;simp(disch:=omega) only[go_sem];exact A _ _ _ _ nofun rfl (by simp )
def zry(f:FldD)(b:Nat)(H:zb)(J:H b=some (.cells [.clo 201 [] []]))(U:f.ps.length<=Lim):zd Tryz.prog 209 [.agg (cL f),.ptr b 0] H (At (.bool (!zeI (f.ps.map (·.nm)))) H):=by
 have A:=zik f.ps U;have I:=zoD (f.ps.map (·.nm)) (by simpa using U);obtain⟨nm,ps,⟨X,Y,Z⟩,ds⟩:=f;simp only at A I ⊢;generalize zeI (ps.map (·.nm))=aa at *
 refine zd.go ir209.1 ir209.2 (Al4 _) λKP Q W=>?_;simp(disch:=omega) only[ir209,zaM,J,go_sem];refine za A ?_;simp(disch:=omega) only[J,go_sem];refine⟨by kernel_rfl,za I ?_⟩;simp(disch:=omega) only[go_sem];exact W _ _ _ _ _ nofun rfl (Low.refl _) ⟨by simp ,rfl⟩
def zna(d:DefD):Bool:=zeI (d.flds.map (·.nm))&&(zeI (d.ps.map (·.nm))&&(za5 d.parts&&(za5 d.faces&&!d.flds.any λf=>!zeI (f.ps.map (·.nm)))))
def zuz(d:DefD)(b:Nat)(H:zb)(A:H b=some (.cells [.clo 201 [] []]))(ad:bE d<=Lim):zd Tryz.prog 203 [.agg (cE d),.ptr b 0] H (At (.bool (zna d)) H):=by
 have ae:=ad;simp only[bE,Lim]at ae;have al:=zaf d.flds;have am:=yJ d.ps;have an:=ZK d.parts;have ao:=ZK d.faces;have U:=zos d.flds (by simp only[Lim];omega);have W:=zoD (d.flds.map (·.nm)) (by simp only[List.length_map,Lim];omega);have X:=zik d.ps (by simp only[Lim];omega);have Y:=zoD (d.ps.map (·.nm)) (by simp only[List.length_map,Lim];omega);have Z:=zql d.parts (by simp only[Lim];omega);have aa:=zql d.faces (by simp only[Lim];omega);have ab:=zlp cL (λ_=>rfl) d.flds 209 [.ptr b 0] (λf=>!zeI (f.ps.map (·.nm))) H (by simp only[Lim];omega) (by kernel_rfl) λf af=>zry f b H A (by have:=zc1 af;have:=@zsD f;simp only[Lim];omega);obtain⟨k,nm,ac,J,ps,ag⟩:=d;simp only at U W X Y Z aa ab;unfold zna;simp only
 generalize (J.any λf=>!zeI (f.ps.map (·.nm)))=ap at *
 generalize zeI (J.map (·.nm))=ah at *
 generalize zeI (ag.map (·.nm))=ai at *
 generalize za5 ps=aj at *
 generalize za5 ac=ak at *
 refine zd.go ir203.1 ir203.2 (Al4 _) λKP Q I=>?_;simp(disch:=omega) only[ir203,yf,A,go_sem];refine za U ?_;simp(disch:=omega) only[A,go_sem];refine⟨by kernel_rfl,za W ?_⟩;cases ah with
 | false =>simp(disch:=omega) only[A,go_sem];exact I _ _ _ _ _ nofun rfl (Low.refl _) ⟨by simp ,rfl⟩
 | true =>
 simp(disch:=omega) only[A,go_sem];refine za X ?_;simp(disch:=omega) only[A,go_sem];refine⟨by kernel_rfl,za Y ?_⟩;cases ai with
 | false =>simp(disch:=omega) only[A,go_sem];exact I _ _ _ _ _ nofun rfl (Low.refl _) ⟨by simp ,rfl⟩
 | true =>
 simp(disch:=omega) only[A,go_sem];refine za Z ?_;cases aj with
 | false =>simp(disch:=omega) only[A,go_sem];exact I _ _ _ _ _ nofun rfl (Low.refl _) ⟨by simp ,rfl⟩
 | true =>
 simp(disch:=omega) only[A,go_sem];refine za aa ?_;cases ak with
 | false =>simp(disch:=omega) only[A,go_sem];exact I _ _ _ _ _ nofun rfl (Low.refl _) ⟨by simp ,rfl⟩
 | true =>
 simp(disch:=omega) only[A,go_sem];refine zQ ab ?_;rintro _ _ ⟨_,rfl,rfl,rfl⟩;simp(disch:=omega) only[ZT,go_sem];exact I _ _ _ _ _ nofun rfl (Low.refl _) ⟨by simp ,rfl⟩
def zgq(s:SchD):Bool:=s.defs.all zna
def ztA(s:SchD)(A:zJ s<=Lim):ze Tryz.prog 115 [.agg (zm s)] (.bool (zgq s)):=by
 have Y:=yc A;have I:=λb H W=>zfC s 203 [.ptr b 0] zna H Y (by kernel_rfl) λd X=>zuz d b H W (zkL X A);rw[zgq];generalize s.defs.all zna=ac at *
 obtain⟨aa,ab,sm⟩:=s;simp only[zm]at I ⊢;refine ze.go ir115.1 ir115.2 (Al4 _) λKP Q U=>?_;simp(disch:=omega) only[ir115,go_sem];refine zc λJ Z=>?_;simp(disch:=omega) only[go_sem];refine zQ (I J _ (upd_same ..)) ?_;rintro _ _ ⟨_,rfl,rfl,rfl⟩;simp(disch:=omega) only[ZT,go_sem];exact U _ _ _ _ nofun rfl rfl
noncomputable def zto(s:SchD)(p:VarD):Bool:=p.has&&!ZN s p.t p.d
def zvD(s:SchD)(p:VarD)(U:zJ s<=Lim)(J:bW p<=Lim):ze Tryz.prog 295 [.agg (cW p),.view (zm s)] (.bool (zto s p)):=by
 have A:=zhj s p.t p.d U (by simp only[bW]at J;omega) (by simp only[bW]at J;omega);obtain⟨nm,⟨W,X,Y⟩,h,⟨k,q,st,l,m⟩⟩:=p;unfold zto;simp only at A ⊢;generalize ZN s ⟨W,X,Y⟩ (.mk k q st l m)=ab at *
 obtain⟨Z,aa,sm⟩:=s;simp only[zm,cTy,yj]at A ⊢;refine ze.go ir295.1 ir295.2 (Al4 _) λKP Q I=>?_;cases h with
 | false =>simp(disch:=omega) only[ir295,z7,go_sem];exact I _ _ _ _ nofun rfl (by simp )
 | true =>simp(disch:=omega) only[ir295,z7,go_sem];refine za A ?_;simp(disch:=omega) only[go_sem];exact I _ _ _ _ nofun rfl (by simp )
noncomputable def zgV(s:SchD)(l:List VarD):Bool:=!l.any (zto s)
def zmu(s:SchD)(ps:List VarD)(J:zJ s<=Lim)(W:bWs ps<=Lim):ze Tryz.prog 225 [.agg (zm s),.sl .no 10 (cWs ps)] (.bool (zgV s ps)):=by
 have U:=yJ ps;have A:=zsG cW zaP ps 295 [.view (zm s)] (zto s) (by omega) (by kernel_rfl) λp h=>zvD s p J (by have:=YL h;omega);unfold zgV;generalize ps.any (zto s)=Z at *
 obtain⟨X,Y,sm⟩:=s;simp only[zm]at A ⊢;refine ze.go ir225.1 ir225.2 (Al4 _) λKP Q I=>?_;simp(disch:=omega) only[ir225,go_sem];refine za A ?_;simp(disch:=omega) only[go_sem];exact I _ _ _ _ nofun rfl (by simp )
def zyF(s:SchD)(p:VarD)(b:Nat)(H:zb)(I:H b=some (.cells (zm s)))(U:s.defs.length<=Lim):zd Tryz.prog 227 [.agg (cW p),.ptr b 0] H (At (.bool (p.has&&!zaT s p.t.nm)) H):=by
 have A:=zm1 s p.t.nm U;obtain⟨nm,⟨W,Z,aa⟩,h,⟨k,q,st,l,m⟩⟩:=p;simp only at A ⊢;generalize zaT s W=ab at *
 obtain⟨X,Y,sm⟩:=s;simp only[zm]at A I;refine zd.go ir227.1 ir227.2 (Al4 _) λKP Q J=>?_;cases h with
 | false =>simp(disch:=omega) only[ir227,z7,I,go_sem];exact J _ _ _ _ _ nofun rfl (Low.refl _) ⟨by simp ,rfl⟩
 | true =>simp(disch:=omega) only[ir227,z7,I,go_sem];refine za A ?_;simp(disch:=omega) only[go_sem];exact J _ _ _ _ _ nofun rfl (Low.refl _) ⟨by simp ,rfl⟩
def zxL(s:SchD)(f:FldD)(b:Nat)(H:zb)(I:H b=some (.cells (zm s)))(W:zJ s<=Lim)(U:bWs f.ps<=Lim):zd Tryz.prog 228 [.agg (cL f),.ptr b 0] H (At (.bool (!zgV s f.ps)) H):=by
 have A:=zmu s f.ps W U;obtain⟨nm,ps,⟨Z,aa,ab⟩,ds⟩:=f;simp only at A ⊢;generalize zgV s ps=ac at *
 obtain⟨X,Y,sm⟩:=s;simp only[zm]at A I;refine zd.go ir228.1 ir228.2 (Al4 _) λKP Q J=>?_;simp(disch:=omega) only[ir228,zaM,I,go_sem];refine za A ?_;simp(disch:=omega) only[go_sem];exact J _ _ _ _ _ nofun rfl (Low.refl _) ⟨by simp ,rfl⟩
noncomputable def zsB(s:SchD)(d:DefD):Bool:=zgV s d.ps&&(!(d.ps.any λp=>p.has&&!zaT s p.t.nm)&&!(d.flds.any λf=>!zgV s f.ps))
def zlP{f:FldD}:bWs f.ps<=bL f:=by simp only[bL];omega
def zzv(s:SchD)(d:DefD)(b:Nat)(H:zb)(A:H b=some (.cells (zm s)))(U:zJ s<=Lim)(aa:bE d<=Lim):zd Tryz.prog 224 [.agg (cE d),.ptr b 0] H (At (.bool (zsB s d)) H):=by
 have ad:=yc U;have ab:=aa;simp only[bE,Lim]at ab;have ah:=zaf d.flds;have ai:=yJ d.ps;have I:=zmu s d.ps U (by simp only[Lim];omega);have W:=zvh cW zaP d.ps 227 [.ptr b 0] (λp=>p.has&&!zaT s p.t.nm) H (by simp only[Lim];omega) (by kernel_rfl) λp _=>zyF s p b H A ad;have X:=zlp cL (λ_=>rfl) d.flds 228 [.ptr b 0] (λf=>!zgV s f.ps) H (by simp only[Lim];omega) (by kernel_rfl) λf ac=>zxL s f b H A U (by have:=zc1 ac;have:=@zlP f;simp only[Lim];omega);obtain⟨k,nm,ag,Z,ps,Y⟩:=d;simp only at I W X;unfold zsB;simp only
 generalize (Z.any λf=>!zgV s f.ps)=al at *
 generalize zgV s Y=ae at *
 generalize (Y.any λp=>p.has&&!zaT s p.t.nm)=af at *
 obtain⟨aj,ak,sm⟩:=s;simp only[zm]at I A;refine zd.go ir224.1 ir224.2 (Al4 _) λKP Q J=>?_;simp(disch:=omega) only[ir224,yf,A,go_sem];refine za I ?_;cases ae with
 | false =>simp(disch:=omega) only[A,go_sem];exact J _ _ _ _ _ nofun rfl (Low.refl _) ⟨by simp ,rfl⟩
 | true =>
 simp(disch:=omega) only[A,go_sem];refine zQ W ?_;rintro _ _ ⟨_,rfl,rfl,rfl⟩;cases af with
 | true =>simp(disch:=omega) only[ZT,go_sem];exact J _ _ _ _ _ nofun rfl (Low.refl _) ⟨by simp ,rfl⟩
 | false =>
 simp(disch:=omega) only[ZT,go_sem];refine zQ X ?_;rintro _ _ ⟨_,rfl,rfl,rfl⟩;simp(disch:=omega) only[ZT,go_sem];exact J _ _ _ _ _ nofun rfl (Low.refl _) ⟨by simp ,rfl⟩
noncomputable def zwr(s:SchD):Bool:=s.defs.all (zsB s)
def zrg(s:SchD)(A:zJ s<=Lim):ze Tryz.prog 121 [.agg (zm s)] (.bool (zwr s)):=by
 have Y:=yc A;have I:=λb H W=>zfC s 224 [.ptr b 0] (zsB s) H Y (by kernel_rfl) λd X=>zzv s d b H W A (zkL X A);rw[zwr];generalize s.defs.all (zsB s)=ac at *
 obtain⟨aa,ab,sm⟩:=s;simp only[zm]at I ⊢;refine ze.go ir121.1 ir121.2 (Al4 _) λKP Q U=>?_;simp(disch:=omega) only[ir121,go_sem];refine zc λJ Z=>?_;simp(disch:=omega) only[go_sem];refine zQ (I J _ (upd_same ..)) ?_;rintro _ _ ⟨_,rfl,rfl,rfl⟩;simp(disch:=omega) only[ZT,go_sem];exact U _ _ _ _ nofun rfl rfl
def zrD(n:List UInt8)(d:DefD)(b:Nat)(H:zb)(I:H b=some (.cells (cE d)))(W:d.faces.length<=Lim):zd Tryz.prog 216 [.str n,.ptr b 0] H (At (.bool (!yo n d.faces)) H):=by
 have A:=yD d.faces n W;obtain⟨k,nm,J,X,ps,Y⟩:=d;simp only at A ⊢;rw[yf]at I;generalize yo n J=Z at *
 refine zd.go ir216.1 ir216.2 (Al4 _) λKP Q U=>?_;simp(disch:=omega) only[ir216,I,go_sem];refine za A ?_;simp(disch:=omega) only[go_sem];exact U _ _ _ _ _ nofun rfl (Low.refl _) ⟨by simp ,rfl⟩
def zk0(s:SchD)(d:DefD)(n:List UInt8):Bool:=match yB s n with
 | none=>true
 | some f=>!decide (f.k=2)||(decide (n=d.nm)||f.faces.any λm=>!yo m d.faces)
def ztK(s:SchD)(d:DefD)(n:List UInt8)(b c:Nat)(H:zb)(ah:H b=some (.cells (zm s)))(Z:H c=some (.cells (cE d)))(ai:zJ s<=Lim)(ap:bE d<=Lim):zd Tryz.prog 214 [.str n,.ptr b 0,.ptr c 0] H (At (.bool (zk0 s d n)) H):=by
 have ad:=yc ai;have J:=zgy s n ad;have ar:=@YF s n;have az:zJ s<=1099511627776:=ai;have aq:d.faces.length<=Lim:=by have:=ZK d.faces;simp only[bE]at ap;omega
 have al:=λ(l:List (List UInt8)) (X:zb) (ad:l.length<=Lim) (h:X c=some (.cells (cE d)))=>zf9 (λn:List UInt8=>AV.str n) l 216 [.ptr c 0] (λm=>!yo m d.faces) X ad (by kernel_rfl) λm _=>zrD m d c X h aq;have an:cE d=[.int .i64 d.k,.str d.nm,.sl .no 1 (cT d.faces),.sl .no 6 (cLs d.flds),.sl .no 1 (cT d.parts),.sl .no 10 (cWs d.ps)]:=rfl;have A:zk0 s d n=match yB s n with|none=>true|some f=>!decide (f.k=2)||(decide (n=d.nm)||f.faces.any λm=>!yo m d.faces):=rfl
 have aa:=Z;rw[an]at aa;generalize zk0 s d n=F at *
 obtain⟨aj,ak,sm⟩:=s;generalize am:(⟨aj,ak,sm⟩:SchD)=s at *
 have ao:zm s=[.sl .no 6 (cEs aj),.str ak,.str sm]:=by rw[<-am];rfl
 rw[ao]at J ah;refine zd.go ir214.1 ir214.2 (Al4 _) λKP Q ag=>?_;have fin:∀r,F=r->∀ρ H1,zo ρ H1 ir214.1.res=some [.bool r]->Low H H1->Q .ret ρ H1/\Q .normal ρ H1:=λr e ρ H1 J af=>⟨ag _ ρ H1 H _ nofun J af ⟨by rw[e];rfl,rfl⟩,ag _ ρ H1 H _ nofun J af ⟨by rw[e];rfl,rfl⟩⟩;simp(disch:=omega) only[ir214,ah,go_sem];refine za J ?_;cases ab:yB s n with
 | none =>rw[ab]at A;simp(disch:=omega) only[Option.getD,Option.isSome,zE,yf,go_sem];refine zc λae I=>?_;simp(disch:=omega) only[go_sem];exact(fin true A _ _ rfl ((Low.refl _).upd I)).1
 | some f =>
  rw[ab]at A;obtain⟨au,av,_,_⟩:=ar ab;obtain⟨k,nm,Y,ax,ps,a0⟩:=f;simp only at A au av;have ay:=ZK Y;simp(disch:=omega) only[Option.getD,Option.isSome,yf,go_sem];refine zc λae I=>?_;have U:c≠ae:=λe=>by subst e;rw[Z]at I;cases I
  by_cases ac:k=2
  case neg =>simp(disch:=omega) only[ac,go_sem];exact(fin true (by rw[A];simp[ac]) _ _ rfl ((Low.refl _).upd I)).1
  subst ac;by_cases W:n=d.nm
  ·have aw:=eq_true W;simp(disch:=omega) only[aa,U,Ne.symm U,aw,go_sem];exact(fin true (by rw[A];simp[W]) _ _ rfl ((Low.refl _).upd I)).1
  simp(disch:=omega) only[aa,U,Ne.symm U,W,go_sem];refine zQ (al Y _ (by simp only[Lim];omega) (by rw[upd_ne U,Z])) ?_;rintro _ _ ⟨_,rfl,rfl,rfl⟩;simp(disch:=omega) only[ZT,go_sem];exact(fin (Y.any λm=>!yo m d.faces) (by rw[A];simp[W]) _ _ rfl ((Low.refl _).upd I)).1
def znO(s:SchD)(d:DefD):Bool:=!d.faces.any (zk0 s d)
def zvV(s:SchD)(d:DefD)(b:Nat)(H:zb)(X:H b=some (.cells (zm s)))(ac:zJ s<=Lim)(Y:bE d<=Lim):zd Tryz.prog 213 [.agg (cE d),.ptr b 0] H (At (.bool (znO s d)) H):=by
 have ab:d.faces.length<=Lim:=by have:=ZK d.faces;simp only[bE]at Y;omega
 have W:=λ(c:Nat) (A:zb) (Z:A b=some (.cells (zm s))) (h:A c=some (.cells (cE d)))=>zf9 (λn:List UInt8=>AV.str n) d.faces 214 [.ptr b 0,.ptr c 0] (zk0 s d) A ab (by kernel_rfl) λm _=>ztK s d m b c A Z h ac Y;unfold znO;generalize d.faces.any (zk0 s d)=ag at *
 obtain⟨k,nm,ae,ad,ps,af⟩:=d;simp only[yf]at W ⊢;refine zd.go ir213.1 ir213.2 (Al4 _) λKP Q aa=>?_;simp(disch:=omega) only[ir213,go_sem];refine zc λU I=>?_;have J:b≠U:=λe=>by subst e;rw[X]at I;cases I
 simp(disch:=omega) only[J,Ne.symm J,go_sem];refine zQ (W U _ (by rw[upd_ne J,X]) (upd_same ..)) ?_;rintro _ _ ⟨_,rfl,rfl,rfl⟩;simp(disch:=omega) only[ZT,go_sem];exact aa _ _ _ H _ nofun rfl ((Low.refl _).upd I) ⟨by simp ,rfl⟩
def zlS(s:SchD):Bool:=s.defs.all (znO s)
def zyC(s:SchD)(A:zJ s<=Lim):ze Tryz.prog 117 [.agg (zm s)] (.bool (zlS s)):=by
 have Y:=yc A;have I:=λb H W=>zfC s 213 [.ptr b 0] (znO s) H Y (by kernel_rfl) λd X=>zvV s d b H W A (zkL X A);rw[zlS];generalize s.defs.all (znO s)=ac at *
 obtain⟨aa,ab,sm⟩:=s;simp only[zm]at I ⊢;refine ze.go ir117.1 ir117.2 (Al4 _) λKP Q U=>?_;simp(disch:=omega) only[ir117,go_sem];refine zc λJ Z=>?_;simp(disch:=omega) only[go_sem];refine zQ (I J _ (upd_same ..)) ?_;rintro _ _ ⟨_,rfl,rfl,rfl⟩;simp(disch:=omega) only[ZT,go_sem];exact U _ _ _ _ nofun rfl rfl
def zmp(n:List UInt8):∀(l:List DefD) (a:List (List UInt8)),(l.foldl (zch n) a).length<=a.length+l.length
 | [],a=>by simp
 | x::l,a=>by have:=zmp n l (zch n a x);have:=znf n a x;simp only[List.foldl,Al2];omega
def zmL(s:SchD):∀(l:List (List UInt8)) (a:List (List UInt8)),(l.foldl (zdw s) a).length<=a.length+l.length
 | [],a=>by simp
 | x::l,a=>by have:=zmL s l (zdw s a x);have:=zmw s a x;simp only[List.foldl,Al2];omega
def ziI(s:SchD)(n:List UInt8):(zb3 s n).length<=zJ s+1:=by
 rw[zmQ];cases h:yB s n with
 | none=>simp
 | some d =>
  obtain⟨_,_,J,_⟩:=YF h;have U:=ZK d.parts;have W:=zf6 s.defs;have X:bEs s.defs<=zJ s:=by simp only[zJ];omega
  have A:=zmp n s.defs [];have I:=zmL s d.parts [];simp only[Al3]at A I;show (if d.k=1 then [n]else if d.k=2 then s.defs.foldl (zch n) []else if d.k=3 then d.parts.foldl (zdw s) []else []).length<=_;split
  ·simp
  ·split
   ·omega
   ·split
    ·omega
    ·simp
def zqN(s:SchD)(a b:TyD):Bool:=if zM a=true/\za8 ⟨b.nm,a.lists,a.musts⟩ b=true then (if a.nm=b.nm then true else match yB s a.nm with
 | none=>false
 | some d=>(decide (d.k=1)&&yo a.nm (zb3 s b.nm))||(decide (d.k=2)&&(Za s b.nm [2]&&yo b.nm d.faces)))else false
def zAs(s:SchD)(a b:TyD)(ay:zJ s+1<=Lim)(ax:a.nm.length<=Lim)(al:b.nm.length<=Lim):ze Tryz.prog 292 [.agg (zm s),.agg (cTy a),.agg (cTy b)] (.bool (zqN s a b)):=by
 have an:=@yc s (by omega);have U:=zaS a ax;have aa:=zo4 ⟨b.nm,a.lists,a.musts⟩ b al al;have ab:=zgy s a.nm an;have ao:=@YF s a.nm;have ac:=zrY s b.nm (by omega);have ak:=yD (zb3 s b.nm) a.nm (by have:=ziI s b.nm;omega);have ad:=zdA s b.nm [2] an (by decide);have X:=λ(l:List (List UInt8)) (h:l.length<=Lim)=>yD l b.nm h;have ba:zJ s<=1099511627776:=by simp only[Lim]at ay;omega
 have I:zqN s a b=if zM a=true/\za8 ⟨b.nm,a.lists,a.musts⟩ b=true then (if a.nm=b.nm then true else match yB s a.nm with
  | none=>false
  | some d=>(decide (d.k=1)&&yo a.nm (zb3 s b.nm))||(decide (d.k=2)&&(Za s b.nm [2]&&yo b.nm d.faces)))else false:=rfl
 generalize zqN s a b=F at *
 obtain⟨W,ai,aj⟩:=a;obtain⟨J,au,bm⟩:=b;simp only at U aa ab ac ak ad X I ao;generalize zM ⟨W,ai,aj⟩=a2 at *
 generalize za8 ⟨J,ai,aj⟩ ⟨J,au,bm⟩=a3 at *
 generalize zb3 s J=a4 at *
 generalize Za s J [2]=a5 at *
 obtain⟨ap,aq,sm⟩:=s;generalize aw:(⟨ap,aq,sm⟩:SchD)=s at *
 have az:zm s=[.sl .no 6 (cEs ap),.str aq,.str sm]:=by rw[<-aw];rfl
 simp only[az,cTy,List.map,cI]at U aa ab ac ad ⊢;refine ze.go ir292.1 ir292.2 (Al4 _) λKP Q av=>?_;have fin:∀r,F=r->∀ρ H,zo ρ H ir292.1.res=some [.bool r]->Q .ret ρ H:=λr e ρ H U=>av _ ρ H _ nofun U (by rw[e];rfl);simp(disch:=omega) only[ir292,go_sem];refine zc λa6 a9=>?_;simp(disch:=omega) only[go_sem];refine za U ?_;cases a2 with
 | false =>simp(disch:=omega) only[go_sem];exact fin false (by rw[I];simp) _ _ rfl
 | true =>
 simp(disch:=omega) only[go_sem];refine za aa ?_;cases a3 with
 | false =>simp(disch:=omega) only[go_sem];exact fin false (by rw[I];simp) _ _ rfl
 | true =>
 rw[if_pos ⟨rfl,rfl⟩]at I;by_cases Y:W=J
 ·rw[if_pos Y]at I;have a1:=eq_true Y;simp(disch:=omega) only[a1,go_sem];exact fin true I _ _ rfl
 rw[if_neg Y]at I;simp(disch:=omega) only[Y,go_sem];refine za ab ?_;cases af:yB s W with
 | none =>rw[af]at I;simp(disch:=omega) only[Option.getD,Option.isSome,zE,yf,go_sem];refine zc λar ae=>?_;have A:=yS ae;simp(disch:=omega) only[A,Ne.symm A,go_sem];exact fin false I _ _ rfl
 | some d =>
  rw[af]at I;obtain⟨_,a0,_,_⟩:=ao af;obtain⟨k,a7,Z,a8,ps,bd⟩:=d;simp only at I a0;have bc:=ZK Z;replace X:=X Z (by simp only[Lim];omega);simp(disch:=omega) only[Option.getD,Option.isSome,yf,go_sem];refine zc λar ae=>?_;have A:=yS ae;by_cases ag:k=1
  ·subst ag;simp(disch:=omega) only[A,Ne.symm A,go_sem];refine za ac ?_;simp(disch:=omega) only[A,Ne.symm A,go_sem];refine za ak ?_;cases am:yo W a4 with
   | true =>simp(disch:=omega) only[A,Ne.symm A,go_sem];exact fin true (by rw[I];simp[am]) _ _ rfl
   | false =>simp(disch:=omega) only[A,Ne.symm A,go_sem];exact fin false (by rw[I];simp[am]) _ _ rfl
  ·by_cases ah:k=2
   ·subst ah;simp(disch:=omega) only[A,Ne.symm A,go_sem];refine za (ze.low ad) ?_;cases a5 with
    | false =>simp(disch:=omega) only[A,Ne.symm A,go_sem];exact fin false (by rw[I];simp) _ _ rfl
    | true =>simp(disch:=omega) only[A,Ne.symm A,go_sem];refine za X ?_;simp(disch:=omega) only[go_sem];exact fin (yo J Z) (by rw[I];simp) _ _ rfl
   ·simp(disch:=omega) only[A,Ne.symm A,ag,ah,go_sem];exact fin false (by rw[I];simp[ag,ah]) _ _ rfl
def zvJ(a b:TyD):Bool:=zcS (cTy a) (cTy b)
def zta(fp:List VarD)(p:VarD):Bool:=match ya fp p.nm with|none=>false|some q=>zvJ q.t p.t
def zs0(gp:List VarD)(q:VarD):Bool:=(ya gp q.nm).isSome||!zi0 q
def zhm(f g:FldD):Bool:=g.ps.all (zta f.ps)&&f.ps.all (zs0 g.ps)
def zy4(f g:FldD)(au:bWs f.ps<=Lim)(ax:bWs g.ps<=Lim):ze Tryz.prog 293 [.agg (cL f),.agg (cL g)] (.bool (zhm f g)):=by
 have Z:zhm f g=(g.ps.all (zta f.ps)&&f.ps.all (zs0 g.ps)):=rfl;generalize zhm f g=F at *
 obtain⟨bl,J,⟨bg,bh,bj⟩,bk⟩:=f;obtain⟨br,W,⟨bn,bo,bp⟩,bq⟩:=g;simp only at Z au ax;have bv:=yJ J;have bw:=yJ W;have ap:=Zk J;have aq:=Zk W;simp only[Lim]at au ax;rw[zaM,zaM];refine ze.go ir293.1 ir293.2 (Al4 _) λKP Q a1=>?_;have fin:∀r,F=r->∀ρ H,zo ρ H ir293.1.res=some [.bool r]->Q .ret ρ H:=λr e ρ H a0=>a1 _ ρ H _ nofun a0 (by rw[e];rfl);simp(disch:=omega) only[ir293,aq,go_sem];refine zf W 16 (λ_:Unit=>[]) (λdone rest _ H=>rest.all (zta J)=W.all (zta J)) () (by simp(disch:=omega) only[go_sem]) rfl ?_ ?_
 ·rintro _ H am U Y;simp(disch:=omega) only[ap,aq,Y,go_sem];refine zf J 41 (λ_:Unit=>[]) (λdone rest _ H=>rest.all (zs0 W)=J.all (zs0 W)) () (by simp(disch:=omega) only[go_sem]) rfl ?_ ?_
  ·rintro _ H am X Y;simp(disch:=omega) only[ap,Y,go_sem];exact fin true (by rw[Z,<-U,<-X];rfl) _ _ rfl
  ·rintro done x rest _ H am ak Y _ X aj;have ab:=Ya ak;have aa:=zf4 W x.nm (by simp only[Lim];omega);have ar:=zxM x (by have:=@YL x J (by rw[ak];simp);simp only[bW]at this;simp only[Lim];omega);rw[List.all_cons]at X;have I:zs0 W x=((ya W x.nm).isSome||!zi0 x):=rfl;generalize zi0 x=a8 at *
   obtain⟨nm,⟨ag,ah,ai⟩,a2,⟨a9,bd,xs,ba,bc⟩⟩:=x;rw[z7]at ab ar;simp only at aa I;simp(disch:=omega) only[ap,Y,ab,go_sem];refine zc λbe bt=>?_;simp(disch:=omega) only[go_sem];refine za aa ?_;cases ac:ya W nm with
   | some p =>rw[ac]at I;rw[I]at X;obtain⟨a5,⟨ad,ae,af⟩,a3,⟨pk,a6,a7,pl,a4⟩⟩:=p;simp(disch:=omega) only[Option.getD,Option.isSome,z7,go_sem];refine zc λay an=>?_;have A:=yS an;simp(disch:=omega) only[A,Ne.symm A,go_sem];exact goJ (aj () _ (by simpa using X)) (by simp(disch:=omega) only[wrap64,go_sem])
   | none =>
    rw[ac]at I;rw[I]at X;simp(disch:=omega) only[Option.getD,Option.isSome,zW,zV,z7,go_sem];refine zc λay an=>?_;have A:=yS an;simp(disch:=omega) only[A,Ne.symm A,go_sem];refine za ar ?_;cases a8 with
    | true =>simp(disch:=omega) only[go_sem];exact fin false (by rw[Z,<-X];simp) _ _ rfl
    | false =>simp(disch:=omega) only[go_sem];exact goJ (aj () _ (by simpa using X)) (by simp(disch:=omega) only[wrap64,go_sem])
 ·rintro done x rest _ H am ak Y _ U aj;have ab:=Ya ak;have aa:=zf4 J x.nm (by simp only[Lim];omega);rw[List.all_cons]at U;have I:zta J x=match ya J x.nm with|none=>false|some q=>zvJ q.t x.t:=rfl
  obtain⟨nm,⟨ag,ah,ai⟩,a2,⟨a9,bd,xs,ba,bc⟩⟩:=x;rw[z7]at ab;simp only at aa I;simp(disch:=omega) only[aq,Y,ab,go_sem];refine zc λbf bu=>?_;simp(disch:=omega) only[go_sem];refine za aa ?_;cases ac:ya J nm with
  | none =>rw[ac]at I;rw[I]at U;simp(disch:=omega) only[Option.getD,Option.isSome,zW,zV,z7,go_sem];refine zc λaz ao=>?_;have A:=yS ao;simp(disch:=omega) only[A,Ne.symm A,go_sem];exact fin false (by rw[Z,<-U];simp) _ _ rfl
  | some p =>
   rw[ac]at I;simp only at I;rw[I]at U;obtain⟨a5,⟨ad,ae,af⟩,a3,⟨pk,a6,a7,pl,a4⟩⟩:=p;simp only at U;simp(disch:=omega) only[Option.getD,Option.isSome,z7,go_sem];refine zc λaz ao=>?_;have A:=yS ao;have av:zX [K1.s,K1.i .i64,K1.i .i64] [.str ad,.int .i64 ae,.int .i64 af]=true:=by simp[zX,K1.fits]
   have aw:zX [K1.s,K1.i .i64,K1.i .i64] [.str ag,.int .i64 ah,.int .i64 ai]=true:=by simp[zX,K1.fits]
   have al:zcS [.str ad,.int .i64 ae,.int .i64 af] [.str ag,.int .i64 ah,.int .i64 ai]=zvJ ⟨ad,ae,af⟩ ⟨ag,ah,ai⟩:=rfl;cases hq:zvJ ⟨ad,ae,af⟩ ⟨ag,ah,ai⟩with
   | true =>rw[hq]at U al;simp(disch:=omega) only[A,Ne.symm A,av,aw,al,go_sem];exact goJ (aj () _ (by simpa using U)) (by simp(disch:=omega) only[wrap64,go_sem])
   | false =>rw[hq]at U al;simp(disch:=omega) only[A,Ne.symm A,av,aw,al,go_sem];exact fin false (by rw[Z,<-U];simp) _ _ rfl
end Go.Proofs.YtnemcnegfkjpeaaGreatDoor
