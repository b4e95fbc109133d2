import Derived.Ground.Names2Prog
import Derived.Shelf.Lays2
import Derived.Test.YtnemcnegfkjpeaaGreatDoorProg
import Derived.Shelf.Spec.SlicesInsert
import Derived.Shelf.Spec.SlicesInsertGrow
import Derived.Test.YtnemcnegfkjpeaaGreatDoorM10
set_option maxRecDepth 100000
set_option linter.all false
namespace Go.Proofs.YtnemcnegfkjpeaaGreatDoor
open Go.Ab
def zo6(t:TyD):(zaG t).nm=t.nm:=by unfold zaG;split<;>rfl
def zBh:Val->Int| .mk k _ _ _ _=>k
def zg8(v:VarD)(t:TyD)(has:Bool):Bool:=if !isM t||isM v.t then za8 v.t t else (has||(v.has&&!decide (zBh v.d=0)))&&za8 v.t (zaG t)
def zzm(v:VarD)(t:TyD)(has:Bool)(ae:v.t.nm.length<=Lim)(aa:t.nm.length<=Lim):ze Tryz.prog 164 [.agg (cW v),.agg (cTy t),.bool has] (.bool (zg8 v t has)):=by
 have af:=isC t aa;have ac:=isC v.t ae;have X:=zo4 v.t t ae aa;have ad:=zwT t aa;have Y:=zo4 v.t (zaG t) ae (by rw[zo6];exact aa);obtain⟨nm,⟨A,I,J⟩,ab,⟨k,q,st,l,m⟩⟩:=v;have U:zg8 ⟨nm,⟨A,I,J⟩,ab,.mk k q st l m⟩ t has=if !isM t||isM ⟨A,I,J⟩then za8 ⟨A,I,J⟩ t else (has||(ab&&!decide (k=0)))&&za8 ⟨A,I,J⟩ (zaG t):=rfl
 generalize zg8 ⟨nm,⟨A,I,J⟩,ab,.mk k q st l m⟩ t has=F at *
 simp only at ac X Y;generalize isM t=ah at *
 generalize isM ⟨A,I,J⟩=ai at *
 generalize za8 ⟨A,I,J⟩ t=ap at *
 generalize za8 ⟨A,I,J⟩ (zaG t)=aq at *
 generalize zaG t=t' at *
 obtain⟨aj,ak,al⟩:=t;obtain⟨am,an,ao⟩:=t';simp only[cTy]at af ac X ad Y ⊢;rw[z7];refine ze.go ir164.1 ir164.2 (Al4 _) λKP Q W=>?_;simp(disch:=omega) only[ir164,go_sem];refine za af ?_;cases ah with
 | false =>simp(disch:=omega) only[go_sem];refine za X ?_;simp(disch:=omega) only[go_sem];exact W _ _ _ _ nofun rfl (by simp[U])
 | true =>
 simp(disch:=omega) only[go_sem];refine za ac ?_;cases ai with
 | true =>simp(disch:=omega) only[go_sem];refine za X ?_;simp(disch:=omega) only[go_sem];exact W _ _ _ _ nofun rfl (by simp[U])
 | false =>
 simp only[Bool.not_true,Bool.or_self,Al7,if_false]at U;cases has with
 | true =>simp(disch:=omega) only[go_sem];refine za ad ?_;simp(disch:=omega) only[go_sem];refine za Y ?_;simp(disch:=omega) only[go_sem];exact W _ _ _ _ nofun rfl (by simp[U])
 | false =>
 cases ab with
 | false =>simp(disch:=omega) only[go_sem];exact W _ _ _ _ nofun rfl (by simp[U])
 | true =>
 by_cases Z:k=0
 ·have ag:=eq_true Z;simp(disch:=omega) only[ag,go_sem];exact W _ _ _ _ nofun rfl (by simp[U,Z])
 ·simp(disch:=omega) only[Z,go_sem];refine za ad ?_;simp(disch:=omega) only[go_sem];refine za Y ?_;simp(disch:=omega) only[go_sem];exact W _ _ _ _ nofun rfl (by simp[U,Z])
def zjO(d:DocD)(sels:List SelD):(ZL d sels).length<=d.frags.length:=by
 have h:∀(R:List (List UInt8)) (A:List FragD) (a:List (List UInt8)),(A.foldl (Zr R) a).length<=a.length+A.length:=by
  intro R A;induction A with
  | nil=>simp
  | cons f A I =>
   intro a;have:=I (Zr R a f);have J:(Zr R a f).length<=a.length+1:=by unfold Zr;split<;>simp
   simp only[List.foldl_cons,Al2];omega
 have:=h (Zl d sels) d.frags [];simpa[ZL]using this
noncomputable def zjD(s:SchD)(d:DocD)(n:List UInt8):List SpotD:=Y5 s ((yt d n).getD zFr).sels ((yt d n).getD zFr).on
noncomputable def zjx(s:SchD)(d:DocD)(o:OpD):List SpotD:=Y5 s o.sels (YT s o)++(ZL d o.sels).flatMap (zjD s d)
def zt0(d:DocD)(n:List UInt8):bSs ((yt d n).getD zFr).sels<=bFs d.frags:=by
 cases h:yt d n with
 | none=>simp[zFr,bSs]
 | some f=>exact Nat.le_trans (zaI f) (zcj (List.mem_of_find?_eq_some h))
def zk3(s:SchD)(d:DocD)(I:zJ s<=Lim)(U:zw d<=Lim):∀l:List (List UInt8),(l.flatMap (zjD s d)).length<=l.length*zw d/\∀y∈l.flatMap (zjD s d),y.t.nm.length<=Lim
 | []=>by simp
 | n::r=>by
  have Y:=zt0 d n;have X:bFs d.frags<=zw d:=by simp only[zw];omega
  have J:=zeN s I ((yt d n).getD zFr).sels ((yt d n).getD zFr).on (by omega);have A:=zk3 s d I U r;rw[List.flatMap_cons,Al2,Nat.add_mul,Nat.one_mul];refine⟨by rw[Al5];simp only[zjD]at A ⊢;omega,λy W=>?_⟩;rcases List.mem_append.1 W with h|h
  ·exact J.2 y h
  ·exact A.2 y h
def zuH(s:SchD)(d:DocD)(o:OpD)(A:zJ s<=Lim)(U:zw d<=Lim)(ho:bSs o.sels<=zw d):(zjx s d o).length<=zw d+lenD d*zw d/\∀y∈zjx s d o,y.t.nm.length<=Lim:=by
 have I:=zeN s A o.sels (YT s o) (by omega);have J:=zk3 s d A U (ZL d o.sels);have Y:=zjO d o.sels;have Z:=yC d.frags;have X:bFs d.frags<=zw d:=by simp only[zw];omega
 have aa:(ZL d o.sels).length*zw d<=lenD d*zw d:=Nat.mul_le_mul_right _ (by simp only[lenD];omega);refine⟨by rw[zjx,Al5];omega,λy W=>?_⟩;rcases List.mem_append.1 W with h|h
 ·exact I.2 y h
 ·exact J.2 y h
def zAZ(s:SchD)(d:DocD)(o:OpD)(H:zb)(ab:zJ s<=Lim)(ai:y8 d<=Lim)(b3:lenD d*zw d+zw d<=1099511627776)(ho:bSs o.sels<=zw d):YG Tryz.prog 163 [.agg (zm s),.agg (zU d),.agg (cO o)] H .nil 5 (cPs (zjx s d o)):=by
 have a9:=ai;simp only[y8,Lim]at a9;have aj:zw d<=Lim:=by simp only[Lim];omega
 have bw:bFs d.frags<=zw d:=by simp only[zw];omega
 have b5:=yC d.frags;have an:=zuw s o;have ad:=λl typ H (h:bSs l<=zw d)=>zzo s ab (zw d) l typ H h aj;have aa:=λH=>ztS d o.sels H ai ho;have b7:=zjO d o.sels;have ak:=λn=>znl d n (by simp only[Lim];omega);have be:=λn=>zt0 d n;have am:=zk3 s d ab aj;have bh:=(zeN s ab o.sels (YT s o) (by omega)).1;have ah:zjx s d o=Y5 s o.sels (YT s o)++(ZL d o.sels).flatMap (zjD s d):=rfl;have ay:∀n,zjD s d n=Y5 s ((yt d n).getD zFr).sels ((yt d n).getD zFr).on:=λ_=>rfl;have b6:(ZL d o.sels).length*zw d<=lenD d*zw d:=Nat.mul_le_mul_right _ (by simp only[lenD];omega);generalize zjx s d o=F at *
 generalize YT s o=aq at *
 generalize ZL d o.sels=R at *
 obtain⟨k,nm,vs,ds,sels⟩:=o;simp only at bh ah ho aa;generalize a7:Y5 s sels aq=J at *
 generalize bx:zw d=B at *
 have ba:zU d=[.sl .no 5 (cOs d.ops),.sl .no 4 (cFs d.frags)]:=rfl;obtain⟨ar,au,sm⟩:=s;generalize a6:(⟨ar,au,sm⟩:SchD)=s at *
 have bc:zm s=[.sl .no 6 (cEs ar),.str au,.str sm]:=by rw[<-a6];rfl
 simp only[bc,ba,zam]at an ad aa ak ⊢;have ae:=zG R;refine zd.goO ir163.1 ir163.2 (Al4 _) λKP Q a5 bz=>?_;have fin:∀r o,F=r->∀ρ H1,zo ρ H1 ir163.1.res=some [.sl o 5 (cPs r)]->OwnS H .nil H1 o r.length 5->Q .ret ρ H1:=λr o e ρ H1 a2 a3=>a5 _ ρ H1 H1 _ nofun a2 (Low.refl _) ⟨o,by rw[e];rfl,by rw[e,ye];exact a3⟩;simp(disch:=omega) only[ir163,go_sem];refine za an ?_;simp(disch:=omega) only[go_sem];refine zx (ad sels aq _ ho) λbp H1 ac=>?_;rw[a7]at ac ⊢;rw[ye]at ac;simp(disch:=omega) only[go_sem];refine zx (aa _) λb9 br bj=>?_;have bn:=YS ac bj;simp(disch:=omega) only[ae,go_sem];refine zf R 24 (λx:Own×List SpotD=>[(7,.sl x.1 5 (cPs x.2))]) (λdone rest x H'=>x.2=J++done.flatMap (zjD s d)/\OwnS H .nil H' x.1 x.2.length 5) (bp,J) (by simp(disch:=omega) only[go_sem]) ⟨by simp,bn⟩ ?_ ?_
 ·rintro⟨af,a⟩ ag aw ⟨A,I⟩ Y;simp only at A;subst A;simp(disch:=omega) only[ae,Y,go_sem];exact fin _ af ah _ _ rfl I
 ·rintro done x rest ⟨af,a⟩ ag aw bd Y _ ⟨A,I⟩ a4;have bg:=YP bd;have al:=ak x;have bf:=be x;have az:=ay x;simp only at A;replace I:OwnS H .nil ag af a.length 5:=I;have b1:=(am done).1;have b4:done.length*B<=R.length*B:=Nat.mul_le_mul_right _ (by omega);have X:=(am [x]).1;simp only[List.flatMap_cons,List.flatMap_nil,List.append_nil,Al2,Al3,Nat.zero_add,Nat.one_mul]at X;have Z:J++(done++[x]).flatMap (zjD s d)=a++zjD s d x:=by rw[List.flatMap_append,A];simp[ZP]
  have b2:a.length=J.length+(done.flatMap (zjD s d)).length:=by rw[A,Al5]
  rw[az]at X Z;generalize (yt d x).isSome=bv at *
  generalize (yt d x).getD zFr=f at *
  obtain⟨a1,U,a0,W⟩:=f;rw[Yp]at al;simp only at bf X Z;have bl:=λH=>ad W U H (by omega);generalize Y5 s W U=ax at *
  simp(disch:=omega) only[ae,Y,bg,go_sem];refine za al ?_;simp(disch:=omega) only[go_sem];refine zc λbu a8=>?_;have bo:=I.upd (x:=.cells [.str a1,.str U,.sl .no 2 (cDs a0),.sl .no 7 (cSs W)]) a8;simp(disch:=omega) only[go_sem];refine zx (bl _) λb8 bt bk=>?_;have ap:=YS bo bk;simp(disch:=omega) only[go_sem];refine zj (by rw[ye];exact ap.own) ?_ ?_ λbq av ao=>?_
  ·simp only[ye];omega
  ·simp only[ye,maxLen];omega
  simp only[ye]at ao;simp(disch:=omega) only[wrap64,zde,go_sem];exact goJ (a4 (bq,a++ax) av ⟨Z.symm,by rw[Al5];exact ap.trans ao⟩) (by simp(disch:=omega) only[wrap64,go_sem])
noncomputable def zjG(s:SchD)(ps:List VarD)(l:List Mem):Bool:=l.all λm=>match m with|.mk n v=>match ya ps n with|none=>true|some p=>ZN s p.t v
def zAn(s:SchD)(ps:List VarD)(l:List Mem)(au:zJ s<=Lim)(U:bWs ps<=Lim)(an:bMs l<=Lim):ze Tryz.prog 162 [.sl .no 10 (cWs ps),.sl .no 6 (cMs l),.view (zm s)] (.bool (zjG s ps l)):=by
 have ba:=Zg l;have W:=yU l;have a7:=yJ ps;have ao:=an;simp only[Lim]at ao;have aq:=λn=>zf4 ps n (by omega);have af:∀n x,Mem.mk n x∈l->∀p,ya ps n=some p->ze Tryz.prog 161 [.agg (zm s),.agg (cTy p.t),.agg (cV x)] (.bool (ZN s p.t x)):=λn x aw p U=>by
  have ax:bV x<=Lim:=by have:=zgp aw;omega
  have I:p∈ps:=List.mem_of_find?_eq_some U;have ar:p.t.nm.length<=Lim:=by have:=YL I;simp only[bW]at this;omega
  exact zhj s p.t x au ax ar
 have av:∀n v r,zjG s ps (.mk n v::r)=((match ya ps n with|none=>true|some p=>ZN s p.t v)&&zjG s ps r):=λn v r=>by simp only[zjG,List.all_cons]
 have al:zjG s ps []=true:=rfl;generalize a8:zjG s ps=R at *
 obtain⟨ah,ai,sm⟩:=s;generalize am:(⟨ah,ai,sm⟩:SchD)=s at *
 have ap:zm s=[.sl .no 6 (cEs ah),.str ai,.str sm]:=by rw[<-am];rfl
 simp only[ap]at af ⊢;refine ze.go ir162.1 ir162.2 (Al4 _) λKP Q ab=>?_;simp(disch:=omega) only[ir162,W,go_sem];refine zf l 12 (λ_:Unit=>[]) (λdone rest _ H=>R rest=R l) () (by simp(disch:=omega) only[go_sem]) rfl ?_ ?_
 ·rintro _ H aj A X;rw[al]at A;simp(disch:=omega) only[W,X,go_sem];exact ab _ _ _ _ nofun rfl (by simp[<-A])
 ·rintro done x rest _ H aj ad X _ A aa;have ae:=Zz ad;have ay:x∈l:=by rw[ad];simp
  obtain⟨Y,⟨a3,a6,xs,a4,a5⟩⟩:=x;have U:=aq Y;have J:=af Y _ ay;rw[av]at A;rw[zu,yj]at ae;simp(disch:=omega) only[W,X,ae,go_sem];refine zc λak a9=>?_;simp(disch:=omega) only[go_sem];refine za U ?_;cases I:ya ps Y with
  | none =>rw[I]at A;simp(disch:=omega) only[Option.getD,Option.isSome,zW,zV,z7,go_sem];refine zc λZ ac=>?_;simp(disch:=omega) only[go_sem];exact goJ (aa () _ (by simpa using A)) (by simp(disch:=omega) only[wrap64,go_sem])
  | some p =>
   rw[I]at A;replace J:=J p I;obtain⟨bd,⟨az,a0,a1⟩,bc,⟨be,bh,bj,bf,bg⟩⟩:=p;simp only[cTy,yj]at J A;generalize ZN s ⟨az,a0,a1⟩ (.mk a3 a6 xs a4 a5)=a2 at *
   simp(disch:=omega) only[Option.getD,Option.isSome,z7,go_sem];refine zc λZ ac=>?_;have ag:ak≠Z:=λe=>by subst e;simp[zb.upd]at ac
   simp(disch:=omega) only[ag,Ne.symm ag,go_sem];refine za J ?_;cases a2 with
   | false =>simp(disch:=omega) only[go_sem];exact ab _ _ _ _ nofun rfl (by simp[<-A])
   | true =>simp(disch:=omega) only[go_sem];exact goJ (aa () _ (by simpa using A)) (by simp(disch:=omega) only[wrap64,go_sem])
noncomputable def zoc(s:SchD)(l:List VarD):Bool:=l.all λv=>!v.has||ZN s v.t v.d
noncomputable def zgE(s:SchD)(d:DocD):Bool:=(d.ops.all λo=>zoc s o.vars)&&Yr s d (zfs s (zjG s))
def zrP(s:SchD)(d:DocD)(Z:zJ s<=Lim)(ae:zw d<=Lim):ze Tryz.prog 79 [.agg (zm s),.agg (zU d)] (.bool (zgE s d)):=by
 have am:=zgm s d 162 [.view (zm s)] (zjG s) Z ae ⟨by kernel_rfl,λps l a6 a4=>zAn s ps l Z a6 a4⟩;have af:=ae;simp only[Lim,zw]at af;have a5:=Zu d.ops;have W:=Z9 d.ops;have aj:∀o∈d.ops,∀v∈o.vars,ze Tryz.prog 161 [.agg (zm s),.agg (cTy v.t),.agg (cV v.d)] (.bool (ZN s v.t v.d)):=λo ho v a7=>by obtain⟨a,b,J⟩:=List.append_of_mem ho;have:=YW a o b;rw[<-J]at this;have ab:=YL a7;simp only[bO]at this;simp only[bW]at ab;exact zhj s v.t v.d Z (by simp only[Lim];omega) (by simp only[Lim];omega)
 have al:∀o∈d.ops,o.vars.length<=1099511627776:=λo ho=>by obtain⟨a,b,J⟩:=List.append_of_mem ho;have:=YW a o b;rw[<-J]at this;have ab:=yJ o.vars;simp only[bO]at this;omega
 have U:zgE s d=((d.ops.all λo=>zoc s o.vars)&&Yr s d (zfs s (zjG s))):=rfl;have az:∀v r,zoc s (v::r)=((!v.has||ZN s v.t v.d)&&zoc s r):=λv r=>by simp only[zoc,List.all_cons]
 have a0:zoc s []=true:=rfl;generalize zgE s d=F at *
 generalize Yr s d (zfs s (zjG s))=bv at *
 generalize zoc s=R at *
 obtain⟨ops,frags⟩:=d;obtain⟨ap,aq,sm⟩:=s;generalize ay:(⟨ap,aq,sm⟩:SchD)=s at *
 have a2:zm s=[.sl .no 6 (cEs ap),.str aq,.str sm]:=by rw[<-ay];rfl
 have a1:zU ⟨ops,frags⟩=[.sl .no 5 (cOs ops),.sl .no 4 (cFs frags)]:=rfl;simp only[a2,a1]at am aj W al U a5 af ⊢;refine ze.go ir79.1 ir79.2 (Al4 _) λKP Q ad=>?_;simp(disch:=omega) only[ir79,W,go_sem];refine zf ops 12 (λ_:Unit=>[]) (λdone rest _ H=>(rest.all λo=>R o.vars)=ops.all λo=>R o.vars) () (by simp(disch:=omega) only[go_sem]) rfl ?_ ?_
 ·rintro _ H av A X;rw[<-A]at U;simp(disch:=omega) only[W,X,go_sem];refine za am ?_;simp(disch:=omega) only[go_sem];exact ad _ _ _ _ nofun rfl (by simp[U])
 ·rintro done x rest _ H av J X _ A ax;have ah:=YJ J;have ao:x∈ops:=by rw[J];simp
  have ak:=aj x ao;have a8:=al x ao;rw[List.all_cons]at A;obtain⟨k,nm,vs,ds,bt⟩:=x;simp only at ak A a8;have aa:=Zk vs;rw[zam]at ah;simp(disch:=omega) only[W,X,ah,go_sem];refine zc λbl bp=>?_;simp(disch:=omega) only[aa,go_sem];refine zf vs 19 (λ_:Unit=>[]) (λdone rest _ H=>R rest=R vs) () (by simp(disch:=omega) only[go_sem]) rfl ?_ ?_
  ·rintro _ au aw I Y;rw[a0]at I;rw[<-I,Bool.true_and]at A;simp(disch:=omega) only[aa,Y,go_sem];exact goJ (ax () _ A) (by simp(disch:=omega) only[wrap64,go_sem])
  ·rintro bo ar br _ au aw ag Y _ I ac;have ai:=Ya ag;have an:=ak ar (by rw[ag];simp);rw[az]at I;obtain⟨bu,⟨a9,ba,bc⟩,bd,⟨bf,bj,bk,bg,bh⟩⟩:=ar;simp only[cTy,yj]at an I;generalize ZN s ⟨a9,ba,bc⟩ (.mk bf bj bk bg bh)=be at *
   rw[z7]at ai;simp(disch:=omega) only[aa,Y,ai,go_sem];refine zc λbn bq=>?_;cases bd with
   | false =>simp(disch:=omega) only[go_sem];exact goJ (ac () _ (by simpa using I)) (by simp(disch:=omega) only[wrap64,go_sem])
   | true =>
    simp(disch:=omega) only[go_sem];refine za an ?_;cases be with
    | true =>simp(disch:=omega) only[go_sem];exact goJ (ac () _ (by simpa using I)) (by simp(disch:=omega) only[wrap64,go_sem])
    | false =>
     have a3:R vs=false:=by rw[<-I];rfl
     rw[a3,Bool.false_and]at A;rw[<-A]at U;simp(disch:=omega) only[go_sem];exact ad _ _ _ _ nofun rfl (by simp[U])
def zrx(vs:List VarD)(x:SpotD):Bool:=match ya vs x.nm with|none=>false|some v=>zg8 v x.t x.has
noncomputable def zvX(s:SchD)(d:DocD)(o:OpD):Bool:=(zjx s d o).all (zrx o.vars)
noncomputable def zt6(s:SchD)(d:DocD):Bool:=d.ops.all (zvX s d)
def zBz(s:SchD)(d:DocD)(a2:zJ s<=Lim)(av:y8 d<=Lim)(bo:lenD d*zw d+zw d<=1099511627776):ze Tryz.prog 80 [.agg (zm s),.agg (zU d)] (.bool (zt6 s d)):=by
 have bp:=av;simp only[y8,Lim]at bp;have bq:zw d<=Lim:=by simp only[Lim];omega
 have b4:bOs d.ops<=zw d:=by simp only[zw];omega
 have b7:=Zu d.ops;have ao:=Z9 d.ops;have ae:∀o∈d.ops,bO o<=zw d:=λo ho=>by obtain⟨a,b,ac⟩:=List.append_of_mem ho;have:=YW a o b;rw[<-ac]at this;omega
 have a3:=λ(o:OpD) (ho:o∈d.ops) (H:zb)=>zAZ s d o H a2 av bo (by have:=ae o ho;simp only[bO]at this;omega);have a1:=λ(o:OpD) (ho:o∈d.ops)=>zuH s d o a2 bq (by have:=ae o ho;simp only[bO]at this;omega);have bu:=λ(o:OpD) (ho:o∈d.ops) n=>zpX o n (by have:=ae o ho;have:=yJ o.vars;simp only[bO]at *;omega);have bn:∀o∈d.ops,∀x∈zjx s d o,∀v,ya o.vars x.nm=some v->ze Tryz.prog 164 [.agg (cW v),.agg (cTy x.t),.bool x.has] (.bool (zg8 v x.t x.has)):=λo ho x b1 v bx=>by have bz:v∈o.vars:=List.mem_of_find?_eq_some bx;have bf:=YL bz;have bg:=ae o ho;simp only[bO]at bg;simp only[bW]at bf;exact zzm v x.t x.has (by omega) ((a1 o ho).2 x b1)
 have Y:zt6 s d=d.ops.all (zvX s d):=rfl;have be:∀o,zvX s d o=(zjx s d o).all (zrx o.vars):=λ_=>rfl;generalize zt6 s d=F at *
 generalize zvX s d=ag at *
 generalize zjx s d=bd at *
 generalize b3:zw d=B at *
 have br:zU d=[.sl .no 5 (cOs d.ops),.sl .no 4 (cFs d.frags)]:=rfl;obtain⟨a6,a7,sm⟩:=s;generalize bk:(⟨a6,a7,sm⟩:SchD)=s at *
 have bt:zm s=[.sl .no 6 (cEs a6),.str a7,.str sm]:=by rw[<-bk];rfl
 simp only[bt,br]at a3 ⊢;refine ze.go ir80.1 ir80.2 (Al4 _) λKP Q ai=>?_;simp(disch:=omega) only[ir80,ao,go_sem];refine zf d.ops 15 (λ_:Unit=>[(5,.bool true)]) (λdone rest _ H=>rest.all ag=d.ops.all ag) () (by simp(disch:=omega) only[go_sem]) rfl ?_ ?_
 ·rintro _ H ba A al;rw[<-A]at Y;simp(disch:=omega) only[ao,al,go_sem];exact ai _ _ _ _ nofun rfl (by simp[Y])
 ·rintro done x rest _ H ba ac al _ A bh;have ay:=YJ ac;have af:x∈d.ops:=by rw[ac];simp
  have a4:=a3 x af;have b6:=(a1 x af).1;have ak:=bu x af;have au:=bn x af;have Z:=be x;rw[List.all_cons]at A;generalize bd x=L at *
  have ap:=ye L;obtain⟨k,nm,vs,ds,aq⟩:=x;simp only at au Z ak;generalize ag ⟨k,nm,vs,ds,aq⟩=a at *
  rw[zam]at ay ak a4;simp(disch:=omega) only[ao,al,ay,go_sem];refine zc λab b5=>?_;simp(disch:=omega) only[go_sem];refine zx (a4 _) λb8 a8 bw=>?_;have I:a8 ab=some (.cells [.int .i64 k,.str nm,.sl .no 10 (cWs vs),.sl .no 2 (cDs ds),.sl .no 7 (cSs aq)]):=bw.kept ab _ (upd_same ..) (λd e=>by cases e);simp(disch:=omega) only[ap,go_sem];refine zf L 24 (λ_:Unit=>[(5,.bool true)]) (λdone rest _ H=>rest.all (zrx vs)=L.all (zrx vs)/\H ab=some (.cells [.int .i64 k,.str nm,.sl .no 10 (cWs vs),.sl .no 2 (cDs ds),.sl .no 7 (cSs aq)])) () (by simp(disch:=omega) only[go_sem]) ⟨rfl,I⟩ ?_ ?_
  ·rintro _ a9 bc ⟨J,I⟩ am;have bl:a=true:=by rw[Z,<-J];rfl
   rw[bl,Bool.true_and]at A;simp(disch:=omega) only[ap,am,go_sem];exact goJ (bh () _ A) (by simp(disch:=omega) only[wrap64,go_sem])
  ·rintro b2 X cd _ a9 bc ax am _ ⟨J,I⟩ bj;have az:=zvZ ax;have aa:=au X (by rw[ax];simp);rw[List.all_cons]at J;have U:zrx vs X=match ya vs X.nm with|none=>false|some v=>zg8 v X.t X.has:=rfl
   generalize zrx vs X=y at *
   obtain⟨a5,⟨b9,ca,cb⟩,cc⟩:=X;simp only[cP]at az;simp only[cTy]at aa U;have bv:=ak a5;simp(disch:=omega) only[ap,am,az,go_sem];refine zc λar aw=>?_;have W:ab≠ar:=λe=>by subst e;rw[I]at aw;cases aw
   simp(disch:=omega) only[I,W,Ne.symm W,go_sem];refine za bv ?_;cases an:ya vs a5 with
   | none =>rw[an]at U;simp only at U;rw[U,Bool.false_and]at J;rw[<-J]at Z;rw[Z,Bool.false_and]at A;rw[<-A]at Y;simp(disch:=omega) only[Option.getD,Option.isSome,zW,zV,z7,go_sem];refine zc λah aj=>?_;simp(disch:=omega) only[go_sem];exact ai _ _ _ _ nofun rfl (by simp[Y])
   | some v =>
    rw[an]at U;replace aa:=aa v an;simp only at U;rw[<-U]at aa;obtain⟨ci,⟨ce,cf,cg⟩,ch,⟨cj,cm,cn,ck,cl⟩⟩:=v;rw[z7]at aa;simp(disch:=omega) only[Option.getD,Option.isSome,z7,go_sem];refine zc λah aj=>?_;have ad:ab≠ah:=λe=>by subst e;simp[zb.upd,W,I]at aj
    have a0:ar≠ah:=λe=>by subst e;simp[zb.upd]at aj
    simp(disch:=omega) only[I,W,Ne.symm W,ad,Ne.symm ad,a0,Ne.symm a0,go_sem];refine za aa ?_;cases y with
    | true =>simp(disch:=omega) only[go_sem];exact goJ (bj () _ ⟨by simpa using J,by simp(disch:=omega) only[I,W,Ne.symm W,ad,Ne.symm ad,go_sem]⟩) (by simp(disch:=omega) only[wrap64,go_sem])
    | false =>rw[Bool.false_and]at J;rw[<-J]at Z;rw[Z,Bool.false_and]at A;rw[<-A]at Y;simp(disch:=omega) only[go_sem];exact ai _ _ _ _ nofun rfl (by simp[Y])
noncomputable def zgD(s:SchD)(d:DocD)(n:Int):Bool:=if n=22 then zgE s d else if n=23 then zt6 s d else false
def zwe(s:SchD)(d:DocD)(n:Int)(W:zJ s<=Lim)(U:y8 d<=Lim)(Z:lenD d*zw d+zw d<=1099511627776):ze Tryz.prog 34 [.agg (zm s),.agg (zU d),.int .i64 n] (.bool (zgD s d n)):=by
 have aa:=U;simp only[y8,Lim]at aa;have X:=zrP s d W (by simp only[Lim];omega);have Y:=zBz s d W U Z;unfold zgD;generalize zgE s d=ae at *
 generalize zt6 s d=af at *
 have ab:zU d=[.sl .no 5 (cOs d.ops),.sl .no 4 (cFs d.frags)]:=rfl;obtain⟨ac,ad,sm⟩:=s;simp only[zm,ab]at X Y ⊢;refine ze.go ir34.1 ir34.2 (Al4 _) λKP Q J=>?_;by_cases A:n=22
 ·subst A;simp(disch:=omega) only[ir34,go_sem];refine za X ?_;simp(disch:=omega) only[go_sem];exact J _ _ _ _ nofun rfl (by simp )
 by_cases I:n=23
 ·subst I;simp(disch:=omega) only[ir34,go_sem];refine za Y ?_;simp(disch:=omega) only[go_sem];exact J _ _ _ _ nofun rfl (by simp )
 simp(disch:=omega) only[ir34,A,I,go_sem];exact J _ _ _ _ nofun rfl (by simp[A,I])
inductive ItD where
 | mk (no:Nat) (x:SelD) (typ:List UInt8) (sub:List ItD)
mutual
def cIt:ItD->List AV| .mk no (.mk k al nm args dirs on sels) typ sub=>[.int .i64 no,.int .i64 k,.str al,.str nm,.sl .no 6 (cMs args),.sl .no 2 (cDs dirs),.str on,.sl .no 7 (cSs sels),.str typ,.sl .no 10 (yx sub)]
def yx:List ItD->List (List AV)
 | []=>[]
 | x::r=>cIt x::yx r
end
def ZG(no:Nat)(k:Int)(A nm:List UInt8)(args:List Mem)(dirs:List DirD)(on:List UInt8)(sels:List SelD)(typ:List UInt8)(sub:List ItD): cIt (.mk no (.mk k A nm args dirs on sels) typ sub)=[.int .i64 no,.int .i64 k,.str A,.str nm,.sl .no 6 (cMs args),.sl .no 2 (cDs dirs),.str on,.sl .no 7 (cSs sels),.str typ,.sl .no 10 (yx sub)]:=by rw[cIt]
def zbE:∀l,yx l=l.map cIt
 | []=>by simp[yx]
 | v::r=>by rw[yx,zbE r];rfl
def YI(l:List ItD):(yx l).length=l.length:=by rw[zbE];simp
def zcG{l a:List ItD}{x:ItD}{b:List ItD}(h:l=a++x::b):(yx l).getD a.length []=cIt x:=by rw[zbE,yz h]
def zqA(x:ItD):(cIt x).map AV.strip1=cIt x:=by obtain⟨no,⟨k,A,nm,args,dirs,on,sels⟩,typ,sub⟩:=x;rw[ZG];rfl
def zfM(l:List ItD):(yx l).map (·.map AV.strip1)=yx l:=by rw[zbE,List.map_map];exact List.map_congr_left λv _=>zqA v
def zeC(a b:List ItD):yx a++yx b=yx (a++b):=by simp only[zbE,List.map_append]
def znL(x:ItD):yx [x]=[cIt x]:=by rw[zbE];rfl
def ItD.sub:ItD->List ItD|.mk _ _ _ s=>s
def ItD.x:ItD->SelD|.mk _ x _ _=>x
def ItD.args:ItD->List Mem|.mk _ (.mk _ _ _ a _ _ _) _ _=>a
def ItD.no:ItD->Nat|.mk n _ _ _=>n
def ItD.typ:ItD->List UInt8|.mk _ _ t _=>t
def SelD.k:SelD->Int|.mk k _ _ _ _ _ _=>k
def SelD.nm:SelD->List UInt8|.mk _ _ n _ _ _ _=>n
def SelD.sels:SelD->List SelD|.mk _ _ _ _ _ _ s=>s
mutual
def itS(s:SchD):SelD->List UInt8->Nat->ItD×Nat
 | .mk k al nm args dirs on sels,typ,no =>
  let r:=Zv s sels (y7 s typ (.mk k al nm args dirs on sels)) (no+1)
  (.mk (no+1) (.mk k al nm args dirs on sels) typ r.1,r.2)
def Zv(s:SchD):List SelD->List UInt8->Nat->List ItD×Nat
 | [],_,no=>([],no)
 | x::r,typ,no=>((itS s x typ no).1::(Zv s r typ (itS s x typ no).2).1,(Zv s r typ (itS s x typ no).2).2)
end
mutual
def zyo(s:SchD):∀(x:SelD) (typ:List UInt8) (no:Nat),(itS s x typ no).2<=no+bS x| .mk k al nm args dirs on sels,typ,no=>by have:=ze9 s sels (y7 s typ (.mk k al nm args dirs on sels)) (no+1);simp only[itS,bS];omega
def ze9(s:SchD):∀(l:List SelD) (typ:List UInt8) (no:Nat),(Zv s l typ no).2<=no+bSs l
 | [],typ,no=>by simp[Zv]
 | x::r,typ,no=>by have A:=zyo s x typ no;have I:=ze9 s r typ (itS s x typ no).2;simp only[Zv,bSs];omega
end
def znt(s:SchD):∀(l:List SelD) (typ:List UInt8) (no:Nat),(Zv s l typ no).1.length=l.length
 | [],_,_=>rfl
 | x::r,typ,no=>by simp only[Zv,Al2];rw[znt s r]
def frL(fr:List (List UInt8×List ItD))(n:List UInt8):List ItD:=((fr.find? λe=>decide (n=e.1)).map (·.2)).getD []
def zbM(g:List ItD->List (List UInt8)->List ItD×List (List UInt8))(fr:List (List UInt8×List ItD))(acc:List ItD×List (List UInt8)):ItD->List ItD×List (List UInt8)
 | .mk no (.mk k al nm args dirs on sels) typ sub =>
  if k=0 then (acc.1++[.mk no (.mk k al nm args dirs on sels) typ sub],acc.2)
  else if k=2 then (acc.1++(g sub acc.2).1,(g sub acc.2).2)
  else if k=1/\yo nm acc.2=false then (acc.1++(g (frL fr nm) (acc.2++[nm])).1,(g (frL fr nm) (acc.2++[nm])).2)
  else acc
def flF(fr:List (List UInt8×List ItD)):Nat->List ItD->List (List UInt8)->List ItD×List (List UInt8)
 | 0,_,seen=>([],seen)
 | n+1,l,seen=>l.foldl (zbM (flF fr n) fr) ([],seen)
inductive Ex (fr:List (List UInt8×List ItD)):Nat->List ItD->Prop
 | nil (n:Nat):Ex fr n []
 | cons {n i j m no:Nat} {k:Int} {al nm:List UInt8} {args:List Mem} {dirs:List DirD} {on:List UInt8} {sels:List SelD} {typ:List UInt8} {sub r:List ItD} (hle:i+j+m+1<=n)
  (h1:Ex fr i sub) (h2:k=1->Ex fr j (frL fr nm)) (h3:Ex fr m r) (ha:bMs args<=Lim):Ex fr n (.mk no (.mk k al nm args dirs on sels) typ sub::r)
def Ex.mono{fr:List (List UInt8×List ItD)}{n m:Nat}{l:List ItD}(h:Ex fr n l)(X:n<=m):Ex fr m l:=by
 cases h with
 | nil=>exact .nil _
 | cons W A I J U=>exact .cons (by omega) A I J U
def Ex.zero{fr:List (List UInt8×List ItD)}{l:List ItD}(h:Ex fr 0 l):l=[]:=by
 cases h with
 | nil=>rfl
 | cons W A I J U=>omega
def Ex.pre{fr:List (List UInt8×List ItD)}{b:List ItD}:∀ {a:List ItD} {n:Nat},Ex fr n (a++b)->Ex fr n a
 | [],_,_=>.nil _
 | x::a,n,h=>by
  cases h with
  | cons W A I J U=>exact .cons W A I (Ex.pre J) U
def Ex.mid{fr:List (List UInt8×List ItD)}{no:Nat}{k:Int}{U nm:List UInt8}{args:List Mem}{dirs:List DirD}{on:List UInt8}{sels:List SelD}{typ:List UInt8}{sub b:List ItD}:∀ {a:List ItD} {n:Nat},
  Ex fr n (a++.mk no (.mk k U nm args dirs on sels) typ sub::b)->∃i j,i+j+1<=n/\Ex fr i sub/\(k=1->Ex fr j (frL fr nm))
 | [],n,h=>by
  cases h with
  | cons Z A I J Y=>exact⟨_,_,by omega,A,I⟩
 | x::a,n,h=>by
  cases h with
  | cons Z A I J Y =>obtain⟨i,j,aa,W,X⟩:=Ex.mid J;exact⟨i,j,by omega,W,X⟩
def Ex.sub{fr:List (List UInt8×List ItD)}{n:Nat}{l:List ItD}(h:Ex fr (n+1) l){y:ItD}(I:y∈l):Ex fr n y.sub:=by obtain⟨a,b,e⟩:=List.append_of_mem I;obtain⟨no,⟨k,J,nm,args,dirs,on,sels⟩,typ,sub⟩:=y;rw[e]at h;obtain⟨i,j,U,A,_⟩:=Ex.mid h;exact A.mono (by omega)
def zg5{fr:List (List UInt8×List ItD)}{n f:Nat}{l:List ItD}{seen:List (List UInt8)}(h:Ex fr n l)(A:n<=f):flF fr f l seen=l.foldl (zbM (flF fr (f-1)) fr) ([],seen):=by
 cases f with
 | zero =>
  obtain rfl:n=0:=by omega
  rw[h.zero];rfl
 | succ f=>rfl
def ztt{fr:List (List UInt8×List ItD)}:∀n:Nat,∀(l:List ItD),Ex fr n l->∀(f:Nat),n<=f->∀acc:List ItD×List (List UInt8),
  (l.foldl (zbM (flF fr (f-1)) fr) acc).1.length<=acc.1.length+n/\∀y∈(l.foldl (zbM (flF fr (f-1)) fr) acc).1,y∈acc.1∨∃m,m<n/\Ex fr m y.sub/\bMs y.args<=Lim:=by
 intro n;induction n using Nat.strongRecOn with
 | _ n U =>
 intro l h f aa acc;cases h with
 | nil=>exact⟨by simp,λy A=>.inl A⟩
 | @cons _ i j m no k al nm args dirs on sels typ sub r hle h1 h2 h3 ha =>
  rw[List.foldl_cons];have Z:(zbM (flF fr (f-1)) fr acc (.mk no (.mk k al nm args dirs on sels) typ sub)).1.length<=acc.1.length+(i+j+1) /\
    ∀y∈(zbM (flF fr (f-1)) fr acc (.mk no (.mk k al nm args dirs on sels) typ sub)).1,y∈acc.1∨∃m,m<n/\Ex fr m y.sub/\bMs y.args<=Lim:=by
   simp only[zbM];split
   ·refine⟨by simp only[Al5,Al2,Al3];omega,λy A=>?_⟩;rcases List.mem_append.1 A with h|h
    ·exact .inl h
    ·simp only[List.mem_singleton]at h;subst h;exact .inr ⟨i,by omega,h1,ha⟩
   ·split
    ·rw[zg5 h1 (by omega)];have:=U i (by omega) sub h1 (f-1) (by omega) ([],acc.2);simp only[Al3,List.not_mem_nil,false_or]at this;refine⟨by rw[Al5];omega,λy A=>?_⟩;rcases List.mem_append.1 A with h|h
     ·exact .inl h
     ·obtain⟨J,W,I⟩:=this.2 y h;exact .inr ⟨J,by omega,I⟩
    ·split
     ·rename_i Y;have X:=h2 Y.1;rw[zg5 X (by omega)];have:=U j (by omega) _ X (f-1) (by omega) ([],acc.2++[nm]);simp only[Al3,List.not_mem_nil,false_or]at this;refine⟨by rw[Al5];omega,λy A=>?_⟩;rcases List.mem_append.1 A with h|h
      ·exact .inl h
      ·obtain⟨J,W,I⟩:=this.2 y h;exact .inr ⟨J,by omega,I⟩
     ·exact⟨by omega,λy A=>.inl A⟩
  have hr:=U m (by omega) r h3 f (by omega) (zbM (flF fr (f-1)) fr acc (.mk no (.mk k al nm args dirs on sels) typ sub));refine⟨by omega,λy A=>?_⟩;rcases hr.2 y A with h|⟨J,W,I⟩
  ·exact Z.2 y h
  ·exact .inr ⟨J,by omega,I⟩
def zhY{fr:List (List UInt8×List ItD)}{n f:Nat}{l:List ItD}{seen:List (List UInt8)}(h:Ex fr n l)(A:n<=f):(flF fr f l seen).1.length<=n:=by rw[zg5 h A];simpa using (ztt n l h f A ([],seen)).1
def zbY{fr:List (List UInt8×List ItD)}{n f:Nat}{l:List ItD}{seen:List (List UInt8)}(h:Ex fr n l)(A:n<=f){y:ItD}(I:y∈(flF fr f l seen).1):∃m,m<n/\Ex fr m y.sub/\bMs y.args<=Lim:=by rw[zg5 h A]at I;simpa using (ztt n l h f A ([],seen)).2 y I
def zhS:SelD->List UInt8| .mk k al nm _ _ _ _=>if k=0 then (if al=[]then nm else al)else []
abbrev PrS:=List ((Nat×Nat)×Bool)
abbrev yK:=PrS×PrS
def zgF(l:PrS)(k:Nat×Nat):Option Bool:=(l.find? λe=>decide (k=e.1)).map (·.2)
def Yb:PrS->Nat×Nat->Bool->PrS
 | [],k,v=>[(k,v)]
 | (a,u)::r,k,v=>if k=a then (k,v)::r else (a,u)::Yb r k v
def zoo(g:ItD->ItD->yK->Bool×yK)(x:ItD):List ItD->yK->Bool×yK
 | [],S=>(true,S)
 | y::r,S=>if zhS x.x=zhS y.x then (match g x y S with|(true,S')=>zoo g x r S'|(false,S')=>(false,S'))else zoo g x r S
def zaY(g:ItD->ItD->yK->Bool×yK):List ItD->List ItD->yK->Bool×yK
 | [],_,S=>(true,S)
 | x::r,lb,S=>match zoo g x lb S with|(true,S')=>zaY g r lb S'|(false,S')=>(false,S')
def Zf(fr:List (List UInt8×List ItD))(a:ItD):List ItD:=(flF fr 64 a.sub []).1
def zjP(s:SchD)(a b:TyD):Bool :=decide (a.lists=b.lists)&&decide (a.musts=b.musts)&&(if zaT s a.nm||zaT s b.nm then decide (a.nm=b.nm)else Z4 s a.nm&&Z4 s b.nm)
def shB(s:SchD)(fr:List (List UInt8×List ItD))(g:ItD->ItD->yK->Bool×yK)(a b:ItD)(S:yK):Bool×yK :=
 match zgF S.1 (a.no,b.no)with
 | some r=>(r,S)
 | none =>
  if zjP s ((yH s a.typ a.x.nm).getD zF).t ((yH s b.typ b.x.nm).getD zF).t=true then ((zaY g (Zf fr a) (Zf fr b) S).1,(Yb (zaY g (Zf fr a) (Zf fr b) S).2.1 (a.no,b.no) (zaY g (Zf fr a) (Zf fr b) S).1,(zaY g (Zf fr a) (Zf fr b) S).2.2))
  else (false,(Yb S.1 (a.no,b.no) false,S.2))
def shF(s:SchD)(fr:List (List UInt8×List ItD)):Nat->ItD->ItD->yK->Bool×yK
 | 0=>shB s fr λ_ _ S=>(true,S)
 | n+1=>shB s fr (shF s fr n)
def zlX(s:SchD)(a b:ItD):Bool:=!decide (a.typ=b.typ)&&Za s a.typ [1]&&Za s b.typ [1]
end Go.Proofs.YtnemcnegfkjpeaaGreatDoor

namespace Go.Proofs.YtnemcnegfkjpeaaGreatDoor
open Go.Ab
def lD(x:DirD):Nat:=2+x.nm.length+bMs x.args
def lDs(l:List DirD):Nat:=(l.map lD).sum
mutual
def lS:SelD->Nat| .mk _ al nm args dirs on sels=>2+nm.length+al.length+on.length+bMs args+lDs dirs+lSs sels
def lSs:List SelD->Nat
 | []=>0
 | x::r=>lS x+lSs r
end
def lW(x:VarD):Nat:=1+bV x.d+x.nm.length
def lWs(l:List VarD):Nat:=(l.map lW).sum
def lO(x:OpD):Nat:=1+lDs x.dirs+lSs x.sels+x.nm.length+lWs x.vars
def lF(x:FragD):Nat:=1+lDs x.dirs+lSs x.sels+x.nm.length
def lOs(l:List OpD):Nat:=(l.map lO).sum
def lFs(l:List FragD):Nat:=(l.map lF).sum
def zfS(d:DocD):Bool:=decide (lOs d.ops+lFs d.frags<=3200)
def zf2{α:Type}{f g:α->Nat}{c:Nat}(h:∀x,f x<=c*g x):∀l:List α,(l.map f).sum<=c*(l.map g).sum
 | []=>Nat.zero_le _
 | x::r=>by have:=zf2 h r;have:=h x;simp only[List.map_cons,List.sum_cons,Nat.mul_add];omega
def za0(l:List DirD):lDs l<=2*bDs l:=zf2 (λx=>by simp only[lD,bD];omega) l
mutual
def zAc:∀x,lS x<=2*bS x| .mk k al nm args dirs on sels=>by have A:=za0 dirs;have I:=zea sels;simp only[lS,bS];omega
def zea:∀l,lSs l<=2*bSs l
 | []=>by simp[lSs]
 | x::r=>by have A:=zAc x;have I:=zea r;simp only[lSs,bSs];omega
end
def zdR(l:List VarD):lWs l<=2*bWs l:=zf2 (λx=>by have:=zc8 x.d;simp only[lW,bW];omega) l
def zz6(x:OpD):lO x<=2*bO x:=by have A:=za0 x.dirs;have I:=zea x.sels;have J:=zdR x.vars;simp only[lO,bO];omega
def zzH(x:FragD):lF x<=2*bF x:=by have A:=za0 x.dirs;have I:=zea x.sels;simp only[lF,bF];omega
def zx4(l:List OpD):lOs l<=2*bOs l:=zf2 zz6 l
def zyk(l:List FragD):lFs l<=2*bFs l:=zf2 zzH l
def zfo(l:List DirD)(ab:bDs l<=Lim):ze Tryz.prog 25 [.sl .no 2 (cDs l)] (.int .i64 (lDs l)):=by
 refine ze.go ir25.1 ir25.2 (Al4 _) λKP Q aa=>?_;have A:=Y4 l;have ad:=zbh l;have ae:=za0 l;have ac:=ab;simp only[Lim]at ac;simp(disch:=first|omega|assumption) only[ir25,A,go_sem];refine zf l 4 (λn:Int=>[(3,.int .i64 n)]) (λdone rest n H=>n+lDs rest=lDs l) 0 (by simp(disch:=first|omega|assumption) only[go_sem]) (by simp) ?_ ?_
 ·rintro n H Y U I;simp only[lDs,List.map_nil,List.sum_nil]at U;simp(disch:=first|omega|assumption) only[A,I,go_sem];have:n=((lDs l:Nat):Int):=by simp only[lDs];omega
  exact aa _ _ _ _ nofun rfl (by simp[this])
 ·rintro done x rest n H Y J I _ U Z;have X:=zbb J;have W:=zeT done x rest;rw[<-J]at W;obtain⟨nm,args⟩:=x;simp only[bD]at W;have af:n+(2+nm.length+bMs args+lDs rest:Nat)=lDs l:=by rw[<-U];simp[lDs,lD]
  have hsz:bV (.mk 0 0 [] [] args)=1+bMs args:=by simp[bV,bVs]
  have ag:(0:Int)<=n:=by
   have:=za0 rest;have e:lDs l=lDs done+lDs (⟨nm,args⟩::rest):=by rw[J];simp[lDs]
   omega
  simp(disch:=first|omega|assumption) only[A,I,X,cD,wrap64,go_sem];refine za (ze.low (zmk (.mk 0 0 [] [] args) (by rw[hsz];simp only[Lim];omega))) ?_;rw[hsz];simp(disch:=first|omega|assumption) only[A,I,X,cD,wrap64,go_sem];exact goJ (Z (n+1+nm.length+((1+bMs args:Nat):Int)) _ (by omega)) (by simp(disch:=first|omega|assumption) only[wrap64,go_sem])
def zol:∀c:Nat,∀l:List SelD,bSs l<=c->c<=Lim->ze Tryz.prog 26 [.sl .no 7 (cSs l)] (.int .i64 (lSs l)):=by
 intro c;induction c using Nat.strongRecOn with
 | _ c ae =>
 intro l af ad;refine ze.go ir26.1 ir26.2 (Al4 _) λKP Q ab=>?_;have A:=YK l;have ah:=Y9 l;have ai:=zea l;have ac:=ad;simp only[Lim]at ac;simp(disch:=first|omega|assumption) only[ir26,A,go_sem];refine zf l 4 (λn:Int=>[(3,.int .i64 n)]) (λdone rest n H=>n+lSs rest=lSs l/\0<=n) 0 (by simp(disch:=first|omega|assumption) only[go_sem]) (by simp) ?_ ?_
 ·rintro n H Y ⟨U,_⟩ I;simp only[lSs]at U;simp(disch:=first|omega|assumption) only[A,I,go_sem];have:n=((lSs l:Nat):Int):=by omega
  exact ab _ _ _ _ nofun rfl (by simp[this])
 ·rintro done x rest n H Y X I _ ⟨U,aj⟩ aa;have J:=zbo X;have W:=zbk done x rest;rw[<-X]at W;obtain⟨k,Z,nm,args,dirs,on,sels⟩:=x;have ag:=za0 dirs;have ak:=zea sels;simp only[bS]at W;rw[y9]at J;simp only[lSs,lS]at U;have hsz:bV (.mk 0 0 [] [] args)=1+bMs args:=by simp[bV,bVs]
  simp(disch:=first|omega|assumption) only[A,I,J,wrap64,go_sem];refine za (ze.low (zmk (.mk 0 0 [] [] args) (by rw[hsz];simp only[Lim];omega))) ?_;rw[hsz];simp(disch:=first|omega|assumption) only[A,I,J,wrap64,go_sem];refine za (zfo dirs (by simp only[Lim];omega)) ?_;simp(disch:=first|omega|assumption) only[A,I,J,wrap64,go_sem];refine za (ae (bSs sels) (by omega) sels (Al4 _) (by omega)) ?_;simp(disch:=first|omega|assumption) only[A,I,J,wrap64,go_sem];exact goJ (aa (n+1+nm.length+Z.length+on.length+((1+bMs args:Nat):Int)+lDs dirs+lSs sels) _ ⟨by omega,by omega⟩) (by simp(disch:=first|omega|assumption) only[wrap64,go_sem])
def zix(l:List SelD)(A:bSs l<=Lim):ze Tryz.prog 26 [.sl .no 7 (cSs l)] (.int .i64 (lSs l)):=zol (bSs l) l (Al4 _) A
def zy7(d:DocD)(ak:zw d<=Lim):ze Tryz.prog 10 [.agg (zU d)] (.bool (zfS d)):=by
 refine ze.go ir10.1 ir10.2 (Al4 _) λKP Q ax=>?_;obtain⟨ops,frags⟩:=d;simp only[zw]at ak;have U:=Z9 ops;have Y:=YO frags;have a5:=Zu ops;have a6:=yC frags;have a7:=zx4 ops;have a8:=zyk frags;have ay:=ak;simp only[Lim]at ay;simp(disch:=first|omega|assumption) only[ir10,zU,go_sem];refine zf ops 4 (λn:Int=>[(3,.int .i64 n)]) (λdone rest n H=>n+lOs rest=lOs ops/\0<=n) 0 (by simp(disch:=first|omega|assumption) only[go_sem]) (by simp) ?_ ?_
 ·rintro n H ab ⟨J,ao⟩ A;simp only[lOs,List.map_nil,List.sum_nil]at J;have J:n=((lOs ops:Nat):Int):=by simp only[lOs];omega
  subst J;simp(disch:=first|omega|assumption) only[U,A,go_sem];refine zf frags 6 (λn:Int=>[(3,.int .i64 n)]) (λdone rest n H=>n+lFs rest=(lOs ops+lFs frags:Nat)/\0<=n) (lOs ops:Nat) (by simp(disch:=first|omega|assumption) only[go_sem]) ⟨by omega,by omega⟩ ?_ ?_
  ·rintro n H ab ⟨J,_⟩ A;simp only[lFs,List.map_nil,List.sum_nil]at J;have e:decide (n<=3200)=zfS ⟨ops,frags⟩:=by simp only[zfS,lFs];exact decide_eq_decide.2 (by omega)
   simp(disch:=first|omega|assumption) only[Y,A,go_sem];exact ax _ _ _ _ nofun rfl (by simp[e])
  ·rintro done x rest n H ab X A _ ⟨J,ao⟩ ah;have I:=zad X;have W:=zlI done x rest;rw[<-X]at W;obtain⟨nm,on,dirs,sels⟩:=x;simp only[bF]at W;have az:=za0 dirs;have a1:=zea sels;have an:n+(1+lDs dirs+lSs sels+nm.length+lFs rest:Nat)=(lOs ops+lFs frags:Nat):=by rw[<-J];simp[lFs,lF]
   simp(disch:=first|omega|assumption) only[Y,A,I,cF,wrap64,go_sem];refine za (zfo dirs (by simp only[Lim];omega)) ?_;simp(disch:=first|omega|assumption) only[Y,A,I,cF,wrap64,go_sem];refine za (zix sels (by simp only[Lim];omega)) ?_;simp(disch:=first|omega|assumption) only[Y,A,I,cF,wrap64,go_sem];exact goJ (ah (n+1+lDs dirs+lSs sels+nm.length) _ ⟨by omega,by omega⟩) (by simp(disch:=first|omega|assumption) only[wrap64,go_sem])
 ·rintro done x rest n H ab X A _ ⟨J,ao⟩ ah;have I:=YJ X;have W:=YW done x rest;rw[<-X]at W;obtain⟨k,nm,vars,dirs,sels⟩:=x;simp only[bO]at W;have az:=za0 dirs;have a1:=zea sels;have ba:=zdR vars;have ag:=Zk vars;have a4:=yJ vars;have an:n+(1+lDs dirs+lSs sels+nm.length+lWs vars+lOs rest:Nat)=lOs ops:=by rw[<-J];simp[lOs,lO]
  simp(disch:=first|omega|assumption) only[U,A,I,cO,wrap64,go_sem];refine za (zfo dirs (by simp only[Lim];omega)) ?_;simp(disch:=first|omega|assumption) only[U,A,I,cO,wrap64,go_sem];refine za (zix sels (by simp only[Lim];omega)) ?_;simp(disch:=first|omega|assumption) only[U,A,I,cO,wrap64,go_sem];refine zf vars 5 (λn:Int=>[(3,.int .i64 n)]) (λa3 a2 ap H=>ap+lWs a2=n+1+lDs dirs+lSs sels+nm.length+lWs vars/\0<=ap) (n+1+lDs dirs+lSs sels+nm.length) (by simp(disch:=first|omega|assumption) only[go_sem]) ⟨by omega,by omega⟩ ?_ ?_
  ·rintro aa H au ⟨aj,a0⟩ Z;simp only[lWs,List.map_nil,List.sum_nil]at aj;simp(disch:=first|omega|assumption) only[U,ag,A,I,Z,cO,wrap64,go_sem];exact goJ (ah aa _ ⟨by simp only[lWs]at an;omega,by omega⟩) (by simp(disch:=first|omega|assumption) only[wrap64,go_sem])
  ·rintro av y aq aa H au am Z _ ⟨aj,a0⟩ aw;have ai:=Ya am;have al:=zh6 av y aq;rw[<-am]at al;obtain⟨ar,⟨bd,tl,bc⟩,be,⟨ac,af,ds,ad,ae⟩⟩:=y;rw[zhz,yj]at ai;simp only[bW]at al;have a9:aa+(1+bV (.mk ac af ds ad ae)+ar.length+lWs aq:Nat)=n+1+lDs dirs+lSs sels+nm.length+lWs vars:=by rw[<-aj];simp[lWs,lW]
   simp(disch:=first|omega|assumption) only[U,ag,A,I,ai,Z,cO,wrap64,go_sem];refine za (zmk (.mk ac af ds ad ae) (by simp only[Lim];omega)) ?_;simp(disch:=first|omega|assumption) only[U,ag,A,I,ai,Z,cO,wrap64,go_sem];exact goJ (aw (aa+1+bV (.mk ac af ds ad ae)+ar.length) _ ⟨by omega,by omega⟩) (by simp(disch:=first|omega|assumption) only[wrap64,go_sem])
def l8L(x:FldD):Nat:=1+x.nm.length+lWs x.ps+lDs x.dirs
def zoY(l:List FldD):Nat:=(l.map l8L).sum
def l8E(x:DefD):Nat:=1+x.nm.length+bT x.faces+bT x.parts+lWs x.ps+zoY x.flds
def zhV(l:List DefD):Nat:=(l.map l8E).sum
def zg4(s:SchD):Bool:=decide (zhV s.defs<=4000)
def zyu(x:FldD):l8L x<=2*bL x:=by have A:=za0 x.dirs;have I:=zdR x.ps;simp only[l8L,bL];omega
def zpJ(l:List FldD):zoY l<=2*bLs l:=zf2 zyu l
def zse(x:DefD):l8E x<=2*bE x:=by have A:=zpJ x.flds;have I:=zdR x.ps;simp only[l8E,bE];omega
def zqn(l:List DefD):zhV l<=2*bEs l:=zf2 zse l
def zoa(l:List DirD)(ab:bDs l<=Lim):ze Tryz.prog 24 [.sl .no 2 (cDs l)] (.int .i64 (lDs l)):=by
 refine ze.go ir24.1 ir24.2 (Al4 _) λKP Q aa=>?_;have A:=Y4 l;have ad:=zbh l;have ae:=za0 l;have ac:=ab;simp only[Lim]at ac;simp(disch:=omega) only[ir24,A,go_sem];refine zf l 4 (λn:Int=>[(3,.int .i64 n)]) (λdone rest n H=>n+lDs rest=lDs l) 0 (by simp(disch:=omega) only[go_sem]) (by simp) ?_ ?_
 ·rintro n H Y U I;simp only[lDs,List.map_nil,List.sum_nil]at U;simp(disch:=omega) only[A,I,go_sem];have:n=((lDs l:Nat):Int):=by simp only[lDs];omega
  exact aa _ _ _ _ nofun rfl (by simp[this])
 ·rintro done x rest n H Y J I _ U Z;have X:=zbb J;have W:=zeT done x rest;rw[<-J]at W;obtain⟨nm,args⟩:=x;simp only[bD]at W;have af:n+(2+nm.length+bMs args+lDs rest:Nat)=lDs l:=by rw[<-U];simp[lDs,lD]
  have hsz:bV (.mk 0 0 [] [] args)=1+bMs args:=by simp[bV,bVs]
  have ag:(0:Int)<=n:=by
   have:=za0 rest;have e:lDs l=lDs done+lDs (⟨nm,args⟩::rest):=by rw[J];simp[lDs]
   omega
  simp(disch:=omega) only[A,I,X,cD,wrap64,go_sem];refine za (ze.low (zmk (.mk 0 0 [] [] args) (by rw[hsz];simp only[Lim];omega))) ?_;rw[hsz];simp(disch:=omega) only[A,I,X,cD,wrap64,go_sem];exact goJ (Z (n+1+nm.length+((1+bMs args:Nat):Int)) _ (by omega)) (by simp(disch:=omega) only[wrap64,go_sem])
def zhK(l:List (List UInt8))(Z:bT l<=Lim):ze Tryz.prog 22 [.sl .no 1 (cT l)] (.int .i64 (bT l)):=by
 refine ze.go ir22.1 ir22.2 (Al4 _) λKP Q Y=>?_;have A:=zG l;have ad:=ZK l;have aa:=Z;simp only[Lim]at aa;simp(disch:=omega) only[ir22,A,go_sem];refine zf l 4 (λn:Int=>[(3,.int .i64 n)]) (λdone rest n H=>n=bT done) 0 (by simp(disch:=omega) only[go_sem]) (by simp[bT]) ?_ ?_
 ·rintro n H W J I;subst J;simp(disch:=omega) only[A,I,go_sem];exact Y _ _ _ _ nofun rfl (by simp )
 ·rintro done x rest n H W U I _ J X;subst J;have ac:=YP U;have ab:=zn7 done x rest;rw[<-U]at ab;simp(disch:=omega) only[A,I,ac,wrap64,go_sem];exact goJ (X ((bT done:Int)+1+x.length) _ (by simp[bT];omega)) (by simp(disch:=omega) only[wrap64,go_sem])
def zge(l:List VarD)(ad:bWs l<=Lim):ze Tryz.prog 23 [.sl .no 10 (cWs l)] (.int .i64 (lWs l)):=by
 refine ze.go ir23.1 ir23.2 (Al4 _) λKP Q ac=>?_;have A:=Zk l;have aj:=yJ l;have al:=zdR l;have ae:=ad;simp only[Lim]at ae;simp(disch:=omega) only[ir23,A,go_sem];refine zf l 4 (λn:Int=>[(3,.int .i64 n)]) (λdone rest n H=>n=lWs done) 0 (by simp(disch:=omega) only[go_sem]) (by simp[lWs]) ?_ ?_
 ·rintro n H aa W J;subst W;simp(disch:=omega) only[A,J,go_sem];exact ac _ _ _ _ nofun rfl (by simp )
 ·rintro done x rest n H aa Y J _ W ab;subst W;have I:=Ya Y;have af:=zh6 done x rest;rw[<-Y]at af;have ak:=zdR done;obtain⟨X,⟨Z,tl,ag⟩,ah,U⟩:=x;have ai:bW ⟨X,⟨Z,tl,ag⟩,ah,U⟩=X.length+Z.length+bV U:=rfl;rw[zhz]at I;simp only at I;simp(disch:=omega) only[zp,zk,zg,zn,zl,zh,zu,A,J,I,wrap64,go_sem];refine za (zmk U (by simp only[Lim];omega)) ?_;simp(disch:=omega) only[zp,zk,zg,zn,zl,zh,zu,A,J,I,wrap64,go_sem];exact goJ (ab ((lWs done:Int)+1+X.length+((bV U:Nat):Int)) _ (by simp[lWs,lW];omega)) (by simp(disch:=omega) only[wrap64,go_sem])
def zu6(s:SchD)(ae:zJ s<=Lim):ze Tryz.prog 9 [.agg (zm s)] (.bool (zg4 s)):=by
 refine ze.go ir9.1 ir9.2 (Al4 _) λKP Q ad=>?_;obtain⟨defs,q,m⟩:=s;simp only[zJ]at ae;have X:=zgn defs;have a2:=zf6 defs;have a5:=zqn defs;have av:=ae;simp only[Lim]at av;have ap:zm ⟨defs,q,m⟩=[.sl .no 6 (cEs defs),.str q,.str m]:=rfl;simp(disch:=omega) only[ir9,ap,X,go_sem];refine zf defs 4 (λn:Int=>[(3,.int .i64 n)]) (λdone rest n H=>n=zhV done) 0 (by simp(disch:=omega) only[go_sem]) (by simp[zhV]) ?_ ?_
 ·rintro n H am A Z;subst A;by_cases ac:zhV defs<=4000
  ·have ab:((zhV defs:Int)<=4000)=True:=eq_true (by omega);simp(disch:=omega) only[X,Z,ab,go_sem];exact ad _ _ _ _ nofun rfl (by simp[zg4,ac])
  ·have ab:¬ ((zhV defs:Int)<=4000):=by omega
   simp(disch:=omega) only[X,Z,ab,go_sem];exact ad _ _ _ _ nofun rfl (by simp[zg4,ac])
 ·rintro done x rest n H am ah Z _ A ar;subst A;have aj:=zgS ah;have af:=zph done x rest;rw[<-ah]at af;have a3:=zqn done;have aw:=zse x;obtain⟨k,nm,faces,flds,parts,ps⟩:=x;simp only[bE]at af;simp only[l8E,bE]at aw;have U:=zbd flds;have a1:=zaf flds;have a6:=zdR ps;rw[yf]at aj;simp(disch:=omega) only[X,Z,aj,go_sem];refine zc λao ax=>?_;obtain⟨cs,ay⟩:∃cs,cs=[AV.int .i64 k,.str nm,.sl .no 1 (cT faces),.sl .no 6 (cLs flds),.sl .no 1 (cT parts),.sl .no 10 (cWs ps)]:=⟨_,rfl⟩;simp(disch:=omega) only[wrap64,go_sem];refine za (zhK faces (by simp only[Lim];omega)) ?_;simp(disch:=omega) only[wrap64,go_sem];refine za (zhK parts (by simp only[Lim];omega)) ?_;simp(disch:=omega) only[wrap64,go_sem];refine za (zge ps (by simp only[Lim];omega)) ?_;simp(disch:=omega) only[wrap64,U,go_sem];refine zf flds 6 (λn:Int=>[(3,.int .i64 n)]) (λJ ak n H'=>n=(zhV done:Int)+1+nm.length+bT faces+bT parts+lWs ps+zoY J/\H' ao=some (.cells [AV.int .i64 k,.str nm,.sl .no 1 (cT faces),.sl .no 6 (cLs flds),.sl .no 1 (cT parts),.sl .no 10 (cWs ps)])) ((zhV done:Int)+1+nm.length+bT faces+bT parts+lWs ps) (by simp(disch:=omega) only[wrap64,go_sem]) ⟨by simp[zoY],upd_same ..⟩ ?_ ?_
  ·rintro n al an ⟨A,I⟩ W;subst A;simp(disch:=omega) only[U,W,I,wrap64,go_sem];exact goJ (ar ((zhV done:Int)+1+nm.length+bT faces+bT parts+lWs ps+zoY flds) _ (by simp[zhV,l8E];omega)) (by simp(disch:=omega) only[wrap64,go_sem])
  ·rintro J y ak n al an ai W _ ⟨A,I⟩ au;subst A;have Y:=ze6 ai;have ag:=zp0 J y ak;rw[<-ai]at ag;have a4:=zpJ J;obtain⟨aq,aa,⟨a8,tl,a7⟩,dirs⟩:=y;simp only[bL]at ag;have az:=za0 dirs;have a0:=zdR aa;rw[zaM]at Y;simp(disch:=omega) only[U,W,I,Y,wrap64,go_sem];refine za (zge aa (by simp only[Lim];omega)) ?_;simp(disch:=omega) only[U,W,I,Y,wrap64,go_sem];refine za (zoa dirs (by simp only[Lim];omega)) ?_;simp(disch:=omega) only[U,W,I,Y,wrap64,go_sem];exact goJ (au ((zhV done:Int)+1+nm.length+bT faces+bT parts+lWs ps+zoY J+1+aq.length+lWs aa+lDs dirs) _ ⟨by simp[zoY,l8L];omega,I⟩) (by simp(disch:=omega) only[wrap64,go_sem])
def frS(d:DocD)(n:List UInt8):List SelD:=((yt d n).getD zFr).sels
mutual
def zis(d:DocD)(g:Nat->List SelD->Nat):SelD->Nat->Nat| .mk k _ nm _ _ _ sels,r=>if k=1/\1+Zp d g sels r 0<=r then 1+Zp d g sels r 0+g (r-(1+Zp d g sels r 0)) (frS d nm)else 1+Zp d g sels r 0
def Zp(d:DocD)(g:Nat->List SelD->Nat):List SelD->Nat->Nat->Nat
 | [],_,n=>n
 | x::xs,most,n=>if n<=most then Zp d g xs most (n+zis d g x (most-n))else n
end
def few(d:DocD):Nat->Nat->List SelD->Nat
 | 0=>λmost _=>most+1
 | k+1=>λmost l=>Zp d (few d k) l most 0
def ziR(d:DocD)(g:Nat->List SelD->Nat):∀(l:List SelD) (A n:Nat),n<=Zp d g l A n
 | [],_,_=>by simp[Zp]
 | x::xs,A,n=>by
  simp only[Zp];split
  ·exact Nat.le_trans (Nat.le_add_right _ _) (ziR d g xs A _)
  ·exact Al4 _
inductive Sz (d:DocD):Nat->List SelD->Prop
 | nil (n:Nat):Sz d n []
 | cons {n i j m:Nat} {k:Int} {al nm:List UInt8} {args:List Mem} {dirs:List DirD} {on:List UInt8} {sels r:List SelD} (hle:i+j+m+1<=n) (h1:Sz d i sels) (h2:k=1->Sz d j (frS d nm)) (h3:Sz d m r):Sz d n (.mk k al nm args dirs on sels::r)
def Sz.mono{d:DocD}{n m:Nat}{l:List SelD}(h:Sz d n l)(W:n<=m):Sz d m l:=by
 cases h with
 | nil=>exact .nil _
 | cons U A I J=>exact .cons (by omega) A I J
section
variable {d:DocD} {s:SchD} {fr:List (List UInt8×List ItD)}
mutual
def szS{g:Nat->List SelD->Nat}(I:∀m n,g m (frS d n)<=m->Sz d (g m (frS d n)) (frS d n)):∀(x:SelD) (r:Nat),zis d g x r<=r->∃i j,i+j+1<=zis d g x r/\Sz d i x.sels/\(x.k=1->Sz d j (frS d x.nm))
 | .mk k al nm args dirs on sels,r,h=>by
  simp only[zis]at h ⊢;split at h
  ·rename_i A;rw[if_pos A];obtain⟨e,U,J⟩:=zvj I sels r 0 (by omega);exact⟨e,_,by omega,J,λ_=>I (r-(1+Zp d g sels r 0)) nm (by omega)⟩
  ·rename_i A;rw[if_neg A];obtain⟨e,U,J⟩:=zvj I sels r 0 (by omega);exact⟨e,0,by omega,J,λW=>absurd ⟨W,h⟩ A⟩
def zvj{g:Nat->List SelD->Nat}(I:∀m n,g m (frS d n)<=m->Sz d (g m (frS d n)) (frS d n)):∀(l:List SelD) (A n:Nat),Zp d g l A n<=A->∃e,n+e<=Zp d g l A n/\Sz d e l
 | [],A,n,_=>⟨0,by simp[Zp],.nil _⟩
 | x::xs,A,n,h=>by
  simp only[Zp]at h ⊢;split at h
  ·rename_i J;rw[if_pos J];have Y:=ziR d g xs A (n+zis d g x (A-n));obtain⟨e,Z,U⟩:=zvj I xs A _ h;obtain⟨i,j,aa,hx1,W⟩:=szS I x (A-n) (by omega);obtain⟨k,X,nm,args,dirs,on,sels⟩:=x;exact⟨i+j+e+1,by omega,.cons (Al4 _) hx1 W U⟩
  ·omega
end
def zw2:∀(k A:Nat) (l:List SelD),few d k A l<=A->Sz d (few d k A l) l
 | 0,A,l,h=>by simp only[few]at h;omega
 | k+1,A,l,h=>by simp only[few]at h ⊢;obtain⟨e,U,J⟩:=zvj (g:=few d k) (λm n I=>zw2 k m (frS d n) I) l A 0 h;exact J.mono (by omega)
def zBM(U:∀n,∃typ no,frL fr n=(Zv s (frS d n) typ no).1)(J:∀n,bSs (frS d n)<=Lim){n:Nat}{l:List SelD}(h:Sz d n l):bSs l<=Lim->∀typ no,Ex fr n (Zv s l typ no).1:=by
 induction h with
 | nil=>exact λ_ _ _=>.nil _
 | @cons n i j m k al nm args dirs on sels r hle h1 h2 h3 i1 i2 i3 =>intro I typ no;simp only[bSs,bS]at I;simp only[Zv,itS];refine .cons hle (i1 (by omega) _ _) (λW=>?_) (i3 (by omega) _ _) (by omega);obtain⟨X,no',A⟩:=U nm;rw[A];exact i2 W (J nm) _ _
end
def Z0(d:DocD):List (List SelD)->Nat->Nat
 | [],n=>n
 | x::r,n=>if n<=40 then Z0 d r (n+few d 41 40 x)else n
def zeR(d:DocD):∀(l:List (List SelD)) (n:Nat),n<=Z0 d l n
 | [],_=>Al4 _
 | x::r,n=>by
  simp only[Z0];split
  ·exact Nat.le_trans (Nat.le_add_right _ _) (zeR d r _)
  ·exact Al4 _
def zfI{d:DocD}:∀(l:List (List SelD)) (n:Nat),Z0 d l n<=40->∀x∈l,few d 41 40 x<=40
 | y::r,n,h,x,A=>by
  simp only[Z0]at h;split at h
  ·have:=zeR d r (n+few d 41 40 y);rcases List.mem_cons.1 A with rfl|A
   ·omega
   ·exact zfI r _ h x A
  ·omega
def zcb(s:SchD)(d:DocD):Bool:=zg4 s&&zfS d&&decide (Z0 d (d.frags.map (·.sels)) (Z0 d (d.ops.map (·.sels)) 0)<=40)
def zo7{s:SchD}{d:DocD}(h:zcb s d=true):∀x∈yX d,Sz d 40 x:=by
 simp only[zcb,Al0,z6]at h;intro x J;have U:=zeR d (d.frags.map (·.sels)) (Z0 d (d.ops.map (·.sels)) 0);have I:few d 41 40 x<=40:=by
  rcases List.mem_append.1 J with A|A
  ·exact zfI (d.ops.map (·.sels)) 0 (by omega) x A
  ·exact zfI _ _ h.2 x A
 exact(zw2 41 40 x I).mono I
end Go.Proofs.YtnemcnegfkjpeaaGreatDoor
namespace Go.Proofs
open Go.Shelf
def Tryz.laysNm222_ren:Go.Shelf.Ren:=⟨λ|22=>340|29=>355|30=>356|36=>367|17=>374|n=>n,λ|24=>62|9=>9|3=>3|4=>4|0=>0|n=>n,λ|n=>n⟩
def Tryz.laysNm222:Go.Proofs.Lays2.n22 Tryz.prog Tryz.laysNm222_ren:={
 mixed:=by kernel_rfl
 f17:=Tryz.func374.trans (congrArg some (by kernel_rfl))
 f22:=Tryz.func340.trans (congrArg some (by kernel_rfl))
 f29:=Tryz.func355.trans (congrArg some (by kernel_rfl))
 f30:=Tryz.func356.trans (congrArg some (by kernel_rfl))
 f36:=Tryz.func367.trans (congrArg some (by kernel_rfl))
 t0:=Tryz.underlying0
 a0:=Tryz.isAgg0
 z0:=Tryz.sizeOf0
 v0:=Tryz.zeroValue0
 t3:=Tryz.underlying3
 a3:=Tryz.isAgg3
 z3:=Tryz.sizeOf3
 v3:=Tryz.zeroValue3
 t4:=Tryz.underlying4
 a4:=Tryz.isAgg4
 z4:=Tryz.sizeOf4
 v4:=Tryz.zeroValue4
 t9:=Tryz.underlying9
 a9:=Tryz.isAgg9
 z9:=Tryz.sizeOf9
 v9:=Tryz.zeroValue9
 t24:=Tryz.underlying62
 a24:=Tryz.isAgg62
 z24:=Tryz.sizeOf62
 v24:=Tryz.zeroValue62
 i9:=by kernel_rfl }
end Go.Proofs
namespace Go.Proofs.YtnemcnegfkjpeaaGreatDoor
open Go.Ab Go.Lib
def Yk(b:Nat)(E:TypeId):∀(vs:List Value) (o:Nat) (cur:List Value) (w:World),w.heap[b]?=some (.cells cur.toArray E (0,0))->o+vs.length<=cur.length ->
  w.setCells b o vs=w.setRow b (cur.take o++vs++cur.drop (o+vs.length)).toArray
 | [],o,cur,w,h,hl=>by rw[World.setCells,List.append_nil];simp only[Al3,Nat.add_zero,List.take_append_drop];exact(setRow_self w b _ E _ h).symm
 | v::r,o,cur,w,h,hl=>by
  simp only[Al2]at hl;have e:(cur.toArray.setIfInBounds o v)=(cur.set o v).toArray:=by simp
  rw[World.setCells,setCell_eq_setRow w b o cur.toArray E (0,0) v h,e,Yk b E r (o+1) (cur.set o v) _ (setRow_heap w b _ _ E _ h) (by rw[List.length_set];omega),setRow_setRow]
  congr 2
  have A:(cur.set o v).take (o+1)=cur.take o++[v]:=by rw[List.take_add_one,List.take_set_of_le (Al4 _)];simp[show o<cur.length by omega]
  have I:(cur.set o v).drop (o+1+r.length)=cur.drop (o+(r.length+1)):=by
   rw[List.drop_set_of_lt (by omega)]
   congr 1;omega
  rw[A,I];simp[ZP]
def yb(s:List UInt8):Value:=.string ⟨s.toArray⟩
def zgx(γ:Gh)(w:World)(xs:List (List UInt8)):zv γ w (xs.map AV.str) (xs.map yb) :=
 ⟨by simp,λi v h=>by
  rw[Yg]at h;cases A:xs[i]? with
  | none=>simp[A]at h
  | some x=>simp only[A,ZS,Al1]at h;subst h;rfl,λi c v I h=>by
  rw[Yg]at h I;cases A:xs[i]? with
  | none=>simp[A]at h
  | some x =>simp only[A,ZS,Al1]at h I;subst h;subst I;exact .str x⟩
def zgQ{γ:Gh}{w:World}:∀ {xs:List (List UInt8)} {sp:List AV} {vs:List Value},zv γ w (xs.map AV.str++sp) vs->∃spv,vs=xs.map yb++spv/\zv γ w sp spv
 | [],sp,vs,h=>⟨vs,by simp,by simpa using h⟩
 | x::xs,sp,[],h=>by simp[zv]at h
 | x::xs,sp,v::vs,h=>by obtain⟨J,U,I⟩:=h;have Y:=I 0 _ _ rfl rfl;obtain⟨spv,e,X⟩:=zgQ (xs:=xs) (sp:=sp) (vs:=vs) (γ:=γ) (w:=w) ⟨by simpa using J,λi u A=>U (i+1) u (by simpa using A),λi c u W A=>I (i+1) c u (by simpa using W) (by simpa using A)⟩;refine⟨spv,?_,X⟩;cases Y;rw[e];rfl
def zgR(k:Nat):Builtin.zeroCells (Value.string ⟨#[]⟩).cells k=(List.replicate k (yb [])).toArray:=by
 apply Array.ext
 ·simp[Builtin.zeroCells,Value.cells]
 ·intro i A I;simp[Builtin.zeroCells,Value.cells,Nat.mod_one,yb]
def zho(H:zb)(lv:AV)(xs:List (List UInt8)):Prop :=(lv=.sl .nil 1 []/\xs=[])∨∃b cap sp,lv=.ms b 0 xs.length cap/\H b=some (.cells (xs.map AV.str++sp))/\xs.length+sp.length=cap
structure InsS (H:zb) (lv:AV) (H':zb) (lv':AV) (xs':List (List UInt8)):Prop where
 own:zho H' lv' xs'
 kept:∀c x,H c=some x->(∀n k,lv≠.ms c 0 n k)->H' c=some x
 new:∀b n k,lv'=.ms b 0 n k->H b=none∨∃n0 k0,lv=.ms b 0 n0 k0
def InsS.refl{H:zb}{lv:AV}{xs:List (List UInt8)}(h:zho H lv xs):InsS H lv H lv xs:=⟨h,λc x A _=>A,λb n k e=>.inr ⟨n,k,e⟩⟩
def InsS.trans{H H1 U:zb}{lv Z aa:AV}{xs ab:List (List UInt8)}(h:InsS H lv H1 Z xs)(h':InsS H1 Z U aa ab):InsS H lv U aa ab:=by
 refine⟨h'.own,λc x W X=>h'.kept c x (h.kept c x W X) λn k e=>?_,λb n k e=>?_⟩
 ·rcases h.new c n k e with A|⟨J,I,A⟩
  ·rw[W]at A;cases A
  ·exact X J I A
 ·rcases h'.new b n k e with A|⟨J,I,A⟩
  ·cases ac:H b with
   | none=>exact .inl rfl
   | some x =>
    by_cases Y:∃n k,lv=.ms b 0 n k
    ·exact .inr Y
    ·have:=h.kept b x ac (λn k e=>Y ⟨n,k,e⟩);rw[A]at this;cases this
  ·exact h.new b J I A
def InsS.upd{H H1:zb}{lv U:AV}{xs:List (List UInt8)}{b:Nat}{x:AObj}(h:InsS H lv H1 U xs)(J:H1 b=none):InsS H lv (H1.upd b x) U xs:=by
 refine⟨?_,λc y X Z=>?_,h.new⟩
 ·rcases h.own with W|⟨b0,cap,aa,e,A,Y⟩
  ·exact .inl W
  ·refine .inr ⟨b0,cap,aa,e,?_,Y⟩;have I:b0≠b:=λe=>by subst e;rw[J]at A;cases A
   simp only[zb.upd,I,if_false];exact A
 ·have:=h.kept c y X Z;have I:c≠b:=λe=>by subst e;rw[J]at this;cases this
  simp only[zb.upd,I,if_false];exact this
def zxX{γ:Gh}{w A:World}{H:zb}{b:Nat}{cs newA:List AV}{vs new:List Value}{E:TypeId}(ab:zq γ w H)(Y:H b=some (.cells cs))(I:w.heap[b]?=some (.cells vs.toArray E (0,0)))(W:γ b=.own)(U:zv γ w newA new)(hlen:new.length=vs.length)(X:A=w.setRow b new.toArray∨A=w.drew.setRow b new.toArray):
  Ext (λb=>(H b).isSome=true) γ w γ A/\zq γ A (H.upd b (.cells newA))/\∀c,((H.upd b (.cells newA)) c).isSome=true->(H c).isSome=true∨w.heap.size<=c:=by
 have J:Ext (λc=>c=b) γ w γ A:=by
  rcases X with rfl|rfl
  ·exact zav I (by simpa using hlen) rfl (λq hq=>by simp[za3,W]at hq) (λ_ _=>rfl)
  ·exact(YA (λc=>c=b) γ w).trans (zav (F:=λc=>c=b) (w:=w.drew) I (by simpa using hlen) rfl (λq hq=>by simp[za3,W]at hq) (λ_ _=>rfl)) (λ_ _ f=>f)
 have Z:A.heap[b]?=some (.cells new.toArray E (0,0)):=by
  rcases X with rfl|rfl
  ·exact zbx w b _ _ E _ I
  ·exact zbx w.drew b _ _ E _ I
 exact⟨J.weaken λc e=>by subst e;simp[Y],zbr ab J (.cells _ _ E W Z U.1 U.2.1 λi c v aa ac=>(U.2.2 i c v aa ac).mono J.mono),zbi (by simp[Y])⟩
def zvf{γ:Gh}{w I:World}{H:zb}{newA:List AV}{new:List Value}{E:TypeId}(Z:zq γ w H)(X:∀γ w,zv γ w newA new)(A:Ext (λc=>c=w.heap.size) γ w (λc=>if c=w.heap.size then .own else γ c) I)(W:I.heap[w.heap.size]?=some (.cells new.toArray E (0,0))):
  Ext (λb=>(H b).isSome=true) γ w (λc=>if c=w.heap.size then .own else γ c) I/\zq (λc=>if c=w.heap.size then .own else γ c) I (H.upd w.heap.size (.cells newA))/\∀c,((H.upd w.heap.size (.cells newA)) c).isSome=true->(H c).isSome=true∨w.heap.size<=c:=by
 have Y:∀b,b<w.heap.size->¬ (b=w.heap.size):=λb h e=>by omega
 have J:=X (λc=>if c=w.heap.size then .own else γ c) I;refine⟨⟨A.mono,A.os,A.output,A.frozen,λb U _=>A.frame b U (Y b U)⟩,zbr Z A (.cells _ _ E (by simp) W J.1 J.2.1 J.2.2),ZD⟩
def zdm(xs:List (List UInt8)):∀v∈xs.map yb,v.oneCell'=true:=λv A=>by obtain⟨x,_,rfl⟩:=List.mem_map.1 A;rfl
def zh8{w:World}{b o:Nat}{arr:Array Value}{E:TypeId}{fr:Nat×Nat}(h:w.heap[b]?=some (.cells arr E fr)):w.cell? ⟨b,o,none⟩=arr[o]?:=cell_of_row w b o arr E fr h
def zeK{w:World}{b o:Nat}{arr:Array Value}{E:TypeId}(h:w.heap[b]?=some (.cells arr E (0,0))):w.frozen? ⟨b,o,none⟩=false:=by simp[World.frozen?,h]
def zdr(H:zb)(γ:Gh)(w:World)(lv:AV)(xs':List (List UInt8))(e:Ending)(W:World):Prop :=∃γ' H' r,Ext (λb=>(H b).isSome=true) γ w γ' W/\zq γ' W H'/\(∀b,(H' b).isSome=true->(H b).isSome=true∨w.heap.size<=b)/\zfv γ' W e r/\(match r with|.ret v=>InsS H lv H' v xs'|.pan _=>False)
def zly(xs:List (List UInt8))(nm:List UInt8){i:Nat}(hi:i<=xs.length):(xs.take i++nm::xs.drop i).length=xs.length+1:=by simp only[Al5,Al2,List.length_take,zbc];omega
def zmt{H:zb}{γ:Gh}{w A:World}{b cap i:Nat}{xs:List (List UInt8)}{nm:List UInt8}{a0:AV}{I:List AV}{al:Value}{J:List Value}{E:TypeId}{e:Ending}(ai:zq γ w H)(aa:H b=some (.cells (xs.map AV.str++a0::I)))(ab:w.heap[b]?=some (.cells (xs.map yb++al::J).toArray E (0,0)))(ae:γ b=.own)(ak:zv γ w I J)(hi:i<=xs.length)(ah:xs.length+1<=cap)(af:cap<=maxLen)(aj:xs.length+1+I.length=cap)(am:b<w.heap.size)(ad:e=Ending.returned (.slice (some ⟨b,0,none⟩) (xs.length+1) cap))(W:A=w.setRow b ((xs.take i++nm::xs.drop i).map yb++J).toArray∨A=w.drew.setRow b ((xs.take i++nm::xs.drop i).map yb++J).toArray):
  zdr H γ w (.ms b 0 xs.length cap) (xs.take i++nm::xs.drop i) e A:=by
 have U:=zly xs nm hi;obtain⟨X,Y,Z⟩:=zxX ai aa ab ae ((zgx γ w (xs.take i++nm::xs.drop i)).append ak) (by rw[Al5,List.length_map,U];simp only[Al5,List.length_map,Al2];omega) W;have hsz:A.heap.size=w.heap.size:=by
  rcases W with h|h
  ·rw[h,setRow_size]
  ·rw[h,setRow_size];rfl
 refine⟨γ,_,.ret (.ms b 0 (xs.length+1) cap),X,Y,Z,by rw[ad];exact .ms _ _ _ _ (by omega) ah af,.inr ⟨b,cap,I,by rw[U],upd_same ..,by rw[U];exact aj⟩,λc x ac ag=>?_,λc n k e=>?_⟩
 ·have:c≠b:=λe=>by subst e;exact ag _ _ rfl
  simp only[zb.upd,this,if_false];exact ac
 ·cases e;exact .inr ⟨_,_,rfl⟩
def ziF{H:zb}{γ:Gh}{w A:World}{G i:Nat}{xs:List (List UInt8)}{nm:List UInt8}{lv:AV}{E:TypeId}{e:Ending}(I:zq γ w H)(hi:i<=xs.length)(aa:xs.length+1<=G)(ab:G<=maxLen)(ac:e=Ending.returned (.slice (some ⟨w.heap.size,0,none⟩) (xs.length+1) G))(ad:Ext (λc=>c=w.heap.size) γ w (λc=>if c=w.heap.size then .own else γ c) A)(J:A.heap[w.heap.size]?=some (.cells ((xs.take i++nm::xs.drop i).map yb++(List.replicate (G-(xs.length+1)) []).map yb).toArray E (0,0))):zdr H γ w lv (xs.take i++nm::xs.drop i) e A:=by
 obtain⟨X,Y,Z⟩:=zvf (newA:=(xs.take i++nm::xs.drop i).map AV.str++(List.replicate (G-(xs.length+1)) []).map AV.str) I (λγ w=>(zgx γ w _).append (zgx γ w _)) ad J;have hsz:w.heap.size<A.heap.size:=(zdF.1 J).1;have W:=zly xs nm hi;refine⟨_,_,.ret (.ms w.heap.size 0 (xs.length+1) G),X,Y,Z,by rw[ac];exact .ms _ _ _ _ hsz aa ab,.inr ⟨w.heap.size,G,_,by rw[W],upd_same ..,by rw[W,List.length_map,List.length_replicate];omega⟩,λc x U _=>?_,λb n k e=>?_⟩
 ·have:c≠w.heap.size:=λe=>by have:=(I c x U).lt;omega
  simp only[zb.upd,this,if_false];exact U
 ·cases e;cases ae:H w.heap.size with
  | none=>exact .inl rfl
  | some x=>have:=(I _ x ae).lt;omega
section
variable {H:zb} {γ:Gh} {w:World} {vb:Nat} {Ev:TypeId} {nm:List UInt8}
def zgT(A:w.heap[vb]?=some (.cells [yb nm].toArray Ev (0,0))):∀j v,[yb nm][j]?=some v->w.cell? ⟨vb,0+j,none⟩=some v:=λj v h=>by rw[Nat.zero_add,zh8 A];simpa using h
def zwb(Y:zq γ w H)(Z:w.heap[vb]?=some (.cells [yb nm].toArray Ev (0,0))):
  Calls Tryz.prog 340 #[.slice none 0 0,.int .i64 0,.slice (some ⟨vb,0,none⟩) 1 1] w λe J=>zdr H γ w (.sl .nil 1 []) [nm] e J:=by
 have h:=Any2.slices_Insert_string_end_grow Tryz.laysNm222 none 0 0 vb 0 1 1 [] [yb nm] w (by omega) (by omega) (by omega) (by omega) rfl rfl (λ_=>rfl) (λa h=>by cases h) (zgT Z) (zdm [nm]);refine Calls.mono h λe w' ⟨X,A⟩=>?_;have U:=grownCap_ge w (0+1) 0 (Tryz.laysNm222_ren.t 9);have W:=grownCap_le_maxLen w (0+1) 0 (Tryz.laysNm222_ren.t 9) (by simp only[maxLen];omega);generalize grownCap w (0+1) 0 (Tryz.laysNm222_ren.t 9)=G at *
 rw[zgR]at A;have I:w'=w.drew.alloc (.cells (([]:List (List UInt8)).take 0++nm::([]:List (List UInt8)).drop 0 |>.map yb |>.append ((List.replicate (G-(0+1)) []).map yb)).toArray (Tryz.laysNm222_ren.t 9)):=by rw[A,List.append_toArray,List.map_replicate];rfl
 refine ziF (xs:=[]) (i:=0) (E:=Tryz.laysNm222_ren.t 9) Y (Al4 _) U W X ?_ (by rw[I];exact heap_alloc_new w.drew _);rw[I];exact(YA (λc=>c=w.heap.size) γ w).trans (Yn (λc=>c=w.heap.size) γ w.drew .own _ _) (λ_ _ f=>f)
variable {b cap i:Nat} {xs:List (List UInt8)} {E:TypeId} {spv:List Value}
def zn8(A:w.heap[b]?=some (.cells (xs.map yb++spv).toArray E (0,0))):∀j v,(xs.map yb)[j]?=some v->w.cell? ⟨b,0+j,none⟩=some v:=λj v h=>by rw[Nat.zero_add,zh8 A,List.getElem?_toArray,zeA (zaB.1 h).1];exact h
def zmO(A:w.heap[b]?=some (.cells (xs.map yb++spv).toArray E (0,0)))(I:(xs.map yb++spv).length=cap):∀j,j<cap->(w.cell? ⟨b,0+j,none⟩).isSome=true:=λj J=>by rw[Nat.zero_add,zh8 A,List.getElem?_toArray,Al9 (by omega)];rfl
def zqP{a0:AV}{aa:List AV}{U:Value}{A:List Value}(ar:zq γ w H)(W:w.heap[vb]?=some (.cells [yb nm].toArray Ev (0,0)))(aj:H b=some (.cells (xs.map AV.str++a0::aa)))(I:w.heap[b]?=some (.cells (xs.map yb++U::A).toArray E (0,0)))(ap:γ b=.own)(ad:zv γ w aa A)(an:i<xs.length)(ac:cap<=maxLen)(au:xs.length+1+aa.length=cap)(al:b≠vb):
  Calls Tryz.prog 340 #[.slice (some ⟨b,0,none⟩) xs.length cap,.int .i64 i,.slice (some ⟨vb,0,none⟩) 1 1] w λe ae=>zdr H γ w (.ms b 0 xs.length cap) (xs.take i++nm::xs.drop i) e ae:=by
 have aw:=ad.1;have Y:(xs.map yb++U::A).length=cap:=by simp only[Al5,List.length_map,Al2];omega
 have aq:b<w.heap.size:=(zdF.1 I).1;have J:(xs.map yb).length=xs.length:=List.length_map ..;have ao:=zmO I Y;have h:=Any2.slices_Insert_string_shift Tryz.laysNm222 b 0 xs.length cap i vb 0 1 1 (xs.map yb) [yb nm] w an (by omega) (by omega) ac (Ne.symm al) J rfl (zn8 I) (λj av=>ao j (by omega)) (λj _=>zeK I) (zgT W) (zdm xs) (zdm [nm]) Ev E 1 cap (by simp only[World.shape?,W];rfl) (by simp only[World.shape?,I,List.size_toArray,Y]) (by omega) (zeK W) (zeK W);refine Calls.mono h λe w' ⟨am,Z⟩=>zmt ar aj I ap ad (by omega) (by omega) ac au aq am (.inr ?_);have ab:w.drew.heap[b]?=some (.cells (xs.map yb++U::A).toArray E (0,0)):=I;have X:((xs.map yb).drop i).length=xs.length-i:=by rw[zbc,J]
 have ag:(xs.map yb++U::A).drop (i+1+((xs.map yb).drop i).length)=A:=by rw[X,show i+1+(xs.length-i)=(xs.map yb).length+1 by omega,<-List.drop_drop,List.drop_left];rfl
 have af:(xs.map yb++U::A).take (i+1)=(xs.map yb).take (i+1):=List.take_append_of_le_length (by omega);rw[Nat.zero_add,Nat.zero_add,Yk b E _ _ _ _ ab (by rw[X,Y];omega),af,ag]at Z;have ak:=setRow_heap w.drew b _ ((xs.map yb).take (i+1)++(xs.map yb).drop i++A).toArray E _ ab;have ah:((xs.map yb).take (i+1)++(xs.map yb).drop i++A).take i=(xs.map yb).take i:=by rw[ZP,List.take_append_of_le_length (by rw[List.length_take,J];omega),List.take_take,Nat.min_eq_left (by omega)]
 have ai:((xs.map yb).take (i+1)++(xs.map yb).drop i++A).drop (i+[yb nm].length)=(xs.map yb).drop i++A:=by rw[ZP,List.drop_left' (by rw[List.length_take,J,List.length_singleton];omega)]
 rw[Yk b E _ _ _ _ ak (by simp only[Al5,List.length_take,X,J,List.length_singleton];omega),setRow_setRow,ah,ai]at Z;rw[Z]
 congr 2
 rw[List.map_append,List.map_cons,List.map_take,List.map_drop];simp only[ZP,List.singleton_append,Al6,Z6]
def zlU{a0:AV}{U:List AV}{J:Value}{A:List Value}(ai:zq γ w H)(ak:w.heap[vb]?=some (.cells [yb nm].toArray Ev (0,0)))(ad:H b=some (.cells (xs.map AV.str++a0::U)))(I:w.heap[b]?=some (.cells (xs.map yb++J::A).toArray E (0,0)))(ag:γ b=.own)(Y:zv γ w U A)(X:cap<=maxLen)(aj:xs.length+1+U.length=cap):
  Calls Tryz.prog 340 #[.slice (some ⟨b,0,none⟩) xs.length cap,.int .i64 xs.length,.slice (some ⟨vb,0,none⟩) 1 1] w λe aa=>zdr H γ w (.ms b 0 xs.length cap) (xs.take xs.length++nm::xs.drop xs.length) e aa:=by
 have an:=Y.1;have W:(xs.map yb++J::A).length=cap:=by simp only[Al5,List.length_map,Al2];omega
 have ah:b<w.heap.size:=(zdF.1 I).1;have al:(xs.map yb).length=xs.length:=List.length_map ..;have af:=zmO I W;have h:=Any2.slices_Insert_string_end_room Tryz.laysNm222 b 0 xs.length cap vb 0 1 1 [yb nm] w (by omega) (by omega) X rfl (λj am=>by have:=af (xs.length+j) (by omega);rwa [show 0+(xs.length+j)=0+xs.length+j by omega]at this) (λj _=>zeK I) (zgT ak) (zdm [nm]);refine Calls.mono h λe w' ⟨ae,Z⟩=>zmt ai ad I ag Y (Al4 _) (by omega) X aj ah ae (.inl ?_);have ab:(xs.map yb++J::A).take xs.length=xs.map yb:=List.take_left' al;have ac:(xs.map yb++J::A).drop (xs.length+[yb nm].length)=A:=by rw[List.length_singleton,show xs.length+1=(xs.map yb).length+1 by omega,<-List.drop_drop,List.drop_left];rfl
 rw[Nat.zero_add,Yk b E _ _ _ _ I (by rw[W,List.length_singleton];omega),ab,ac]at Z;rw[Z,List.take_length,List.drop_length]
 congr 2
 simp only[List.map_append,List.map_cons,List.map_nil]
def zle(ac:zq γ w H)(ad:w.heap[vb]?=some (.cells [yb nm].toArray Ev (0,0)))(Y:w.heap[b]?=some (.cells (xs.map yb++spv).toArray E (0,0)))(Z:xs.length<=cap)(af:cap=xs.length)(hlen:xs.length<=1099511627776):
  Calls Tryz.prog 340 #[.slice (some ⟨b,0,none⟩) xs.length cap,.int .i64 xs.length,.slice (some ⟨vb,0,none⟩) 1 1] w λe J=>zdr H γ w (.ms b 0 xs.length cap) (xs.take xs.length++nm::xs.drop xs.length) e J:=by
 have ae:(xs.map yb).length=xs.length:=List.length_map ..;have U:=grownCap_ge w (xs.length+1) cap (Tryz.laysNm222_ren.t 9);have W:=grownCap_le_maxLen w (xs.length+1) cap (Tryz.laysNm222_ren.t 9) (by simp only[maxLen];omega);have h:=Any2.slices_Insert_string_end_grow Tryz.laysNm222 (some ⟨b,0,none⟩) xs.length cap vb 0 1 1 (xs.map yb) [yb nm] w (by omega) Z (by omega) (by omega) ae rfl (λh=>by cases h) (λa X j v ab=>by cases X;rw[Lib.addr_add];exact zn8 Y j v ab) (zgT ad) (zdm [nm]);generalize grownCap w (xs.length+1) cap (Tryz.laysNm222_ren.t 9)=G at *
 refine Calls.mono h λe w' ⟨aa,A⟩=>?_;rw[zgR,List.append_toArray]at A;have I:w'=w.drew.alloc (.cells ((xs.take xs.length++nm::xs.drop xs.length).map yb++(List.replicate (G-(xs.length+1)) []).map yb).toArray (Tryz.laysNm222_ren.t 9)):=by rw[A,List.take_length,List.drop_length,List.map_replicate,List.map_append,List.map_cons,List.map_nil]
 refine ziF (E:=Tryz.laysNm222_ren.t 9) ac (Al4 _) U W aa ?_ (by rw[I];exact heap_alloc_new w.drew _);rw[I];exact(YA (λc=>c=w.heap.size) γ w).trans (Yn (λc=>c=w.heap.size) γ w.drew .own _ _) (λ_ _ f=>f)
def zov{w U:World}{N:Nat}{E:TypeId}{γ:Gh}{A vs us C:List Value}{i j:Nat}(ag:N=w.heap.size)(Y:U=(((w.alloc (.cells A.toArray E)).drew.setCells N i vs).drew).setCells N j us)(ac:i+vs.length<=A.length)(ak:j+us.length<=A.length)(Z:(A.take i++vs++A.drop (i+vs.length)).take j++us++(A.take i++vs++A.drop (i+vs.length)).drop (j+us.length)=C):
  Ext (λc=>c=w.heap.size) γ w (λc=>if c=w.heap.size then .own else γ c) U/\U.heap[w.heap.size]?=some (.cells C.toArray E (0,0)):=by
 subst ag;have W:(w.alloc (.cells A.toArray E)).drew.heap[w.heap.size]?=some (.cells A.toArray E (0,0)):=heap_alloc_new w _;have ai:Ext (λc=>c=w.heap.size) γ w (λc=>if c=w.heap.size then .own else γ c) (w.alloc (.cells A.toArray E)).drew:=(Yn (λc=>c=w.heap.size) γ w .own A.toArray E).trans (YA (λc=>c=w.heap.size) _ _) (λ_ _ f=>f);rw[Yk w.heap.size E _ _ A _ W ac]at Y;generalize ad:A.take i++vs++A.drop (i+vs.length)=B at *
 have ae:B.length=A.length:=by rw[<-ad];simp only[Al5,List.length_take,zbc];omega
 generalize al:(w.alloc (.cells A.toArray E)).drew=J at *
 have ah:=setRow_heap J w.heap.size A.toArray B.toArray E (0,0) W;have aj:Ext (λc=>c=w.heap.size) (λc=>if c=w.heap.size then .own else γ c) J (λc=>if c=w.heap.size then .own else γ c) (J.setRow w.heap.size B.toArray) :=zav (F:=λc=>c=w.heap.size) W (by simpa using ae) rfl (λq hq=>by simp[za3]at hq) (λ_ _=>rfl);generalize J.setRow w.heap.size B.toArray=I at *
 have X:I.drew.heap[w.heap.size]?=some (.cells B.toArray E (0,0)):=ah;rw[Yk w.heap.size E _ _ B _ X (by omega),Z]at Y;have aa:=setRow_heap I.drew w.heap.size B.toArray C.toArray E (0,0) X;have af:C.length=B.length:=by rw[<-Z];simp only[Al5,List.length_take,zbc];omega
 have ab:Ext (λc=>c=w.heap.size) (λc=>if c=w.heap.size then .own else γ c) I.drew (λc=>if c=w.heap.size then .own else γ c) (I.drew.setRow w.heap.size C.toArray) :=zav (F:=λc=>c=w.heap.size) X (by simpa using af) rfl (λq hq=>by simp[za3]at hq) (λ_ _=>rfl);rw[<-Y]at aa ab;exact⟨((ai.trans aj (λ_ _ f=>f)).trans (YA (λc=>c=w.heap.size) _ I) (λ_ _ f=>f)).trans ab (λ_ _ f=>f),aa⟩
def zt7(af:zq γ w H)(ag:w.heap[vb]?=some (.cells [yb nm].toArray Ev (0,0)))(ab:w.heap[b]?=some (.cells (xs.map yb++spv).toArray E (0,0)))(ac:xs.length<=cap)(ak:cap=xs.length)(ae:i<xs.length)(hlen:xs.length<=1099511627776):
  Calls Tryz.prog 340 #[.slice (some ⟨b,0,none⟩) xs.length cap,.int .i64 i,.slice (some ⟨vb,0,none⟩) 1 1] w λe W=>zdr H γ w (.ms b 0 xs.length cap) (xs.take i++nm::xs.drop i) e W:=by
 have I:(xs.map yb).length=xs.length:=List.length_map ..;have Z:=grownCap_ge w (xs.length+1) cap (Tryz.laysNm222_ren.t 9);have aa:=grownCap_le_maxLen w (xs.length+1) cap (Tryz.laysNm222_ren.t 9) (by simp only[maxLen];omega);have h:=Any2.slices_Insert_string_grow Tryz.laysNm222 b 0 xs.length cap i vb 0 1 1 (xs.map yb) [yb nm] w ae (by omega) ac (by omega) (by omega) I rfl (zn8 ab) (zgT ag) (zdm xs) (zdm [nm]);generalize grownCap w (xs.length+1) cap (Tryz.laysNm222_ren.t 9)=G at *
 refine Calls.mono h λe w' ⟨ad,U⟩=>?_;rw[zgR,zgR,List.append_toArray,List.append_toArray]at U;have A:((xs.map yb).take i).length=i:=by rw[List.length_take,I];omega
 have J:((xs.map yb).drop i).length=xs.length-i:=by rw[zbc,I]
 obtain⟨X,Y⟩:=zov (γ:=γ) (C:=(xs.take i++nm::xs.drop i).map yb++(List.replicate (G-(xs.length+1)) []).map yb) rfl U (by simp only[Al5,A,List.length_replicate,List.length_singleton];omega) (by simp only[Al5,A,J,List.length_replicate];omega) (by
  have ah:((xs.map yb).take i++List.replicate (xs.length+1-i) (yb [])++List.replicate (G-(xs.length+1)) (yb [])).take i=(xs.map yb).take i:=by rw[ZP,List.take_left' A]
  rw[ah];have ai:((xs.map yb).take i++[yb nm]++((xs.map yb).take i++List.replicate (xs.length+1-i) (yb [])++List.replicate (G-(xs.length+1)) (yb [])).drop (i+[yb nm].length)).take (i+1)=(xs.map yb).take i++[yb nm]:=List.take_left' (by rw[Al5,A];rfl);rw[ai];have aj:((xs.map yb).take i++[yb nm]++((xs.map yb).take i++List.replicate (xs.length+1-i) (yb [])++List.replicate (G-(xs.length+1)) (yb [])).drop (i+[yb nm].length)).drop (i+1+((xs.map yb).drop i).length)=List.replicate (G-(xs.length+1)) (yb []):=by rw[<-List.drop_drop,List.drop_left' (by rw[Al5,A];rfl),List.drop_drop,List.drop_left' (by simp only[Al5,A,J,List.length_replicate,List.length_singleton];omega)]
  rw[aj,List.map_append,List.map_cons,List.map_take,List.map_drop,List.map_replicate];simp only[ZP,List.singleton_append,Al6,Z6])
 exact ziF (E:=Tryz.laysNm222_ren.t 9) af (by omega) Z aa ad X Y
end
def zBx(H:zb)(lv:AV)(xs:List (List UInt8))(i:Nat)(nm:List UInt8)(vb:Nat)(an:zho H lv xs)(hi:i<=xs.length)(au:H vb=some (.cells [.str nm]))(ap:∀b n c,lv=.ms b 0 n c->b≠vb)(hlen:xs.length<=1099511627776):
  zd Tryz.prog 340 [lv,.int .i64 i,.ms vb 0 1 1] H (λe H'=>match e with|.ret v=>InsS H lv H' v (xs.take i++nm::xs.drop i)|.pan _=>False):=by
 intro γ w vs a7 I aa;obtain⟨ao,hr⟩:=aa
 match vs,ao with
 | [v0,v1,v2],_ =>
  have ae:=hr 0 _ _ rfl rfl;cases hr 1 _ _ rfl rfl;cases hr 2 _ _ rfl rfl;have aw:=I vb _ au;cases aw with
  | cells _ af Ev a4 J av ar ax =>
  obtain⟨z,ah,ay⟩:=zgQ (xs:=[nm]) (sp:=[]) (γ:=γ) (w:=w) (vs:=af) ⟨by simpa using av,ar,λi c v A aa=>ax i c v (by simpa using A) aa⟩;obtain rfl:z=[]:=List.eq_nil_of_length_eq_zero (by simpa using ay.1.symm);obtain rfl:af=[yb nm]:=by simpa using ah
  rcases an with ⟨rfl,rfl⟩|⟨b,cap,sp,rfl,X,aq⟩
  ·obtain rfl:i=0:=by simpa using hi
   have ag:v0=.slice none 0 0:=by
    cases ae with
    | slnil _ _ ho=>rfl
    | sl0 _ _ a ho=>rcases ho with h|h<;>cases h
    | sl _ _ _ b a9 cap cv A Z a8 a3 a6 ho=>exact False.elim ho
   subst ag;exact zwb I J
  ·have ak:=I b _ X;cases ak with
   | cells _ a2 E ab U aj ai al =>
   have am:b≠vb:=ap _ _ _ rfl;obtain⟨spv,rfl,W⟩:=zgQ (xs:=xs) (sp:=sp) (γ:=γ) (w:=w) ⟨aj,ai,al⟩;have ad:=W.1;cases ae with
   | ms _ _ _ _ a5 A Z =>
   cases spv with
   | nil =>
    rw[Al3]at ad;by_cases Y:i<xs.length
    ·exact zt7 I J U A (by omega) Y hlen
    ·obtain rfl:i=xs.length:=by omega
     exact zle I J U A (by omega) hlen
   | cons ba a0 =>
    cases sp with
    | nil=>rw[Al3,Al2]at ad;omega
    | cons a1 az =>
     have ac:zv γ w az a0:=⟨by simpa using W.1,λi v h=>W.2.1 (i+1) v (by simpa using h),λi c v A h=>W.2.2 (i+1) c v (by simpa using A) (by simpa using h)⟩;rw[Al2]at aq;by_cases Y:i<xs.length
     ·exact zqP I J X U ab ac Y Z (by omega) am
     ·obtain rfl:i=xs.length:=by omega
      exact zlU I J X U ab ac Z (by omega)
end Go.Proofs.YtnemcnegfkjpeaaGreatDoor
namespace Go.Proofs.YtnemcnegfkjpeaaGreatDoor
open Go.Ab
def zqt:∀xs:List (List UInt8),(cT xs).flatten=xs.map AV.str
 | []=>rfl
 | x::r=>by have:=zqt r;simp only[cT,List.map_cons,List.flatten_cons]at this ⊢;rw[this];rfl
def zho.freeze{γ:Gh}{w:World}{H:zb}{lv:AV}{xs:List (List UInt8)}{v:Value}(J:zq γ w H)(h:zho H lv xs)(hr:Rep γ w lv v):
  ∃γ' H',(∀c,γ' c=γ c∨(γ' c=.imm/\γ c=.own/\∃n k,lv=.ms c 0 n k))/\zq γ' w H'/\(∀c x,H c=some x->(∀n k,lv≠.ms c 0 n k)->H' c=some x)/\(∀c x,H' c=some x->H c=some x)/\Rep γ' w (.sl .no 1 (cT xs)) v:=by
 rcases h with ⟨rfl,rfl⟩|⟨b,cap,sp,rfl,Z,aj⟩
 ·exact⟨γ,H,λc=>.inl rfl,J,λc x A _=>A,λc x A=>A,hr.strip1⟩
 ·cases J b _ Z with
  | cells _ vs E ab aa ac af ag =>
  cases hr with
  | ms _ _ _ _ ai A ad =>
  have m:Mono γ w (λc=>if c=b then .imm else γ c) w:=⟨Al4 _,λc q u ah X=>⟨by by_cases e:c=b<;>simp[za3,e]at X ⊢;exact X,ah⟩,λc arr E fr A=>⟨arr,A,rfl⟩⟩;obtain⟨spv,rfl,ak⟩:=zgQ (xs:=xs) (sp:=sp) (γ:=γ) (w:=w) ⟨ac,af,ag⟩;refine⟨λc=>if c=b then .imm else γ c,H.del b,λc=>?_,λc x A=>?_,λc x A ae=>?_,λc x A=>?_,?_⟩
  ·by_cases e:c=b
   ·subst e;exact .inr ⟨by simp,ab,_,_,rfl⟩
   ·exact .inl (by simp[e])
  ·unfold zb.del at A;split at A
   ·cases A
   ·rename_i e;exact(J c x A).kept m (by simp[e]) rfl
  ·have:c≠b:=λe=>by subst e;exact ae _ _ rfl
   simp only[zb.del,this,if_false];exact A
  ·unfold zb.del at A;split at A
   ·cases A
   ·exact A
  ·have U:=zqt xs;have W:=zgx (λc=>if c=b then .imm else γ c) w xs;have key:Rep (λc=>if c=b then .imm else γ c) w (.sl .no 1 (cT xs)) (.slice (some ⟨b,0,none⟩) (cT xs).length cap):=by
    refine Rep.sl_flat (us:=xs.map yb) (λx Y=>?_) (by rw[U];simp) (λj u I=>?_) (λj c u A I=>?_) (by rw[zG];exact A) ad trivial
    ·rw[cT]at Y;obtain⟨y,_,rfl⟩:=List.mem_map.1 Y;rfl
    ·refine⟨?_,by simp[za3],W.2.1 j u I⟩;rw[Nat.zero_add,zh8 aa,List.getElem?_toArray,zeA (zaB.1 I).1];exact I
    ·rw[U]at A;exact W.2.2 j c u A I
   rw[zG]at key;exact key
def zd.frozen{P:Program}{f:FuncId}{args:List AV}{H:zb}{xs:List (List UInt8)}(h:zd P f args H (λe H'=>match e with|.ret v=>InsS H (.sl .nil 1 []) H' v xs|.pan _=>False)):
  zd P f args H (λe H'=>match e with|.ret v=>v=.sl .no 1 (cT xs)/\∀c x,H c=some x->H' c=some x|.pan _=>False):=by
 intro γ w vs ao ad ap;refine(h γ w vs ao ad ap).mono λe w' ⟨γ',H',r,U,an,ab,X,hq⟩=>?_;cases r with
 | pan v=>exact hq.elim
 | ret lv =>
  simp only at hq;cases e with
  | panicked aq=>exact X.elim
  | outgrown=>exact X.elim
  | returned v =>
   have hr:Rep γ' w' lv v:=X;obtain⟨Y,Z,aa,af,ag,ah,ai⟩:=hq.own.freeze an hr;have ac:∀c n k,lv=.ms c 0 n k->w.heap.size<=c:=λc n k e=>by
    rcases hq.new c n k e with A|⟨au,ar,A⟩
    ·rcases hq.own with ⟨J,_⟩|⟨b,cap,av,J,aj,_⟩
     ·rw[J]at e;cases e
     ·rw[J]at e;cases e;rcases ab _ (by rw[aj];rfl)with h3|h3
      ·rw[A]at h3;cases h3
      ·exact h3
    ·cases A
   have am:∀c,c<w.heap.size->Y c=γ' c:=λc I=>by
    rcases aa c with A|⟨_,_,n,k,A⟩
    ·exact A
    ·have:=ac c n k A;omega
   have al:∀c o,za3 γ' c o->za3 Y c o:=λc o W=>by
    rcases aa c with A|⟨A,J,_⟩
    ·simpa[za3,A]using W
    ·simp[za3,J]at W
   refine⟨Y,Z,.ret (.sl .no 1 (cT xs)),⟨⟨U.mono.size,λc o v I W=>?_,U.mono.shape⟩,U.os,U.output,U.frozen,λc I ak=>?_⟩,af,λc I=>?_,ai,rfl,λc x I=>?_⟩
   ·obtain⟨A,J⟩:=U.mono.cell c o v I W;exact⟨al c o A,J⟩
   ·obtain⟨A,J⟩:=U.frame c I ak;exact⟨(am c I).trans A,J⟩
   ·cases ae:Z c with
    | none=>rw[ae]at I;cases I
    | some x=>exact ab c (by rw[ah c x ae];rfl)
   ·exact ag c x (hq.kept c x I λn k e=>by cases e) λn k e=>by have:=ac c n k e;have:=(ad c x I).lt;omega
def zho.ne{H:zb}{lv:AV}{xs:List (List UInt8)}{b:Nat}(h:zho H lv xs)(I:H b=none):∀n k,lv≠.ms b 0 n k:=λn k e=>by
 rcases h with ⟨h,_⟩|⟨b0,cap,J,h,A,_⟩
 ·rw[h]at e;cases e
 ·rw[h]at e;cases e;rw[I]at A;cases A
def zho.upd{H:zb}{lv:AV}{xs:List (List UInt8)}{b:Nat}{x:AObj}(h:zho H lv xs)(A:H b=none):zho (H.upd b x) lv xs:=((InsS.refl h).upd A).own
def zec(nm:List UInt8):List (List UInt8)->Nat->Option Nat
 | [],k=>some k
 | s::r,k=>if Op.bytesLess s nm=true then zec nm r (k+1)else if s=nm then none else some k
def zi8(nm:List UInt8):∀(l:List (List UInt8)) (k j:Nat),zec nm l k=some j->j<=k+l.length
 | [],k,j,h=>by simp only[zec,Al1]at h;simp;omega
 | s::r,k,j,h=>by
  simp only[zec]at h;split at h
  ·have:=zi8 nm r _ _ h;simp only[Al2];omega
  ·split at h
   ·cases h
   ·simp only[Al1]at h;omega
def ziB(l:List (List UInt8))(nm:List UInt8):List (List UInt8):=match zec nm l 0 with|none=>l|some k=>l.take k++nm::l.drop k
def zmm(l:List (List UInt8))(nm:List UInt8):(ziB l nm).length<=l.length+1:=by
 unfold ziB;split
 ·omega
 ·rename_i k A;have:=zi8 nm l 0 k A;rw[zly l nm (by omega)];omega
abbrev zoK(H:zb)(lv:AV)(xs':List (List UInt8)):AEnd->zb->Prop:=λe H'=>match e with|.ret v=>InsS H lv H' v xs'|.pan _=>False
def zbj{P:Program}{KP:AV->zb->Prop}{Q:AExit->Env->zb->Prop}{st:List Fr}{ρ:Env}{H:zb}{all l:List AItem}{d:Option Nat}{R:List Chk}{f:FuncId}{args:List AV}{lv:AV}{xs:List (List UInt8)}(h:zd P f args H (zoK H lv xs))(A:∀v H',InsS H lv H' v xs->goR P KP Q all l st R (ρ.set d v) H'):goK P KP Q all l st d R ρ f args H :=
 zi (XP:=λ_ _=>False) h A (λ_ _ h=>h.elim)
def zvb(H:zb)(lv:AV)(l:List (List UInt8))(nm:List UInt8)(ac:zho H lv l)(hlen:l.length<=1099511627776):zd Tryz.prog 323 [lv,.str nm] H (zoK H lv (ziB l nm)):=by
 have al:ziB l nm=match zec nm l 0 with|none=>l|some k=>l.take k++nm::l.drop k:=rfl
 have au:=zi8 nm l 0;have ag:=λ(k:Nat) (b:Nat) (Y:k<=l.length) (J:H b=none)=>zBx (H.upd b (.cells [.str nm])) lv l k nm b (ac.upd J) Y (upd_same ..) (λar n c e am=>ac.ne J n c (by rw[<-am];exact e)) hlen;have af:∀b k v A,H b=none->zec nm l 0=some k->InsS (H.upd b (.cells [.str nm])) lv A v (l.take k++nm::l.drop k)->InsS H lv A v (ziB l nm):=λb k v A J Y h=>by rw[al,Y];exact((InsS.refl ac).upd J).trans h
 unfold zoK;rcases ac with ⟨rfl,rfl⟩|⟨b,cap,ak,rfl,J,ap⟩
 ·refine zd.goO ir323.1 ir323.2 (Al4 _) λKP Q aa ao=>?_;simp(disch:=omega) only[ir323,go_sem];refine zf ([]:List Nat) 10 (λ_:Unit=>[(5,.int .i64 0)]) (λ_ _ _ H'=>H'=H) () (by simp(disch:=omega) only[go_sem]) rfl ?_ ?_
  ·rintro _ H1 ae rfl X;simp(disch:=omega) only[X,go_sem];refine zc λU W=>?_;simp(disch:=omega) only[go_sem];refine zbj (ag 0 U (Al4 _) W) λv A Z=>?_;simp(disch:=omega) only[go_sem];exact aa _ _ A A [v] nofun rfl (Low.refl _) (af U 0 v A W rfl Z)
  ·rintro done x rest _ H1 ae ai X _ _ _;simp at ai
 ·refine zd.goO ir323.1 ir323.2 (Al4 _) λKP Q aa ao=>?_;simp(disch:=omega) only[ir323,go_sem];refine zf l 10 (λk:Nat=>[(5,.int .i64 k)]) (λdone rest k H'=>H'=H/\k=done.length/\zec nm rest k=zec nm l 0) 0 (by simp(disch:=omega) only[go_sem]) ⟨rfl,rfl,rfl⟩ ?_ ?_
  ·rintro k H1 ae ⟨rfl,Y,I⟩ X;simp only[zec]at I;simp(disch:=omega) only[X,go_sem];refine zc λU W=>?_;simp(disch:=omega) only[go_sem];refine zbj (ag k U (by omega) W) λv A Z=>?_;simp(disch:=omega) only[go_sem];exact aa _ _ A A [v] nofun rfl (Low.refl _) (af U k v A W I.symm Z)
  ·rintro done x rest k H1 ae ai X av ⟨rfl,Y,I⟩ an;have aj:((l.map AV.str++ak).drop (0+done.length*1)).take 1=[.str x]:=by rw[ai];simp
   have ah:0+done.length*1+1<=(l.map AV.str++ak).length:=by simp;omega
   simp only[zec]at I;cases ab:Op.bytesLess x nm with
   | true =>rw[ab,if_pos rfl]at I;simp(disch:=omega) only[X,J,aj,ah,ab,go_sem];exact goJ (an (k+1) _ ⟨rfl,by simp[Y],I⟩) (by simp(disch:=omega) only[wrap64,Y,go_sem];simp)
   | false =>
    rw[ab,if_neg (by simp)]at I;by_cases ad:x=nm
    ·have aq:=eq_true ad;rw[if_pos ad]at I;simp(disch:=omega) only[X,J,aj,ah,ab,aq,go_sem];refine aa _ _ H1 H1 [.ms b 0 l.length cap] nofun rfl (Low.refl _) ?_;rw[al,<-I];exact InsS.refl (.inr ⟨b,cap,ak,rfl,J,ap⟩)
    ·rw[if_neg ad]at I;simp(disch:=omega) only[X,J,aj,ah,ab,ad,go_sem];refine zc λU W=>?_;simp(disch:=omega) only[go_sem];refine zbj (ag k U (by omega) W) λv A Z=>?_;simp(disch:=omega) only[go_sem];exact aa _ _ A A [v] nofun rfl (Low.refl _) (af U k v A W I.symm Z)
def vM:Mem->Val| .mk _ v=>v
def ofM(l:List (List UInt8))(m:Mem):List (List UInt8):=(yL (vM m) []).foldl ziB l
def znC:∀(A l:List (List UInt8)),(A.foldl ziB l).length<=l.length+A.length
 | [],l=>by simp
 | n::A,l=>by have:=znC A (ziB l n);have:=zmm l n;simp only[List.foldl_cons,Al2];omega
def zqd(l:List (List UInt8))(m:Mem):(ofM l m).length<=l.length+bM m:=by obtain⟨n,v⟩:=m;have I:=znC (yL v []) l;have A:=zcL v [];simp only[Al3]at A;simp only[ofM,vM,bM];omega
def zgM:∀(ms:List Mem) (l:List (List UInt8)),(ms.foldl ofM l).length<=l.length+bMs ms
 | [],l=>by simp[bMs]
 | m::ms,l=>by have:=zgM ms (ofM l m);have:=zqd l m;simp only[List.foldl_cons,bMs];omega
def zp4(a b:List Mem):bMs (a++b)=bMs a+bMs b:=by simp[zcF]
def ofC(H:zb)(lv:AV)(l:List (List UInt8))(ms:List Mem)(a3:zho H lv l)(hlen:l.length+bMs ms<=1099511627776):zd Tryz.prog 299 [lv,.sl .no 6 (cMs ms)] H (zoK H lv (ms.foldl ofM l)):=by
 have Z:=yU ms;have bf:=Zg ms;generalize av:ms.foldl ofM l=F;unfold zoK;refine zd.goO ir299.1 ir299.2 (Al4 _) λKP Q ay bd=>?_;simp(disch:=omega) only[ir299,Z,go_sem];refine zf ms 11 (λx:AV×List (List UInt8)=>[(0,x.1)]) (λdone rest x H'=>rest.foldl ofM x.2=F/\x.2.length<=l.length+bMs done/\InsS H lv H' x.1 x.2) (lv,l) (by simp(disch:=omega) only[go_sem]) ⟨av,by simp,InsS.refl a3⟩ ?_ ?_
 ·rintro⟨X,a⟩ H1 ar ⟨A,_,U⟩ ab;simp only[List.foldl]at A;simp(disch:=omega) only[Z,ab,go_sem];exact ay _ _ H1 H1 [X] nofun rfl (Low.refl _) (by rw[<-A];exact U)
 ·rintro done x rest ⟨X,a⟩ H1 ar ah ab _ ⟨A,a4,U⟩ aw;have ai:=Zz ah;have a0:=zqr done rest x;rw[<-ah,zp4 done [x]]at a0;have ag:bMs [x]=bM x:=by simp[bMs]
  rw[List.foldl_cons]at A;have bg:=zqd a x;simp only at a4 A;replace U:InsS H lv H1 X a:=U;have af:ofM a x=(yL (vM x) []).foldl ziB a:=rfl;have a9:=zcL (vM x) [];obtain⟨ao,v⟩:=x;simp only[vM,bM,Al3]at af ag a9;have aj:=ztn v (by simp only[Lim];omega);generalize yL v []=ak at *
  have ac:=zG ak;obtain⟨al,ap,xs,am,an⟩:=v;rw[zu,yj]at ai;rw[yj]at aj;simp(disch:=omega) only[Z,ab,ai,go_sem];refine zc λba az=>?_;have a8:=U.upd (x:=.cells [.str ao,.int .i64 al,.int .i64 ap,.str xs,.sl .no 5 (cVs am),.sl .no 6 (cMs an)]) az;simp(disch:=omega) only[go_sem];refine za aj ?_;simp(disch:=omega) only[ac,go_sem];refine zf ak 19 (λx:AV×List (List UInt8)=>[(0,x.1)]) (λdone rest x H'=>rest.foldl ziB x.2=ofM a (.mk ao (.mk al ap xs am an))/\x.2.length<=a.length+done.length/\InsS H lv H' x.1 x.2) (X,a) (by simp(disch:=omega) only[go_sem]) ⟨af.symm,by simp,a8⟩ ?_ ?_
  ·rintro⟨ad,J⟩ Y au ⟨I,aa,W⟩ a5;simp only[List.foldl]at I;simp only at aa;simp(disch:=omega) only[ac,a5,go_sem];exact goJ (aw (ad,J) Y ⟨by rw[I];exact A,by simp only[zp4,ag];omega,W⟩) (by simp(disch:=omega) only[wrap64,go_sem])
  ·rintro bc ae bh ⟨ad,J⟩ Y au a1 a6 _ ⟨I,aa,W⟩ ax;have a2:=YP a1;rw[List.foldl_cons]at I;simp only at aa I;have be:=zmm J ae;have hi:=zvb Y ad J ae W.own (by omega);simp(disch:=omega) only[ac,a6,a2,go_sem];refine zbj hi λv aq a7=>?_;simp(disch:=omega) only[go_sem];exact goJ (ax (v,ziB J ae) aq ⟨I,by simp only[Al5,Al2,Al3];omega,W.trans a7⟩) (by simp(disch:=omega) only[wrap64,go_sem])
def ofD(l:List (List UInt8))(d:DirD):List (List UInt8):=d.args.foldl ofM l
def zqw(ds:List DirD):∀l:List (List UInt8),(ds.foldl ofD l).length<=l.length+bDs ds:=by
 induction ds with
 | nil=>intro l;simp[bDs]
 | cons d r J =>
  intro l;have A:=J (ofD l d);have I:=zgM d.args l;have e:bDs (d::r)=bD d+bDs r:=by simp[bDs]
  have U:bD d=1+d.nm.length+bMs d.args:=rfl;rw[List.foldl_cons,e];simp only[ofD]at A I ⊢;omega
mutual
def wrS:SelD->List (List UInt8)->List (List UInt8)| .mk k al nm args dirs on sels,l=>zck sels (dirs.foldl ofD (args.foldl ofM l))
def zck:List SelD->List (List UInt8)->List (List UInt8)
 | [],l=>l
 | x::r,l=>zck r (wrS x l)
end
mutual
def zpA:∀(x:SelD) (l:List (List UInt8)),(wrS x l).length<=l.length+bS x| .mk k al nm args dirs on sels,l=>by have A:=zcK sels (dirs.foldl ofD (args.foldl ofM l));have I:=zqw dirs (args.foldl ofM l);have J:=zgM args l;simp only[wrS,bS];omega
def zcK:∀(r:List SelD) (l:List (List UInt8)),(zck r l).length<=l.length+bSs r
 | [],l=>by simp[zck]
 | x::r,l=>by have A:=zpA x l;have I:=zcK r (wrS x l);simp only[zck,bSs];omega
end
def zvQ(a b:List DirD):bDs (a++b)=bDs a+bDs b:=by simp[bDs]
def zp5(a b:List SelD):bSs (a++b)=bSs a+bSs b:=by
 induction a with
 | nil=>simp[bSs]
 | cons x a A=>simp only[Al6,bSs,A];omega
def zmV:∀c:Nat,∀(I:List SelD) (H:zb) (lv:AV) (l:List (List UInt8)),bSs I<=c->zho H lv l->l.length+bSs I<=1099511627776->zd Tryz.prog 243 [lv,.sl .no 7 (cSs I)] H (zoK H lv (zck I l)):=by
 intro c;induction c using Nat.strongRecOn with
 | _ c b3 =>
 intro I H lv l cf bt hlen;have an:=YK I;have ch:=Y9 I;generalize bn:zck I l=F;unfold zoK;refine zd.goO ir243.1 ir243.2 (Al4 _) λKP Q bq cd=>?_;simp(disch:=omega) only[ir243,an,go_sem];refine zf I 11 (λx:AV×List (List UInt8)=>[(0,x.1)]) (λdone rest x H'=>zck rest x.2=F/\x.2.length<=l.length+bSs done/\InsS H lv H' x.1 x.2) (lv,l) (by simp(disch:=omega) only[go_sem]) ⟨bn,by simp,InsS.refl bt⟩ ?_ ?_
 ·rintro⟨b5,a⟩ H1 be ⟨Z,_,aa⟩ am;simp only[zck]at Z;simp(disch:=omega) only[an,am,go_sem];exact bq _ _ H1 H1 [b5] nofun rfl (Low.refl _) (by rw[<-Z];exact aa)
 ·rintro done x rest ⟨ag,a⟩ H1 be a3 am _ ⟨Z,bv,aa⟩ bo;have a5:=zbo a3;have a1:=zbk done x rest;rw[<-a3]at a1;have br:bSs (done++[x])=bSs done+bS x:=by rw[zp5];simp[bSs]
  simp only[zck]at Z;have b2:=zpA x a;simp only at bv Z;replace aa:InsS H lv H1 ag a:=aa;obtain⟨k,W,nm,args,dirs,on,sels⟩:=x;have bj:wrS (.mk k W nm args dirs on sels) a=zck sels (dirs.foldl ofD (args.foldl ofM a)):=by simp only[wrS]
  simp only[bS]at a1 br b2;have ca:=zgM args a;have cb:=zqw dirs (args.foldl ofM a);have cg:=zbh dirs;have ao:=Y4 dirs;generalize ce:wrS (.mk k W nm args dirs on sels) a=bg at *
  generalize bk:args.foldl ofM a=ah at *
  rw[y9]at a5;simp(disch:=omega) only[an,am,a5,go_sem];refine zc λA a0=>?_;have bc:=aa.upd (x:=.cells [.int .i64 k,.str W,.str nm,.sl .no 6 (cMs args),.sl .no 2 (cDs dirs),.str on,.sl .no 7 (cSs sels)]) a0;have a9:=aa.own.ne a0;have ar:(H1.upd A (.cells [.int .i64 k,.str W,.str nm,.sl .no 6 (cMs args),.sl .no 2 (cDs dirs),.str on,.sl .no 7 (cSs sels)])) A=some (.cells [.int .i64 k,.str W,.str nm,.sl .no 6 (cMs args),.sl .no 2 (cDs dirs),.str on,.sl .no 7 (cSs sels)]):=upd_same ..;simp(disch:=omega) only[go_sem];generalize cc:(H1.upd A (.cells [.int .i64 k,.str W,.str nm,.sl .no 6 (cMs args),.sl .no 2 (cDs dirs),.str on,.sl .no 7 (cSs sels)]))=ai at *
  have ax:=ofC ai ag a args bc.own (by omega);rw[bk]at ax;refine zbj ax λb8 b9 ba=>?_;have au:=ba.kept A _ ar a9;simp(disch:=omega) only[au,ao,go_sem];refine zf dirs 22 (λx:AV×List (List UInt8)=>[(0,x.1)]) (λdone rest x H'=>H' A=some (.cells [.int .i64 k,.str W,.str nm,.sl .no 6 (cMs args),.sl .no 2 (cDs dirs),.str on,.sl .no 7 (cSs sels)])/\rest.foldl ofD x.2=dirs.foldl ofD ah/\x.2.length<=ah.length+bDs done/\InsS ai ag H' x.1 x.2) (b8,ah) (by simp(disch:=omega) only[go_sem]) ⟨au,rfl,by simp,ba⟩ ?_ ?_
  ·rintro⟨ab,J⟩ ac bf ⟨ad,U,a8,X⟩ bw;simp only[List.foldl]at U;have a7:=b3 (bSs sels) (by omega) sels ac ab J (Al4 _) X.own (by rw[U];omega);rw[U,<-bj]at a7;simp(disch:=omega) only[ao,bw,ad,go_sem];refine zbj a7 λap aj af=>?_;simp(disch:=omega) only[go_sem];exact goJ (bo (ap,bg) aj ⟨Z,by simp only;omega,bc.trans (X.trans af)⟩) (by simp(disch:=omega) only[wrap64,go_sem])
  ·rintro ak Y b7 ⟨ab,J⟩ ac bf a4 bx _ ⟨ad,U,a8,X⟩ bp;have a6:=zbb a4;have a2:=zeT ak Y b7;rw[<-a4]at a2;have az:bDs (ak++[Y])=bDs ak+bD Y:=by rw[zvQ];simp[bDs]
   rw[List.foldl_cons]at U;have aw:ofD J Y=Y.args.foldl ofM J:=rfl;have bu:=zgM Y.args J;simp only at a8 U;replace X:InsS ai ag ac ab J:=X;obtain⟨av,ae⟩:=Y;simp only[bD]at a2 az;simp only at aw bu;rw[aw]at U;generalize bl:ae.foldl ofM J=E at *
   rw[zid]at a6;simp(disch:=omega) only[ao,bx,a6,go_sem];refine zc λaq al=>?_;have bd:=X.upd (x:=.cells [.str av,.sl .no 6 (cMs ae)]) al;have b1:A≠aq:=λe=>by subst e;rw[ad]at al;cases al
   have ay:=ofC (ac.upd aq (.cells [.str av,.sl .no 6 (cMs ae)])) ab J ae bd.own (by omega);rw[bl]at ay;have bz:∀n k,ab≠.ms A 0 n k:=λn k e=>by
    rcases X.new A n k e with h|⟨b6,b4,h⟩
    ·rw[ar]at h;cases h
    ·exact a9 b6 b4 h
   simp(disch:=omega) only[go_sem];refine zbj ay λap aj af=>?_;have bh:=af.kept A _ (by simp only[zb.upd,b1,if_false];exact ad) bz;simp(disch:=omega) only[go_sem];exact goJ (bp (ap,E) aj ⟨bh,U,by simp only[az];omega,bd.trans af⟩) (by simp(disch:=omega) only[wrap64,go_sem])
def zba(d:DocD)(sels:List SelD):List (List UInt8):=(ZL d sels).foldl (λl n=>zck ((yt d n).getD zFr).sels l) (zck sels [])
def zpL(d:DocD)(n:List UInt8):bSs ((yt d n).getD zFr).sels<=bFs d.frags:=by
 cases h:yt d n with
 | none=>simp[zFr,bSs]
 | some f=>exact Nat.le_trans (zaI f) (zcj (List.mem_of_find?_eq_some h))
def ziz(d:DocD)(sels:List SelD):(ZL d sels).length<=d.frags.length:=by
 have h:∀(R:List (List UInt8)) (A:List FragD) (a:List (List UInt8)),(A.foldl (Zr R) a).length<=a.length+A.length:=by
  intro R A;induction A with
  | nil=>simp
  | cons f A I =>
   intro a;have:=I (Zr R a f);have J:(Zr R a f).length<=a.length+1:=by unfold Zr;split<;>simp
   simp only[List.foldl_cons,Al2];omega
 have:=h (Zl d sels) d.frags [];simpa[ZL]using this
def zAX(d:DocD)(sels:List SelD)(H:zb)(W:y8 d<=Lim)(bl:lenD d*zw d+zw d<=1099511627776)(a8:bSs sels<=zw d):zd Tryz.prog 157 [.agg (zU d),.sl .no 7 (cSs sels)] H (λe H'=>match e with|.ret v=>v=.sl .no 1 (cT (zba d sels))/\∀c x,H c=some x->H' c=some x|.pan _=>False):=by
 refine zd.frozen ?_;have av:=W;simp only[y8,Lim]at av;have bg:bFs d.frags<=zw d:=by simp only[zw];omega
 have bn:=yC d.frags;have ab:=λn=>znl d n (by simp only[Lim];omega);have a1:=λn=>zpL d n;have ad:=λH=>ztS d sels H W a8;have bp:=ziz d sels;have al:zba d sels=(ZL d sels).foldl (λl n=>zck ((yt d n).getD zFr).sels l) (zck sels []):=rfl;have a9:=zcK sels [];have hmul:(ZL d sels).length*zw d<=lenD d*zw d:=Nat.mul_le_mul_right _ (by simp only[lenD];omega);have ap:=zmV (bSs sels) sels H (.sl .nil 1 []) [] (Al4 _) (.inl ⟨rfl,rfl⟩) (by simp;omega);simp only[Al3]at a9;generalize zba d sels=F at *
 generalize ZL d sels=R at *
 generalize bk:zck sels []=aa at *
 generalize bh:zw d=B at *
 have ay:zU d=[.sl .no 5 (cOs d.ops),.sl .no 4 (cFs d.frags)]:=rfl;simp only[ay]at ab ad ⊢;have Z:=zG R;refine zd.goO ir157.1 ir157.2 (Al4 _) λKP Q ar bj=>?_;simp(disch:=omega) only[ir157,go_sem];refine zbj ap λah H1 Y=>?_;simp(disch:=omega) only[go_sem];refine zx (ad _) λbr ai ae=>?_;have a6:InsS H (.sl .nil 1 []) ai ah aa:=by
  refine⟨?_,λc x ax _=>ae.kept c x (Y.kept c x ax λn k e=>by cases e) (λd e=>by cases e),Y.new⟩;rcases Y.own with h|⟨b,cap,bc,e,W,a4⟩
  ·exact .inl h
  ·exact .inr ⟨b,cap,bc,e,ae.kept b _ W (λd e=>by cases e),a4⟩
 simp(disch:=omega) only[Z,go_sem];refine zf R 16 (λx:AV×List (List UInt8)=>[(5,x.1)]) (λdone rest x H'=>rest.foldl (λl n=>zck ((yt d n).getD zFr).sels l) x.2=F/\x.2.length<=B+done.length*B/\InsS H (.sl .nil 1 []) H' x.1 x.2) (ah,aa) (by simp(disch:=omega) only[go_sem]) ⟨al.symm,by simp only;omega,a6⟩ ?_ ?_
 ·rintro⟨ba,a⟩ U ak ⟨A,_,J⟩ X;simp only[List.foldl]at A;simp(disch:=omega) only[Z,X,go_sem];exact ar _ _ U U [ba] nofun rfl (Low.refl _) (by rw[<-A];exact J)
 ·rintro done x rest ⟨ag,a⟩ U ak az X bo ⟨A,a5,J⟩ aq;have a3:=YP az;have ac:=ab x;have a2:=a1 x;have a0:(done.length+1)*B<=R.length*B:=Nat.mul_le_mul_right _ (by omega);rw[Nat.add_mul,Nat.one_mul]at a0;rw[List.foldl_cons]at A;simp only at A a5;replace J:InsS H (.sl .nil 1 []) U ag a:=J;generalize (yt d x).isSome=bf at *
  generalize (yt d x).getD zFr=f at *
  obtain⟨an,ao,am,I⟩:=f;rw[Yp]at ac;simp only at a2 A;have bq:=zcK I a;simp(disch:=omega) only[Z,X,a3,go_sem];refine za ac ?_;simp(disch:=omega) only[go_sem];refine zc λbe aw=>?_;have af:=J.upd (x:=.cells [.str an,.str ao,.sl .no 2 (cDs am),.sl .no 7 (cSs I)]) aw;have au:=zmV (bSs I) I _ ag a (Al4 _) af.own (by omega);simp(disch:=omega) only[go_sem];refine zbj au λbd aj a7=>?_;simp(disch:=omega) only[go_sem];exact goJ (aq (bd,zck I a) aj ⟨A,by simp only[Al5,Al2,Al3,Nat.add_mul,Nat.one_mul];omega,af.trans a7⟩) (by simp(disch:=omega) only[wrap64,go_sem])
def zvu(v:VarD)(s:SchD)(J:s.defs.length<=Lim):ze Tryz.prog 155 [.agg (cW v),.view (zm s)] (.bool (!zci s v.t.nm)):=by have A:=zut s v.t.nm J;obtain⟨nm,⟨X,Y,Z⟩,h,⟨k,q,st,l,m⟩⟩:=v;obtain⟨U,W,sm⟩:=s;simp only[zm]at A ⊢;refine ze.go ir155.1 ir155.2 (Al4 _) λKP Q I=>?_;simp(disch:=omega) only[ir155,z7,go_sem];refine za A ?_;simp(disch:=omega) only[go_sem];exact I _ _ _ _ nofun rfl (by simp )
def zuT(n:List UInt8)(o:OpD)(J:o.vars.length<=Lim):ze Tryz.prog 158 [.str n,.view (cO o)] (.bool (!(ya o.vars n).isSome)):=by
 have A:=zpX o n J;generalize (ya o.vars n).isSome=ac at *
 generalize (ya o.vars n).getD zW=w at *
 obtain⟨nm,⟨Z,aa,ab⟩,h,⟨k,q,st,l,m⟩⟩:=w;obtain⟨ok,X,vs,ds,Y⟩:=o;rw[zam]at A ⊢;rw[z7]at A;refine ze.go ir158.1 ir158.2 (Al4 _) λKP Q I=>?_;simp(disch:=omega) only[ir158,go_sem];refine za A ?_;simp(disch:=omega) only[go_sem];refine zc λU W=>?_;simp(disch:=omega) only[go_sem];exact I _ _ _ _ nofun rfl (by simp )
def zuI(v:VarD)(us:List (List UInt8))(b:Nat)(H:zb)(J:H b=some (.cells [.sl .no 1 (cT us)]))(U:us.length<=Lim):zd Tryz.prog 160 [.agg (cW v),.ptr b 0] H (At (.bool (!yo v.nm us)) H):=by
 have A:=yD us v.nm U;obtain⟨nm,⟨W,X,Y⟩,h,⟨k,q,st,l,m⟩⟩:=v;simp only at A ⊢;generalize yo nm us=Z at *
 refine zd.go ir160.1 ir160.2 (Al4 _) λKP Q I=>?_;simp(disch:=omega) only[ir160,z7,J,go_sem];refine za A ?_;simp(disch:=omega) only[go_sem];exact I _ _ _ _ _ nofun rfl (Low.refl _) ⟨by simp ,rfl⟩
def zee(s:SchD)(d:DocD)(n:Int)(o:OpD):Bool :=
 if n=18 then zaN [] o.vars else if n=19 then !o.vars.any λv=>!zci s v.t.nm
 else if n=20 then !(zba d o.sels).any λn=>!(ya o.vars n).isSome
 else !o.vars.any λv=>!yo v.nm (zba d o.sels)
def zqF(d:DocD)(sels:List SelD):(zba d sels).length<=bSs sels+d.frags.length*zw d:=by
 have W:bFs d.frags<=zw d:=by simp only[zw];omega
 have A:=ziz d sels;have h:∀(R l:List (List UInt8)),(R.foldl (λl n=>zck ((yt d n).getD zFr).sels l) l).length<=l.length+R.length*zw d:=by
  intro R;induction R with
  | nil=>simp
  | cons n R U =>intro l;have A:=U (zck ((yt d n).getD zFr).sels l);have J:=zcK ((yt d n).getD zFr).sels l;have I:=zpL d n;rw[List.foldl_cons,Al2,Nat.add_mul,Nat.one_mul];omega
 have J:=h (ZL d sels) (zck sels []);have I:=zcK sels [];have X:(ZL d sels).length*zw d<=d.frags.length*zw d:=Nat.mul_le_mul_right _ A;simp only[Al3]at I;simp only[zba];omega
def zxw(s:SchD)(d:DocD)(o:OpD)(n:Int)(ak:zJ s<=Lim)(Y:y8 d<=Lim)(af:lenD d*zw d+zw d<=1099511627776)(ho:bO o<=zw d):ze Tryz.prog 78 [.agg (zm s),.agg (zU d),.agg (cO o),.int .i64 n] (.bool (zee s d n o)):=by
 have ag:=Y;simp only[y8,Lim]at ag;have aj:=ho;simp only[bO]at aj;have aq:=yJ o.vars;have ao:=yC d.frags;have am:bFs d.frags<=zw d:=by simp only[zw];omega
 have hmul:d.frags.length*zw d<=lenD d*zw d:=Nat.mul_le_mul_right _ (by simp only[lenD];omega);have ap:=zqF d o.sels;have Z:=zsM o (by simp only[Lim];omega);have aa:=zrk cW zaP o.vars 155 [.view (zm s)] (λv=>!zci s v.t.nm) (by simp only[Lim];omega) (by kernel_rfl) λv _=>zvu v s (yc ak);have X:=λH=>zAX d o.sels H Y af (by omega);have ab:=zoy (λn:List UInt8=>AV.str n) (zba d o.sels) 158 [.view (cO o)] (λn=>!(ya o.vars n).isSome) (by simp only[Lim];omega) (by kernel_rfl) λn _=>zuT n o (by simp only[Lim];omega);have ac:=λb H (h:H b=some (.cells [.sl .no 1 (cT (zba d o.sels))]))=>zi7 cW zaP o.vars 160 [.ptr b 0] (λv=>!yo v.nm (zba d o.sels)) H (by simp only[Lim];omega) (by kernel_rfl) λv _=>zuI v (zba d o.sels) b H h (by simp only[Lim];omega);have A:zee s d n o=if n=18 then zaN [] o.vars else if n=19 then !o.vars.any λv=>!zci s v.t.nm else if n=20 then !(zba d o.sels).any λn=>!(ya o.vars n).isSome else !o.vars.any λv=>!yo v.nm (zba d o.sels):=rfl
 generalize zee s d n o=F at *
 generalize zaN [] o.vars=ax at *
 generalize (o.vars.any λv=>!zci s v.t.nm)=ay at *
 generalize ((zba d o.sels).any λn=>!(ya o.vars n).isSome)=az at *
 generalize (o.vars.any λv=>!yo v.nm (zba d o.sels))=a0 at *
 generalize zba d o.sels=al at *
 obtain⟨ok,ar,vs,ds,aw⟩:=o;obtain⟨au,av,sm⟩:=s;have ah:zU d=[.sl .no 5 (cOs d.ops),.sl .no 4 (cFs d.frags)]:=rfl;simp only[zm,ah,zam]at Z aa X ab ac ⊢;refine ze.go ir78.1 ir78.2 (Al4 _) λKP Q I=>?_;by_cases J:n=18
 ·subst J;rw[if_pos rfl]at A;subst A;simp(disch:=omega) only[ir78,go_sem];refine za Z ?_;simp(disch:=omega) only[go_sem];exact I _ _ _ _ nofun rfl (by simp )
 rw[if_neg J]at A;by_cases U:n=19
 ·subst U;rw[if_pos rfl]at A;subst A;simp(disch:=omega) only[ir78,go_sem];refine za aa ?_;simp(disch:=omega) only[go_sem];exact I _ _ _ _ nofun rfl (by simp )
 rw[if_neg U]at A;by_cases W:n=20
 ·subst W;rw[if_pos rfl]at A;subst A;simp(disch:=omega) only[ir78,go_sem];refine zi (XP:=λ_ _=>False) (X _) (λv ad ⟨e,ai⟩=>?_) (λ_ _ h=>h.elim);subst e;simp(disch:=omega) only[go_sem];refine za ab ?_;simp(disch:=omega) only[go_sem];exact I _ _ _ _ nofun rfl (by simp )
 rw[if_neg W]at A;subst A;simp(disch:=omega) only[ir78,J,U,W,go_sem];refine zi (XP:=λ_ _=>False) (X _) (λv ad ⟨e,ai⟩=>?_) (λ_ _ h=>h.elim);subst e;simp(disch:=omega) only[go_sem];refine zc λae an=>?_;simp(disch:=omega) only[go_sem];refine zQ (ac ae _ (upd_same ..)) ?_;rintro _ _ ⟨_,rfl,rfl,rfl⟩;simp(disch:=omega) only[ZT,go_sem];exact I _ _ _ _ nofun rfl (by simp )
def zwn(o:OpD)(s:SchD)(d:DocD)(n:Int)(X:zJ s<=Lim)(J:y8 d<=Lim)(U:lenD d*zw d+zw d<=1099511627776)(ho:bO o<=zw d):ze Tryz.prog 77 [.agg (cO o),.view (zm s),.view (zU d),.view [.int .i64 n]] (.bool (!zee s d n o)):=by
 have A:=zxw s d o n X J U ho;generalize zee s d n o=ac at *
 obtain⟨ok,Y,vs,ds,ab⟩:=o;obtain⟨Z,aa,sm⟩:=s;have W:zU d=[.sl .no 5 (cOs d.ops),.sl .no 4 (cFs d.frags)]:=rfl;simp only[zm,W,zam]at A ⊢;refine ze.go ir77.1 ir77.2 (Al4 _) λKP Q I=>?_;simp(disch:=omega) only[ir77,go_sem];refine za A ?_;simp(disch:=omega) only[go_sem];exact I _ _ _ _ nofun rfl (by simp )
def zjf(s:SchD)(d:DocD)(n:Int):Bool:=decide (18<=n)&&decide (n<=21)&&!d.ops.any λo=>!zee s d n o
def zxk(s:SchD)(d:DocD)(n:Int)(ab:zJ s<=Lim)(U:y8 d<=Lim)(X:lenD d*zw d+zw d<=1099511627776):ze Tryz.prog 33 [.agg (zm s),.agg (zU d),.int .i64 n] (.bool (zjf s d n)):=by
 have Y:=U;simp only[y8,Lim]at Y;have ac:bOs d.ops<=zw d:=by simp only[zw];omega
 have ad:=Zu d.ops;have W:=anyOp cO (λ_=>rfl) d.ops 77 [.view (zm s),.view (zU d),.view [.int .i64 n]] (λo=>!zee s d n o) (by simp only[Lim];omega) (by kernel_rfl) λo ho=>zwn o s d n ab U X (by obtain⟨a,b,aa⟩:=List.append_of_mem ho;have:=YW a o b;rw[<-aa]at this;omega);unfold zjf;generalize (d.ops.any λo=>!zee s d n o)=ag at *
 obtain⟨ae,af,sm⟩:=s;have Z:zU d=[.sl .no 5 (cOs d.ops),.sl .no 4 (cFs d.frags)]:=rfl;simp only[zm,Z]at W ⊢;refine ze.go ir33.1 ir33.2 (Al4 _) λKP Q J=>?_;by_cases A:18<=n
 case neg =>simp(disch:=omega) only[ir33,A,go_sem];exact J _ _ _ _ nofun rfl (by simp[A])
 by_cases I:n<=21
 case neg =>simp(disch:=omega) only[ir33,A,I,go_sem];exact J _ _ _ _ nofun rfl (by simp[A,I])
 simp(disch:=omega) only[ir33,A,I,go_sem];refine za W ?_;simp(disch:=omega) only[go_sem];exact J _ _ _ _ nofun rfl (by simp[A,I])
def zvm(x:SelD):ze Tryz.prog 166 [.agg (cS x)] (.str (zhS x)):=by
 obtain⟨k,U,nm,args,dirs,on,sels⟩:=x;rw[y9];refine ze.go ir166.1 ir166.2 (Al4 _) λKP Q J=>?_;by_cases I:k=0
 case neg =>simp(disch:=omega) only[ir166,I,go_sem];exact J _ _ _ _ nofun rfl (by simp[zhS,I])
 subst I;by_cases A:U=[]
 ·have W:=eq_true A;simp(disch:=omega) only[ir166,W,go_sem];exact J _ _ _ _ nofun rfl (by simp[zhS,A])
 ·simp(disch:=omega) only[ir166,A,go_sem];exact J _ _ _ _ nofun rfl (by simp[zhS,A])
def zAt(s:SchD)(a b:TyD)(U:s.defs.length<=Lim):ze Tryz.prog 304 [.agg (zm s),.agg (cTy a),.agg (cTy b)] (.bool (zjP s a b)):=by
 have X:=zm1 s a.nm U;have Y:=zm1 s b.nm U;have Z:=zie s a.nm U;have aa:=zie s b.nm U;have A:zjP s a b=(decide (a.lists=b.lists)&&decide (a.musts=b.musts)&&(if zaT s a.nm||zaT s b.nm then decide (a.nm=b.nm)else Z4 s a.nm&&Z4 s b.nm)):=rfl;generalize zjP s a b=F at *
 generalize zaT s a.nm=af at *
 generalize zaT s b.nm=ag at *
 generalize Z4 s a.nm=ah at *
 generalize Z4 s b.nm=ao at *
 obtain⟨ak,ab,ac⟩:=a;obtain⟨al,ad,ae⟩:=b;obtain⟨am,an,sm⟩:=s;simp only[zm,cTy]at X Y Z aa A ⊢;refine ze.go ir304.1 ir304.2 (Al4 _) λKP Q I=>?_;by_cases J:ab=ad
 case neg =>simp(disch:=omega) only[ir304,J,go_sem];exact I _ _ _ _ nofun rfl (by simp[A,J])
 by_cases W:ac=ae
 case neg =>simp(disch:=omega) only[ir304,J,W,go_sem];exact I _ _ _ _ nofun rfl (by simp[A,W])
 have ai:=eq_true J;have aj:=eq_true W;simp only[J,W,decide_true,Bool.true_and]at A;simp(disch:=omega) only[ir304,ai,aj,go_sem];refine za X ?_;cases af with
 | true =>simp(disch:=omega) only[go_sem];exact I _ _ _ _ nofun rfl (by simp[A])
 | false =>
 simp(disch:=omega) only[go_sem];refine za Y ?_;cases ag with
 | true =>simp(disch:=omega) only[go_sem];exact I _ _ _ _ nofun rfl (by simp[A])
 | false =>
 simp(disch:=omega) only[go_sem];refine za Z ?_;cases ah with
 | false =>simp(disch:=omega) only[go_sem];exact I _ _ _ _ nofun rfl (by simp[A])
 | true =>
 simp(disch:=omega) only[go_sem];refine za aa ?_;simp(disch:=omega) only[go_sem];exact I _ _ _ _ nofun rfl (by simp[A])
noncomputable def zsH(b:List Mem)(m:Mem):Bool:=(zcA (mN m) b).2&&eqd (vM m) (zcA (mN m) b).1
noncomputable def zfl(a b:List Mem):Bool:=a.all (zsH b)&&decide (a.length=b.length)
def zzX(a b:List Mem)(am:bMs a<=Lim)(ao:bMs b<=Lim):ze Tryz.prog 252 [.sl .no 6 (cMs a),.sl .no 6 (cMs b)] (.bool (zfl a b)):=by
 have Z:=yU a;have aq:=yU b;have av:=Zg a;have ax:=Zg b;have an:=am;have ap:=ao;simp only[Lim]at an ap;have aj:=λn=>zuX n b (by omega);have al:∀x∈a,∀u,ze Tryz.prog 169 [.agg (cV (vM x)),.agg (cV u)] (.bool (eqd (vM x) u)):=λx I u=>by obtain⟨n,v⟩:=x;have:=zgp I;exact zw6 v (by omega) u
 refine ze.go ir252.1 ir252.2 (Al4 _) λKP Q X=>?_;simp(disch:=omega) only[ir252,Z,go_sem];refine zf a 11 (λ_:Unit=>[]) (λdone rest _ H=>rest.all (zsH b)=a.all (zsH b)) () (by simp(disch:=omega) only[go_sem]) rfl ?_ ?_
 ·rintro _ H ah A Y;have J:zfl a b=decide ((a.length:Int)=b.length):=by
   rw[zfl,<-A];simp only[List.all_nil,Bool.true_and];exact decide_eq_decide.2 (by omega)
  simp(disch:=omega) only[Z,Y,aq,go_sem];exact X _ _ _ _ nofun rfl (by simp[J])
 ·rintro done x rest _ H ah ac Y _ A ak;have ad:=Zz ac;have I:=al x (by rw[ac];simp);rw[List.all_cons]at A;have U:zsH b x=((zcA (mN x) b).2&&eqd (vM x) (zcA (mN x) b).1):=rfl;generalize zsH b x=y at *
  obtain⟨W,ag⟩:=x;simp only[mN,vM]at U I;have ae:=aj W;replace I:=I (zcA W b).1;generalize (zcA W b).2=ar at *
  generalize (zcA W b).1=u at *
  generalize eqd ag u=au at *
  obtain⟨a3,a6,xs,a4,a5⟩:=ag;obtain⟨ay,a1,a2,az,a0⟩:=u;rw[zu,yj]at ad;rw[yj,yj]at I;rw[yj]at ae;simp(disch:=omega) only[Z,Y,ad,go_sem];refine zc λai aw=>?_;simp(disch:=omega) only[go_sem];refine za ae ?_;cases ar with
  | false =>
   have J:zfl a b=false:=by rw[zfl,<-A,U];rfl
   simp(disch:=omega) only[go_sem];refine zc λaa ab=>?_;simp(disch:=omega) only[go_sem];exact X _ _ _ _ nofun rfl (by simp[J])
  | true =>
   simp(disch:=omega) only[go_sem];refine zc λaa ab=>?_;have af:ai≠aa:=λe=>by subst e;simp[zb.upd]at ab
   simp(disch:=omega) only[af,Ne.symm af,go_sem];refine za I ?_;cases au with
   | false =>
    have J:zfl a b=false:=by rw[zfl,<-A,U];rfl
    simp(disch:=omega) only[go_sem];exact X _ _ _ _ nofun rfl (by simp[J])
   | true =>rw[U]at A;simp(disch:=omega) only[go_sem];exact goJ (ak () _ (by simpa using A)) (by simp(disch:=omega) only[wrap64,go_sem])
def cSn(l:List (List UInt8)):List (AV×AV):=l.map λn=>(.str n,.bool true)
def cFr(fr:List (List UInt8×List ItD)):List (AV×AV):=fr.map λe=>(.str e.1,.sl .no 10 (yx e.2))
def cPr(l:PrS):List (AV×AV):=l.map λe=>(.agg [.int .i64 e.1.1,.int .i64 e.1.2],.bool e.2)
def zeM{H H':zb}{o:Own}{n sz:Nat}(h:zA H o n sz)(A:∀c k z,H c=some (.tip k z)->H' c=some (.tip k z)):zA H' o n sz:=by
 cases o with
 | tip c d=>exact A c _ _ h
 | no=>exact h
 | nil=>exact h
 | full=>exact h
structure ItK (H:zb) (b:Nat) (c0:List AV) (no':Nat) (tl:List AV) (H':zb) (o:Own) (n:Nat):Prop where
 own:zA H' o n 10
 look:H' b=some (.cells (c0++.int .i64 no'::tl))
 kept:∀c x,H c=some x->c≠b->H' c=some x
 new:∀c d,o=.tip c d->H c=none
def zyJ(s:SchD)(bt:zJ s<=Lim)(b:Nat)(ag ah ai:AV):∀c:Nat,∀(l:List SelD) (typ:List UInt8) (no:Nat) (H:zb),bSs l<=c->no+c<=1073741824->H b=some (.cells (zm s++.int .i64 no::[ag,ah,ai])) ->
  zd Tryz.prog 81 [.ptr b 0,.str typ,.sl .no 7 (cSs l)] H (λe H'=>match e with|.ret v=>∃o,v=.sl o 10 (yx (Zv s l typ no).1)/\ItK H b (zm s) (Zv s l typ no).2 [ag,ah,ai] H' o (Zv s l typ no).1.length|.pan _=>False):=by
 intro c;induction c using Nat.strongRecOn with
 | _ c a4 =>
 intro l typ no H X b5 ax;have aq:=YK l;have b2:=Y9 l;have a3:=λx=>zh7 s typ x bt;have b6:=λl no=>ze9 s l typ no;have br:=ze9 s;have be:Zv s [] typ=λno=>([],no):=by funext no;simp[Zv]
 have bd:∀x r no,Zv s (x::r) typ no=((itS s x typ no).1::(Zv s r typ (itS s x typ no).2).1,(Zv s r typ (itS s x typ no).2).2):=λx r no=>by simp only[Zv]
 have bf:∀k A nm args dirs on sels no,itS s (.mk k A nm args dirs on sels) typ no=(.mk (no+1) (.mk k A nm args dirs on sels) typ (Zv s sels (y7 s typ (.mk k A nm args dirs on sels)) (no+1)).1,(Zv s sels (y7 s typ (.mk k A nm args dirs on sels)) (no+1)).2):=λk A nm args dirs on sels no=>by simp only[itS]
 have hlen:=znt s l typ no;generalize bg:Zv s l typ no=F at *
 obtain⟨aj,ak,sm⟩:=s;generalize bk:(⟨aj,ak,sm⟩:SchD)=s at *
 have bn:zm s=[.sl .no 6 (cEs aj),.str ak,.str sm]:=by rw[<-bk];rfl
 simp only[bn,Al6,Z6]at a3 a4 ax ⊢;refine zd.goO ir81.1 ir81.2 (Al4 _) λKP Q bj bz=>?_;simp(disch:=omega) only[ir81,aq,go_sem];refine zf l 13 (λx:Own×List ItD×Nat=>[(7,.sl x.1 10 (yx x.2.1))]) (λdone rest x H'=>(x.2.1++(Zv s rest typ x.2.2).1,(Zv s rest typ x.2.2).2)=F/\x.2.1.length=done.length/\x.2.2<=no+bSs done/\ItK H b [.sl .no 6 (cEs aj),.str ak,.str sm] x.2.2 [ag,ah,ai] H' x.1 x.2.1.length) (.nil,[],no) (by simp(disch:=omega) only[yx,go_sem]) ⟨by simpa using bg,rfl,by simp[bSs],rfl,ax,λc x X _=>X,λc d e=>by cases e⟩ ?_ ?_
 ·rintro⟨ar,a,J⟩ H1 a7 ⟨Y,al,a1,am⟩ an;simp only[be,List.append_nil]at Y;subst Y;simp(disch:=omega) only[aq,an,go_sem];exact bj _ _ H1 H1 [.sl ar 10 (yx a)] nofun rfl (Low.refl _) ⟨ar,rfl,am⟩
 ·rintro done x rest ⟨ar,a,J⟩ H1 a7 az an b3 ⟨Y,al,a1,am⟩ bh;have a0:=zbo az;have ay:=zbk done x rest;rw[<-az]at ay;have bl:bSs (done++[x])=bSs done+bS x:=by rw[zp5];simp[bSs]
  have b1:=Y9 done;simp only[bd]at Y;simp only at al a1;obtain⟨a6,Z,ao,ap⟩:=am;simp only at a6 Z ao ap;obtain⟨k,A,nm,args,dirs,on,sels⟩:=x;simp only[bf]at Y;have a2:=a3 (.mk k A nm args dirs on sels);simp only[bS]at ay bl;rw[y9]at a0 a2;generalize b7:y7 s typ (.mk k A nm args dirs on sels)=au at *
  have bo:=λH' h=>a4 (bSs sels) (by omega) sels au (J+1) H' (Al4 _) (by omega) h;have b4:=br sels au (J+1);generalize bx:Zv s sels au (J+1)=G at *
  have hx1:(bS (.mk k A nm args dirs on sels))=1+A.length+nm.length+on.length+bMs args+bDs dirs+bSs sels:=rfl;simp(disch:=omega) only[aq,an,a0,go_sem];refine zc λW aa=>?_;have I:b≠W:=λe=>by subst e;rw[Z]at aa;cases aa
  simp only[Al6,Z6]at Z;simp(disch:=omega) only[Z,I,Ne.symm I,wrap64,go_sem];refine za a2 ?_;simp(disch:=omega) only[Z,I,Ne.symm I,go_sem];refine zi (XP:=λ_ _=>False) (bo _ (by simp[zb.upd,I,splice])) (λv av ⟨ca,bc,bp⟩=>?_) (λ_ _ h=>h.elim);subst bc;obtain⟨b9,ac,af,b8⟩:=bp;simp only[Al6,Z6]at ac;have bv:av W=some (.cells [.int .i64 k,.str A,.str nm,.sl .no 6 (cMs args),.sl .no 2 (cDs dirs),.str on,.sl .no 7 (cSs sels)]):=af W _ (by simp[zb.upd,I,Ne.symm I]) (Ne.symm I);have bw:∀c k z,H1 c=some (.tip k z)->av c=some (.tip k z):=λc k z h=>by
   have J:c≠b:=λe=>by subst e;rw[Z]at h;cases h
   have ad:c≠W:=λe=>by subst e;rw[aa]at h;cases h
   exact af c _ (by simp only[zb.upd,J,ad,if_false];exact h) J
  have a5:=zeM a6 bw;have ae:=YI a;simp(disch:=omega) only[ac,bv,I,Ne.symm I,go_sem];refine zj (by rw[ae];exact a5) ?_ ?_ λo' aw ab=>?_
  ·simp only[ae,Al2,Al3];omega
  ·simp only[ae,Al2,Al3,maxLen];omega
  simp only[ae,Al2,Al3,Nat.zero_add]at ab;have ba:yx a++[[.int .i64 ((J:Int)+1),.int .i64 k,.str A,.str nm,.sl .no 6 (cMs args),.sl .no 2 (cDs dirs),.str on,.sl .no 7 (cSs sels),.str typ,.sl .no 10 (yx G.1)]]=yx (a++[.mk (J+1) (.mk k A nm args dirs on sels) typ G.1]):=by rw[<-zeC,znL,ZG];rfl
  have bq:ItK H b [.sl .no 6 (cEs aj),.str ak,.str sm] G.2 [ag,ah,ai] aw o' (a.length+1):=by
   refine⟨ab.own,ab.kept b _ ac (zhh a5 ac),λc x X U=>?_,λc d e=>?_⟩
   ·have c1:=ao c x X U;have ad:c≠W:=λe=>by subst e;rw[aa]at c1;cases c1
    have a8:=af c x (by simp only[zb.upd,U,ad,if_false];exact c1) U;exact ab.kept c x a8 λd e=>by rw[ap c d e]at X;cases X
   ·rcases ab.new c d e with h|⟨a9,h⟩
    ·cases bu:H c with
     | none=>rfl
     | some x =>
      by_cases U:c=b
      ·subst U;rw[ac]at h;cases h
      ·have c1:=ao c x bu U;have ad:c≠W:=λe=>by subst e;rw[aa]at c1;cases c1
       rw[af c x (by simp only[zb.upd,U,ad,if_false];exact c1) U]at h;cases h
    ·exact ap c a9 h
  simp(disch:=omega) only[wrap64,ba,go_sem];exact goJ (bh (o',a++[.mk (J+1) (.mk k A nm args dirs on sels) typ G.1],G.2) aw ⟨by simpa[ZP]using Y,by simp[al],by simp only;omega,by simpa using bq⟩) (by simp(disch:=omega) only[wrap64,go_sem])
def zo3(a b:List UInt8):(AV.str a).keq (.str b)=decide (a=b):=by show (a==b)=_;by_cases h:a=b<;>simp[h]
def zqs(n:List UInt8):∀l,zaZ (cSn l) (.str n)=if yo n l=true then some (.bool true)else none
 | []=>rfl
 | x::r=>by
  have:=zqs n r;simp only[cSn]at this;simp only[cSn,List.map_cons,zaZ,zo3,yo,this];by_cases h:n=x
  ·subst h;simp
  ·have h':¬ x=n:=λe=>h e.symm;simp[h,h']
def zpi(n:List UInt8):∀l,yo n l=false->zbW (cSn l) (.str n) (.bool true)=cSn (l++[n])
 | [],_=>rfl
 | x::r,h=>by
  simp only[yo]at h;split at h
  ·cases h
  ·rename_i A;have I:¬ n=x:=λe=>A e.symm;have:=zpi n r h;simp only[cSn]at this;simp only[cSn,List.map_cons,zbW,zo3,I,decide_false,Al7,if_false,this,Al6]
def zqc(n:List UInt8):∀fr:List (List UInt8×List ItD),(zaZ (cFr fr) (.str n)=none/\frL fr n=[])∨zaZ (cFr fr) (.str n)=some (.sl .no 10 (yx (frL fr n)))
 | []=>.inl ⟨rfl,rfl⟩
 | (a,u)::r=>by
  have:=zqc n r;simp only[cFr,frL]at this;simp only[cFr,frL,List.map_cons,zaZ,zo3,List.find?_cons];by_cases h:n=a
  ·simp[h]
  ·simpa[h]using this
structure FlK (H:zb) (bm:Nat) (seen':List (List UInt8)) (H':zb) (o:Own) (n:Nat):Prop where
 own:zA H' o n 10
 seen:H' bm=some (.map (.one .s) (cSn seen'))
 kept:∀c x,H c=some x->c≠bm->H' c=some x
 new:∀c d,o=.tip c d->H c=none
def FlK.beside{H H1 I:zb}{bm n W:Nat}{X U:List (List UInt8)}{o o2:Own}(h:FlK H bm X H1 o n)(h':FlK H1 bm U I o2 W):FlK H bm U I o n:=by refine⟨zeM h.own λc k z A=>h'.kept c _ A λe=>?_,h'.seen,λc x A J=>h'.kept c x (h.kept c x A J) J,h.new⟩;subst e;rw[h.seen]at A;cases A
def FlK.upd{H H1:zb}{bm n b:Nat}{J:List (List UInt8)}{o:Own}{x:AObj}(h:FlK H bm J H1 o n)(A:H1 b=none):FlK H bm J (H1.upd b x) o n:=by
 have I:∀c y,H1 c=some y->c≠b:=λc y h e=>by subst e;rw[A]at h;cases h
 refine⟨h.own.upd A,?_,λc y U W=>?_,h.new⟩
 ·simp only[zb.upd,I _ _ h.seen,if_false];exact h.seen
 ·have:=h.kept c y U W;simp only[zb.upd,I _ _ this,if_false];exact this
def FlK.app{H H1 J:zb}{bm n X:Nat}{Y:List (List UInt8)}{o o2:Own}(h:FlK H bm Y H1 o n)(h':OwnS H1 o J o2 X 10):FlK H bm Y J o2 X:=by
 have aa:∀d,o≠.tip bm d:=λd e=>by have:=h.own;subst e;have U:H1 bm=some (.tip (d+n) 10):=this;rw[h.seen]at U;cases U
 refine⟨h'.own,h'.kept bm _ h.seen aa,λc x I ab=>h'.kept c x (h.kept c x I ab) (λd e=>by rw[h.new c d e]at I;cases I),λc d e=>?_⟩;rcases h'.new c d e with A|⟨Z,A⟩
 ·cases ac:H c with
  | none=>rfl
  | some x =>
   by_cases W:c=bm
   ·subst W;rw[h.seen]at A;cases A
   ·rw[h.kept c x ac W]at A;cases A
 ·exact h.new c Z A
def zwU(fr:List (List UInt8×List ItD))(b ab:Nat)(br bt bu bv bw bx:AV):∀n:Nat,∀(l:List ItD) (seen:List (List UInt8)) (H:zb) (bm f:Nat),Ex fr n l->n<=f->n<=1000->H b=some (.cells [br,bt,bu,bv,.mp ab,bw,bx])->H ab=some (.map (.one .s) (cFr fr))->H bm=some (.map (.one .s) (cSn seen))->ab≠bm ->
  zd Tryz.prog 165 [.ptr b 0,.sl .no 10 (yx l),.mp bm] H (λe H'=>match e with|.ret v=>∃o,v=.sl o 10 (yx (flF fr f l seen).1)/\FlK H bm (flF fr f l seen).2 H' o (flF fr f l seen).1.length|.pan _=>False):=by
 intro n;induction n using Nat.strongRecOn with
 | _ n a6 =>
 intro l seen H bm f ay bh bo be cd b3 af;have bq:=YI l;have cy:l.length<=n:=by
  have h:∀(l:List ItD) n,Ex fr n l->l.length<=n:=by
   intro l;induction l with
   | nil=>intro n _;simp
   | cons x r a6 =>
    intro n h;cases h with
    | cons cx bc cp J ct=>have:=a6 _ J;simp only[Al2];omega
  exact h l n ay
 have ce:=zg5 (seen:=seen) ay bh;have hpre:∀done rest,l=done++rest->(done.foldl (zbM (flF fr (f-1)) fr) ([],seen)).1.length<=n:=λdone rest e=>by have bc:Ex fr n done:=Ex.pre (b:=rest) (by rw[<-e];exact ay);rw[<-zg5 bc bh];exact zhY bc bh
 have cg:∀done no k I nm args dirs on sels typ sub rest,l=done++.mk no (.mk k I nm args dirs on sels) typ sub::rest->∃i j,i+j+1<=n/\Ex fr i sub/\(k=1->Ex fr j (frL fr nm)):=λdone no k I nm args dirs on sels typ sub rest e=>by rw[e]at ay;exact ay.mid
 have ch:∀acc no k I nm args dirs on sels typ sub,zbM (flF fr (f-1)) fr acc (.mk no (.mk k I nm args dirs on sels) typ sub)=if k=0 then (acc.1++[.mk no (.mk k I nm args dirs on sels) typ sub],acc.2)
   else if k=2 then (acc.1++(flF fr (f-1) sub acc.2).1,(flF fr (f-1) sub acc.2).2)
   else if k=1/\yo nm acc.2=false then (acc.1++(flF fr (f-1) (frL fr nm) (acc.2++[nm])).1,(flF fr (f-1) (frL fr nm) (acc.2++[nm])).2)else acc:=λ_ _ _ _ _ _ _ _ _ _ _=>rfl
 generalize cq:flF fr f l seen=F at *
 generalize cu:zbM (flF fr (f-1)) fr=a7 at *
 have bj:∀s,KT.fits (.one .s) (.str s)=true:=λ_=>rfl;refine zd.goO ir165.1 ir165.2 (Al4 _) λKP Q cc cr=>?_;simp(disch:=omega) only[ir165,bq,go_sem];refine zf l 12 (λx:Own×(List ItD×List (List UInt8))=>[(7,.sl x.1 10 (yx x.2.1))]) (λdone rest x H'=>x.2=done.foldl a7 ([],seen)/\rest.foldl a7 x.2=F/\FlK H bm x.2.2 H' x.1 x.2.1.length) (.nil,([],seen)) (by simp(disch:=omega) only[yx,go_sem]) ⟨rfl,ce.symm,rfl,b3,λc x an _=>an,λc d e=>by cases e⟩ ?_ ?_
 ·rintro⟨ai,a,A⟩ H1 b6 ⟨_,U,ae⟩ bl;simp only[List.foldl]at U;subst U;simp(disch:=omega) only[bq,bl,go_sem];exact cc _ _ H1 H1 [.sl ai 10 (yx a)] nofun rfl (Low.refl _) ⟨ai,rfl,ae⟩
 ·rintro done x rest ⟨ai,a,A⟩ H1 b6 bf bl cz ⟨bg,U,ae⟩ aq;have b4:=zcG bf;rw[List.foldl_cons]at U;simp only at bg U;replace ae:FlK H bm A H1 ai a.length:=ae;have ac:=hpre (done++[x]) rest (by rw[bf];simp);rw[List.foldl_append,<-bg,List.foldl_cons,List.foldl_nil]at ac;have X:a7 (a,A) x=(done++[x]).foldl a7 ([],seen):=by rw[List.foldl_append,<-bg];rfl
  obtain⟨no,⟨k,I,nm,args,dirs,on,sels⟩,typ,sub⟩:=x;obtain⟨i,j,cw,hx1,ck⟩:=cg done no k I nm args dirs on sels typ sub rest bf;have W:=ch (a,A) no k I nm args dirs on sels typ sub;have a5:=ae.seen;have a3:=ae.kept b _ be λe=>by subst e;rw[b3]at be;cases be
  have a4:=ae.kept ab _ cd af;have J:=YI a;rw[ZG]at b4;simp(disch:=omega) only[bq,bl,b4,go_sem];refine zc λZ am=>?_;have ad:=ae.upd (x:=.cells [.int .i64 no,.int .i64 k,.str I,.str nm,.sl .no 6 (cMs args),.sl .no 2 (cDs dirs),.str on,.sl .no 7 (cSs sels),.str typ,.sl .no 10 (yx sub)]) am;have a0:b≠Z:=λe=>by subst e;rw[a3]at am;cases am
  have a1:ab≠Z:=λe=>by subst e;rw[a4]at am;cases am
  have ap:bm≠Z:=λe=>by subst e;rw[a5]at am;cases am
  have b7:(H1.upd Z (.cells [.int .i64 no,.int .i64 k,.str I,.str nm,.sl .no 6 (cMs args),.sl .no 2 (cDs dirs),.str on,.sl .no 7 (cSs sels),.str typ,.sl .no 10 (yx sub)])) Z=some (.cells [.int .i64 no,.int .i64 k,.str I,.str nm,.sl .no 6 (cMs args),.sl .no 2 (cDs dirs),.str on,.sl .no 7 (cSs sels),.str typ,.sl .no 10 (yx sub)]):=upd_same ..;have a9:(H1.upd Z (.cells [.int .i64 no,.int .i64 k,.str I,.str nm,.sl .no 6 (cMs args),.sl .no 2 (cDs dirs),.str on,.sl .no 7 (cSs sels),.str typ,.sl .no 10 (yx sub)])) b=some (.cells [br,bt,bu,bv,.mp ab,bw,bx]):=by simp only[zb.upd,a0,if_false];exact a3
  have bz:(H1.upd Z (.cells [.int .i64 no,.int .i64 k,.str I,.str nm,.sl .no 6 (cMs args),.sl .no 2 (cDs dirs),.str on,.sl .no 7 (cSs sels),.str typ,.sl .no 10 (yx sub)])) ab=some (.map (.one .s) (cFr fr)):=by simp only[zb.upd,a1,if_false];exact a4
  have au:=ad.seen;by_cases ah:k=0
  ·have cm:=eq_true ah;rw[if_pos ah]at W;rw[W]at U ac X;simp only[Al5,Al2,Al3]at ac;simp(disch:=omega) only[cm,go_sem];refine zj (by rw[J];exact ad.own) ?_ ?_ λo' ak Y=>?_
   ·simp only[J,Al2,Al3];omega
   ·simp only[J,Al2,Al3,maxLen];omega
   simp only[J,Al2,Al3,Nat.zero_add]at Y;have ca:yx a++[[.int .i64 no,.int .i64 k,.str I,.str nm,.sl .no 6 (cMs args),.sl .no 2 (cDs dirs),.str on,.sl .no 7 (cSs sels),.str typ,.sl .no 10 (yx sub)]]=yx (a++[.mk no (.mk k I nm args dirs on sels) typ sub]):=by rw[<-zeC,znL,ZG]
   simp(disch:=omega) only[wrap64,ca,go_sem];exact goJ (aq (o',(a++[.mk no (.mk k I nm args dirs on sels) typ sub],A)) ak ⟨X,U,by simpa using ad.app Y⟩) (by simp(disch:=omega) only[wrap64,go_sem])
  rw[if_neg ah]at W;by_cases ao:k=2
  ·have cn:=eq_true ao;rw[if_pos ao]at W;rw[W]at U ac X;have aw:=a6 i (by omega) sub A _ bm (f-1) hx1 (by omega) (by omega) a9 bz au af;simp only[Al5]at ac;generalize cb:flF fr (f-1) sub A=G at *
   have aa:=YI G.1;simp(disch:=omega) only[ah,cn,go_sem];refine zi (XP:=λ_ _=>False) aw (λv aj ⟨ar,ba,bk⟩=>?_) (λ_ _ h=>h.elim);subst ba;have ag:=ad.beside bk;simp(disch:=omega) only[go_sem];refine zj (by rw[J];exact ag.own) ?_ ?_ λo' ak Y=>?_
   ·simp only[J,aa];omega
   ·simp only[J,aa,maxLen];omega
   simp only[J,aa]at Y;simp(disch:=omega) only[wrap64,zfM,zeC,go_sem];exact goJ (aq (o',(a++G.1,G.2)) ak ⟨X,U,by simpa using ag.app Y⟩) (by simp(disch:=omega) only[wrap64,go_sem])
  rw[if_neg ao]at W;by_cases az:k=1
  case neg =>rw[if_neg (λh=>az h.1)]at W;rw[W]at U ac X;simp(disch:=omega) only[ah,ao,az,go_sem];exact goJ (aq (ai,(a,A)) _ ⟨X,U,ad⟩) (by simp(disch:=omega) only[wrap64,go_sem])
  have bp:=eq_true az;have ax:=zqs nm A;cases av:yo nm A with
  | true =>rw[if_neg (λh=>by rw[av]at h;cases h.2)]at W;rw[W]at U ac X;rw[if_pos av]at ax;simp(disch:=omega) only[ah,ao,bp,au,ap,Ne.symm ap,a5,ax,bj,YV,Option.getD_some,go_sem];exact goJ (aq (ai,(a,A)) _ ⟨X,U,ad⟩) (by simp(disch:=omega) only[wrap64,go_sem])
  | false =>
   rw[if_pos ⟨az,av⟩]at W;rw[W]at U ac X;rw[if_neg (by rw[av];simp)]at ax;have b5:=zpi nm A av;have cl:=ck az;simp only[Al5]at ac;generalize b1:H1.upd Z (.cells [.int .i64 no,.int .i64 k,.str I,.str nm,.sl .no 6 (cMs args),.sl .no 2 (cDs dirs),.str on,.sl .no 7 (cSs sels),.str typ,.sl .no 10 (yx sub)])=aj at *
   have a2:b≠bm:=λe=>by subst e;rw[a9]at au;cases au
   have nm9:Z≠bm:=Ne.symm ap;have b8:(aj.upd bm (.map (.one .s) (cSn (A++[nm])))) b=some (.cells [br,bt,bu,bv,.mp ab,bw,bx]):=by simp only[zb.upd,a2,if_false];exact a9
   have b9:(aj.upd bm (.map (.one .s) (cSn (A++[nm])))) ab=some (.map (.one .s) (cFr fr)):=by simp only[zb.upd,af,if_false];exact bz
   have co:(aj.upd bm (.map (.one .s) (cSn (A++[nm])))) Z=some (.cells [.int .i64 no,.int .i64 k,.str I,.str nm,.sl .no 6 (cMs args),.sl .no 2 (cDs dirs),.str on,.sl .no 7 (cSs sels),.str typ,.sl .no 10 (yx sub)]):=by simp only[zb.upd,nm9,if_false];exact b7
   have ci:FlK H bm (A++[nm]) (aj.upd bm (.map (.one .s) (cSn (A++[nm])))) ai a.length:=by
    refine⟨zeM ad.own λc k z an=>?_,upd_same ..,λc x an bo=>?_,ad.new⟩
    ·have:c≠bm:=λe=>by subst e;rw[au]at an;cases an
     simp only[zb.upd,this,if_false];exact an
    ·simp only[zb.upd,bo,if_false];exact ad.kept c x an bo
   have aw:=a6 j (by omega) (frL fr nm) (A++[nm]) (aj.upd bm (.map (.one .s) (cSn (A++[nm])))) bm (f-1) cl (by omega) (by omega) b8 b9 (upd_same ..) af;generalize cb:flF fr (f-1) (frL fr nm) (A++[nm])=G at *
   have aa:=YI G.1;generalize b2:aj.upd bm (.map (.one .s) (cSn (A++[nm])))=a8 at *
   have call:∀w,w=AV.sl .no 10 (yx (frL fr nm))∨(w=.sl .nil 10 []/\frL fr nm=[])->zd Tryz.prog 165 [.ptr b 0,w,.mp bm] a8 (λe H'=>match e with|.ret v=>∃o,v=.sl o 10 (yx G.1)/\FlK a8 bm G.2 H' o G.1.length|.pan _=>False):=λw cj=>by
    rcases cj with rfl|⟨rfl,e⟩
    ·exact aw
    ·rw[e]at aw;exact zd.low aw
   have fin:∀v al,(∃o,v=AV.sl o 10 (yx G.1)/\FlK a8 bm G.2 al o G.1.length)->∃ar,v=AV.sl ar 10 (yx G.1)/\FlK H bm G.2 al ai a.length:=λv al ⟨ar,ba,bk⟩=>⟨ar,ba,ci.beside bk⟩;rcases zqc nm fr with ⟨bn,cf⟩|bn
   ·simp(disch:=omega) only[ah,ao,bp,a3,a4,a0,a1,Ne.symm a0,Ne.symm a1,ap,Ne.symm ap,a2,Ne.symm a2,af,Ne.symm af,a5,ax,bj,YV,Option.getD_none,Option.getD_some,b5,bn,go_sem];rw[b1,b2];refine zi (XP:=λ_ _=>False) (call _ (.inr ⟨rfl,cf⟩)) (λv al bd=>?_) (λ_ _ h=>h.elim);obtain⟨ar,rfl,ag⟩:=fin v al bd;simp(disch:=omega) only[go_sem];refine zj (by rw[J];exact ag.own) ?_ ?_ λo' ak Y=>?_
    ·simp only[J,aa];omega
    ·simp only[J,aa,maxLen];omega
    simp only[J,aa]at Y;simp(disch:=omega) only[wrap64,zfM,zeC,go_sem];exact goJ (aq (o',(a++G.1,G.2)) ak ⟨X,U,by simpa using ag.app Y⟩) (by simp(disch:=omega) only[wrap64,go_sem])
   ·simp(disch:=omega) only[ah,ao,bp,a3,a4,a0,a1,Ne.symm a0,Ne.symm a1,ap,Ne.symm ap,a2,Ne.symm a2,af,Ne.symm af,a5,ax,bj,YV,Option.getD_none,Option.getD_some,b5,bn,go_sem];rw[b1,b2];refine zi (XP:=λ_ _=>False) (call _ (.inl rfl)) (λv al bd=>?_) (λ_ _ h=>h.elim);obtain⟨ar,rfl,ag⟩:=fin v al bd;simp(disch:=omega) only[go_sem];refine zj (by rw[J];exact ag.own) ?_ ?_ λo' ak Y=>?_
    ·simp only[J,aa];omega
    ·simp only[J,aa,maxLen];omega
    simp only[J,aa]at Y;simp(disch:=omega) only[wrap64,zfM,zeC,go_sem];exact goJ (aq (o',(a++G.1,G.2)) ak ⟨X,U,by simpa using ag.app Y⟩) (by simp(disch:=omega) only[wrap64,go_sem])
def ztv(fr:List (List UInt8×List ItD))(b I:Nat)(ac ad ae af ag ah:AV)(y:ItD)(H:zb)(n:Nat)(an:Ex fr n y.sub)(W:n<=64)(J:H b=some (.cells [ac,ad,ae,af,.mp I,ag,ah]))(U:H I=some (.map (.one .s) (cFr fr))):
  zd Tryz.prog 305 [.ptr b 0,.agg (cIt y)] H (λe H'=>match e with|.ret v=>∃o,v=.sl o 10 (yx (Zf fr y))/\∀c x,H c=some x->H' c=some x|.pan _=>False):=by
 have Z:=λH bm J U A am=>zwU fr b I ac ad ae af ag ah n y.sub [] H bm 64 an W (by omega) J U A am;have ai:Zf fr y=(flF fr 64 y.sub []).1:=rfl;generalize flF fr 64 y.sub []=G at *
 rw[ai];obtain⟨no,⟨k,ap,nm,args,dirs,on,sels⟩,typ,sub⟩:=y;simp only[ItD.sub]at Z;rw[ZG];refine zd.goO ir305.1 ir305.2 (Al4 _) λKP Q ak aq=>?_;simp(disch:=omega) only[ir305,go_sem];refine zc λbm A=>?_;have ao:b≠bm:=λe=>by subst e;rw[J]at A;cases A
 have aa:I≠bm:=λe=>by subst e;rw[U]at A;cases A
 simp(disch:=omega) only[go_sem];refine zi (XP:=λ_ _=>False) (Z _ bm (by simp only[zb.upd,ao,if_false];exact J) (by simp only[zb.upd,aa,if_false];exact U) (upd_same ..) aa) (λv Y ⟨ab,aj,al⟩=>?_) (λ_ _ h=>h.elim);subst aj;simp(disch:=omega) only[go_sem];exact ak _ _ Y Y [.sl ab 10 (yx G.1)] nofun rfl (Low.refl _) ⟨ab,rfl,λc x X=>by
  have W:c≠bm:=λe=>by subst e;rw[A]at X;cases X
  exact al.kept c x (by simp only[zb.upd,W,if_false];exact X) W⟩
def zA1(i j k l:Nat):(AV.agg [.int .i64 i,.int .i64 j]).keq (.agg [.int .i64 k,.int .i64 l])=decide ((i,j)=(k,l)):=by
 show (((i:Int)==k)&&(((j:Int)==l)&&true))=_;by_cases A:i=k<;>by_cases I:j=l<;>simp[A,I]
 all_goals omega
def zlb(i j:Nat):∀l:PrS,zaZ (cPr l) (.agg [.int .i64 i,.int .i64 j])=(zgF l (i,j)).map AV.bool
 | []=>rfl
 | ((a,c),u)::r=>by
  have:=zlb i j r;simp only[cPr,zgF]at this;simp only[cPr,zgF,List.map_cons,zaZ,zA1,this,List.find?_cons];by_cases h:(i,j)=(a,c)
  ·simp[h]
  ·simp[h]
def zma(i j:Nat)(v:Bool):∀l:PrS,zbW (cPr l) (.agg [.int .i64 i,.int .i64 j]) (.bool v)=cPr (Yb l (i,j) v)
 | []=>rfl
 | ((a,c),u)::r=>by
  have:=zma i j v r;simp only[cPr]at this;simp only[cPr,Yb,List.map_cons,zbW,zA1,this];by_cases h:(i,j)=(a,c)
  ·obtain⟨rfl,rfl⟩:=Prod.mk.inj h;simp
  ·simp[h]
abbrev kPr:KT:=.agg [.i .i64,.i .i64]
structure LkH (s:SchD) (fr:List (List UInt8×List ItD)) (b bf bs bp no:Nat) (S:yK) (H:zb):Prop where
 look:H b=some (.cells (zm s++[.int .i64 no,.mp bf,.mp bs,.mp bp]))
 frs:H bf=some (.map (.one .s) (cFr fr))
 sh:H bs=some (.map kPr (cPr S.1))
 pr:H bp=some (.map kPr (cPr S.2))
 ne:bs≠bp
def LkK(bs bp:Nat)(H H':zb):Prop:=∀c x,H c=some x->c≠bs->c≠bp->H' c=some x
def LkH.keep{s:SchD}{fr:List (List UInt8×List ItD)}{b I bs J no:Nat}{S:yK}{H H':zb}(h:LkH s fr b I bs J no S H)(A:∀c x,H c=some x->H' c=some x):LkH s fr b I bs J no S H' :=⟨A _ _ h.look,A _ _ h.frs,A _ _ h.sh,A _ _ h.pr,h.ne⟩
def LkK.trans{bs A:Nat}{H H1 I:zb}(h:LkK bs A H H1)(h':LkK bs A H1 I):LkK bs A H I:=λc x W J U=>h' c x (h c x W J U) J U
def LkK.upd{bs A:Nat}{H H1:zb}(h:LkK bs A H H1){c:Nat}{x:AObj}(I:H1 c=none):LkK bs A H (H1.upd c x):=λd y J W X=>by
 have:=h d y J W X;have U:d≠c:=λe=>by subst e;rw[I]at this;cases this
 simp only[zb.upd,U,if_false];exact this
def ZA{H:zb}{c:Nat}{x:AObj}(I:H c=none):∀d y,H d=some y->(H.upd c x) d=some y:=λd y A=>by
 have J:d≠c:=λe=>by subst e;rw[I]at A;cases A
 simp only[zb.upd,J,if_false];exact A
def zhG(s:SchD)(fr:List (List UInt8×List ItD))(b bf bs bp no:Nat)(gf:FuncId)(g:ItD->ItD->yK->Bool×yK)(x y:ItD):Prop :=∀S H,LkH s fr b bf bs bp no S H->zd Tryz.prog gf [.ptr b 0,.agg (cIt x),.agg (cIt y)] H (λe H'=>match e with|.ret v=>v=.bool (g x y S).1/\LkH s fr b bf bs bp no (g x y S).2 H'/\LkK bs bp H H'|.pan _=>False)
def zer(x:ItD):∃no k A nm args dirs on sels typ sub,x=.mk no (.mk k A nm args dirs on sels) typ sub:=by obtain⟨no,⟨k,A,nm,args,dirs,on,sels⟩,typ,sub⟩:=x;exact⟨_,_,_,_,_,_,_,_,_,_,rfl⟩
def zpx(s:SchD)(fr:List (List UInt8×List ItD))(b W bs A no:Nat)(a8:FuncId)(g:ItD->ItD->yK->Bool×yK)(x y:ItD)(n m:Nat)(cy:Program.callable Tryz.prog a8=true)(cb:Ex fr n x.sub)(ca:n<=64)(cc:Ex fr m y.sub)(b9:m<=64)(cz:∀u∈Zf fr x,∀v∈Zf fr y,zhG s fr b W bs A no a8 g u v)(S:yK)(H:zb)(a9:LkH s fr b W bs A no S H):
  zd Tryz.prog 253 [.ptr b 0,.agg (cIt x),.agg (cIt y),.clo a8 [.ptr b 0] []] H (λe H'=>match e with|.ret v=>v=.bool (zaY g (Zf fr x) (Zf fr y) S).1/\LkH s fr b W bs A no (zaY g (Zf fr x) (Zf fr y) S).2 H'/\LkK bs A H H'|.pan _=>False):=by
 obtain⟨ai,aj,sm⟩:=s;have bz:=λH bh bj=>ztv fr b W (.sl .no 6 (cEs ai)) (.str aj) (.str sm) (.int .i64 no) (.mp bs) (.mp A) x H n cb ca bh bj;have b1:=λH bh bj=>ztv fr b W (.sl .no 6 (cEs ai)) (.str aj) (.str sm) (.int .i64 no) (.mp bs) (.mp A) y H m cc b9 bh bj;have c7:=zhY (seen:=[]) cb ca;have c8:=zhY (seen:=[]) cc b9;rw[show (flF fr 64 x.sub []).1=Zf fr x from rfl]at c7;rw[show (flF fr 64 y.sub []).1=Zf fr y from rfl]at c8;generalize Zf fr x=a1 at *
 generalize Zf fr y=ah at *
 have bp:=YI a1;have bq:=YI ah;generalize co:zaY g a1 ah S=F at *
 obtain⟨ak,ab,Y,ac,Z,aa,ad,ae,am,al,rfl⟩:=zer x;obtain⟨a2,aw,ar,ax,au,av,ay,az,a4,a3,rfl⟩:=zer y;rw[ZG]at bz b1;rw[ZG,ZG];have fin:∀r U H',F=(r,U)->LkH ⟨ai,aj,sm⟩ fr b W bs A no U H'->LkK bs A H H'->(AV.bool r=.bool F.1/\LkH ⟨ai,aj,sm⟩ fr b W bs A no F.2 H'/\LkK bs A H H'):=λr U H' e cm cn=>by rw[e];exact⟨rfl,cm,cn⟩
 refine zd.goO ir253.1 ir253.2 (Al4 _) λKP Q bx dd=>?_;simp(disch:=omega) only[ir253,go_sem];refine zi (XP:=λ_ _=>False) (b1 _ a9.look a9.frs) (λv H1 ⟨de,ch,b7⟩=>?_) (λ_ _ h=>h.elim);subst ch;have ba:=a9.keep b7;simp(disch:=omega) only[go_sem];refine zi (XP:=λ_ _=>False) (bz _ ba.look ba.frs) (λv da ⟨dg,ci,b8⟩=>?_) (λ_ _ h=>h.elim);subst ci;have cq:=ba.keep b8;simp(disch:=omega) only[bp,go_sem];refine zf a1 21 (λ_:yK=>[]) (λdone rest U H'=>zaY g rest ah U=F/\LkH ⟨ai,aj,sm⟩ fr b W bs A no U H'/\LkK bs A H H') S (by simp(disch:=omega) only[go_sem]) ⟨co,cq,λc x cx _ _=>b8 c x (b7 c x cx)⟩ ?_ ?_
 ·rintro a7 a5 cd ⟨J,ap,bd⟩ bn;simp only[zaY]at J;simp(disch:=omega) only[bp,bn,go_sem];exact bx _ _ a5 a5 [.bool true] nofun rfl (Low.refl _) (fin _ _ _ J.symm ap bd)
 ·rintro done x rest a7 a5 cd b3 bn _ ⟨J,ap,bd⟩ ct;have b5:=zcG b3;have c5:x∈a1:=by rw[b3];simp
  simp only[zaY]at J;have bk:=zvm x.x;have c2:=cz x c5;generalize cw:zoo g x ah a7=R at *
  obtain⟨ak,ab,Y,ac,Z,aa,ad,ae,am,al,rfl⟩:=zer x;simp only[ItD.x]at bk;rw[ZG]at b5;rw[y9]at bk;simp(disch:=omega) only[bp,bn,b5,go_sem];refine zc λao ag=>?_;have cr:=ap.keep (ZA (x:=.cells [.int .i64 ak,.int .i64 ab,.str Y,.str ac,.sl .no 6 (cMs Z),.sl .no 2 (cDs aa),.str ad,.sl .no 7 (cSs ae),.str am,.sl .no 10 (yx al)]) ag);have cu:=bd.upd (x:=.cells [.int .i64 ak,.int .i64 ab,.str Y,.str ac,.sl .no 6 (cMs Z),.sl .no 2 (cDs aa),.str ad,.sl .no 7 (cSs ae),.str am,.sl .no 10 (yx al)]) ag;have c9:ao≠bs:=λe=>by subst e;rw[ap.sh]at ag;cases ag
  have np:ao≠A:=λe=>by subst e;rw[ap.pr]at ag;cases ag
  simp(disch:=omega) only[bq,go_sem];refine zf ah 27 (λ_:yK=>[]) (λdone rest U H'=>zoo g (.mk ak (.mk ab Y ac Z aa ad ae) am al) rest U=R/\LkH ⟨ai,aj,sm⟩ fr b W bs A no U H'/\LkK bs A H H'/\H' ao=some (.cells [.int .i64 ak,.int .i64 ab,.str Y,.str ac,.sl .no 6 (cMs Z),.sl .no 2 (cDs aa),.str ad,.sl .no 7 (cSs ae),.str am,.sl .no 10 (yx al)])) a7 (by simp(disch:=omega) only[go_sem]) ⟨cw,cr,cu,upd_same ..⟩ ?_ ?_
  ·rintro an br ce ⟨I,bc,be,_⟩ bo;simp only[zoo]at I;rw[<-I]at J;simp only at J;simp(disch:=omega) only[bq,bo,go_sem];exact goJ (ct an br ⟨J,bc,be⟩) (by simp(disch:=omega) only[wrap64,go_sem])
  ·rintro dc y dh an br ce b4 bo _ ⟨I,bc,be,af⟩ bw;have b6:=zcG b4;have c6:y∈ah:=by rw[b4];simp
   have c3:=c2 y c6;have bl:=zvm y.x;simp only[zoo]at I;generalize cp:g (.mk ak (.mk ab Y ac Z aa ad ae) am al) y an=G at *
   obtain⟨a2,aw,ar,ax,au,av,ay,az,a4,a3,rfl⟩:=zer y;simp only[ItD.x]at bl I;rw[ZG]at b6;rw[y9]at bl;simp(disch:=omega) only[bq,bo,b6,go_sem];refine zc λcf aq=>?_;have X:ao≠cf:=λe=>by subst e;rw[af]at aq;cases aq
   have bu:=bc.keep (ZA (x:=.cells [.int .i64 a2,.int .i64 aw,.str ar,.str ax,.sl .no 6 (cMs au),.sl .no 2 (cDs av),.str ay,.sl .no 7 (cSs az),.str a4,.sl .no 10 (yx a3)]) aq);have bf:=be.upd (x:=.cells [.int .i64 a2,.int .i64 aw,.str ar,.str ax,.sl .no 6 (cMs au),.sl .no 2 (cDs av),.str ay,.sl .no 7 (cSs az),.str a4,.sl .no 10 (yx a3)]) aq;have bt:=ZA (x:=.cells [.int .i64 a2,.int .i64 aw,.str ar,.str ax,.sl .no 6 (cMs au),.sl .no 2 (cDs av),.str ay,.sl .no 7 (cSs az),.str a4,.sl .no 10 (yx a3)]) aq _ _ af;simp(disch:=omega) only[af,X,Ne.symm X,go_sem];refine za bk ?_;simp(disch:=omega) only[af,X,Ne.symm X,go_sem];refine za bl ?_;by_cases a0:zhS (.mk ab Y ac Z aa ad ae)=zhS (.mk aw ar ax au av ay az)
   case neg =>simp only[a0,if_false]at I;simp(disch:=omega) only[af,X,Ne.symm X,a0,go_sem];exact goJ (bw an _ ⟨I,bu,bf,bt⟩) (by simp(disch:=omega) only[wrap64,go_sem])
   simp only[a0,if_true]at I;have c4:=eq_true a0;have b2:=c3 an _ bu;rw[ZG,ZG,cp]at b2;obtain⟨cl,ck⟩:=G;simp(disch:=omega) only[af,X,Ne.symm X,c4,go_sem];refine⟨cy,zi (XP:=λ_ _=>False) b2 (λv a6 ⟨cj,bv,bg⟩=>?_) (λ_ _ h=>h.elim)⟩;subst cj;have cg:=bg ao _ bt c9 np;cases cl with
   | true =>simp only at I;simp(disch:=omega) only[go_sem];exact goJ (bw ck a6 ⟨I,bv,bf.trans bg,cg⟩) (by simp(disch:=omega) only[wrap64,go_sem])
   | false =>simp only at I;rw[<-I]at J;simp only at J;simp(disch:=omega) only[go_sem];exact bx _ _ a6 a6 [.bool false] nofun rfl (Low.refl _) (fin _ _ _ J.symm bv (bf.trans bg))
def shG(s:SchD)(fr:List (List UInt8×List ItD))(b ac bs J no:Nat)(bj:zJ s<=Lim)(n m:Nat)(g:ItD->ItD->yK->Bool×yK)(x y:ItD)(ci:Ex fr n x.sub)(ch:n<=64)(cj:Ex fr m y.sub)(cg:m<=64)(ce:∀u∈Zf fr x,∀v∈Zf fr y,zhG s fr b ac bs J no 251 g u v):zhG s fr b ac bs J no 251 (shB s fr g) x y:=by
 intro S H bd;have bz:=zpx s fr b ac bs J no 251 g x y n m (by kernel_rfl) ci ch cj cg ce S;have ax:=zhk s x.typ x.x.nm bj;have ay:=zhk s y.typ y.x.nm bj;have aq:=λa c=>zAt s a c (yc bj);have ae:=zlb x.no y.no S.1;have bk:=λv l=>zma x.no y.no v l;have ah:shB s fr g x y S=match zgF S.1 (x.no,y.no)with
  | some r=>(r,S)
  | none =>
   if zjP s ((yH s x.typ x.x.nm).getD zF).t ((yH s y.typ y.x.nm).getD zF).t=true then ((zaY g (Zf fr x) (Zf fr y) S).1,(Yb (zaY g (Zf fr x) (Zf fr y) S).2.1 (x.no,y.no) (zaY g (Zf fr x) (Zf fr y) S).1,(zaY g (Zf fr x) (Zf fr y) S).2.2))
   else (false,(Yb S.1 (x.no,y.no) false,S.2)):=rfl
 generalize cq:shB s fr g x y S=F at *
 generalize zaY g (Zf fr x) (Zf fr y) S=ag at *
 have W:=bd.look;have ad:=bd.sh;have aw:∀i j:Nat,KT.fits kPr (.agg [.int .i64 i,.int .i64 j])=true:=λ_ _=>rfl;have fin:∀r X H',F=(r,X)->LkH s fr b ac bs J no X H'->LkK bs J H H'->(AV.bool r=.bool F.1/\LkH s fr b ac bs J no F.2 H'/\LkK bs J H H'):=λr X H' e av bc=>by rw[e];exact⟨rfl,av,bc⟩
 have bp:∀X H' v,LkH s fr b ac bs J no X H'->LkK bs J H H'->LkH s fr b ac bs J no (Yb X.1 (x.no,y.no) v,X.2) (H'.upd bs (.map kPr (cPr (Yb X.1 (x.no,y.no) v))))/\LkK bs J H (H'.upd bs (.map kPr (cPr (Yb X.1 (x.no,y.no) v)))):=λX H' v h cf=>by
  have ck:b≠bs:=λe=>by have:=h.look;rw[e,h.sh]at this;cases this
  have cl:ac≠bs:=λe=>by have:=h.frs;rw[e,h.sh]at this;cases this
  refine⟨⟨by simp only[zb.upd,ck,if_false];exact h.look,by simp only[zb.upd,cl,if_false];exact h.frs,upd_same ..,by simp only[zb.upd,Ne.symm h.ne,if_false];exact h.pr,h.ne⟩,λc z bh av bc=>?_⟩;simp only[zb.upd,av,if_false];exact cf c z bh av bc
 generalize (yH s x.typ x.x.nm).isSome=co at *
 generalize (yH s x.typ x.x.nm).getD zF=bq at *
 generalize (yH s y.typ y.x.nm).isSome=cp at *
 generalize (yH s y.typ y.x.nm).getD zF=br at *
 replace aq:=aq bq.t br.t;generalize zjP s bq.t br.t=cn at *
 obtain⟨a3,a4,⟨az,a0,a1⟩,a2⟩:=bq;obtain⟨a9,ba,⟨a5,a6,a7⟩,a8⟩:=br;obtain⟨ar,cx,ct,cy,cu,cw,cz,c2,c4,c3,rfl⟩:=zer x;obtain⟨au,c8,c5,c9,c6,c7,da,dc,de,dd,rfl⟩:=zer y;simp only[ItD.no,ItD.x,ItD.typ,SelD.nm]at ax ay ae bk ah bp;obtain⟨b4,b5,sm⟩:=s;have b2:zm ⟨b4,b5,sm⟩=[.sl .no 6 (cEs b4),.str b5,.str sm]:=rfl;simp only[b2,Al6,Z6]at ax ay aq W;simp only[cTy]at aq;rw[zaM]at ax ay;rw[ZG,ZG]at bz ⊢;have U:b≠bs:=λe=>by subst e;rw[W]at ad;cases ad
 refine zd.goO ir251.1 ir251.2 (Al4 _) λKP Q bg cr=>?_;simp(disch:=omega) only[ir251,go_sem];refine zc λZ aj=>?_;have I:b≠Z:=λe=>by subst e;rw[W]at aj;cases aj
 have A:bs≠Z:=λe=>by subst e;rw[ad]at aj;cases aj
 have bu:=bd.keep (ZA (x:=.cells [.int .i64 ar,.int .i64 au]) aj);have bx:LkK bs J H (H.upd Z (.cells [.int .i64 ar,.int .i64 au])):=LkK.upd (λc z bh _ _=>bh) aj;cases b3:zgF S.1 (ar,au)with
 | some r =>rw[b3]at ae ah;simp only[ZS]at ae;simp(disch:=omega) only[I,Ne.symm I,A,Ne.symm A,U,Ne.symm U,W,ad,ae,aw,YV,Option.getD_some,Option.isSome_some,go_sem];exact bg _ _ _ _ [.bool r] nofun rfl (Low.refl _) (fin r S _ ah bu bx)
 | none =>
  rw[b3]at ae ah;simp only[Option.map_none]at ae;simp(disch:=omega) only[I,Ne.symm I,A,Ne.symm A,U,Ne.symm U,W,ad,ae,aw,YV,Option.getD_none,Option.isSome_none,go_sem];refine za ax ?_;simp(disch:=omega) only[go_sem];refine zc λan ap=>?_;have Y:Z≠an:=λe=>by subst e;simp[zb.upd]at ap
  have aa:b≠an:=λe=>by subst e;simp[zb.upd,I,W]at ap
  have ab:bs≠an:=λe=>by subst e;simp[zb.upd,A,ad]at ap
  have b9:=bu.keep (ZA (x:=.cells [.str a3,.sl .no 10 (cWs a4),.str az,.int .i64 a0,.int .i64 a1,.sl .no 2 (cDs a2)]) ap);have ca:=bx.upd (x:=.cells [.str a3,.sl .no 10 (cWs a4),.str az,.int .i64 a0,.int .i64 a1,.sl .no 2 (cDs a2)]) ap;simp(disch:=omega) only[I,Ne.symm I,A,Ne.symm A,U,Ne.symm U,Y,aa,ab,Ne.symm Y,Ne.symm aa,Ne.symm ab,W,go_sem];refine za ay ?_;simp(disch:=omega) only[go_sem];refine zc λao ai=>?_;have af:Z≠ao:=λe=>by subst e;simp[zb.upd,Y]at ai
  have ak:b≠ao:=λe=>by subst e;simp[zb.upd,I,aa,W]at ai
  have al:bs≠ao:=λe=>by subst e;simp[zb.upd,A,ab,ad]at ai
  have am:an≠ao:=λe=>by subst e;simp[zb.upd]at ai
  have be:=b9.keep (ZA (x:=.cells [.str a9,.sl .no 10 (cWs ba),.str a5,.int .i64 a6,.int .i64 a7,.sl .no 2 (cDs a8)]) ai);have bv:=ca.upd (x:=.cells [.str a9,.sl .no 10 (cWs ba),.str a5,.int .i64 a6,.int .i64 a7,.sl .no 2 (cDs a8)]) ai;simp(disch:=omega) only[I,Ne.symm I,A,Ne.symm A,U,Ne.symm U,Y,aa,ab,Ne.symm Y,Ne.symm aa,Ne.symm ab,af,ak,al,am,Ne.symm af,Ne.symm ak,Ne.symm al,Ne.symm am,W,go_sem];refine za aq ?_;cases cn with
  | false =>have bl:=bk false S.1;obtain⟨bn,bo⟩:=bp S _ false be bv;simp(disch:=omega) only[I,Ne.symm I,A,Ne.symm A,U,Ne.symm U,Y,aa,ab,Ne.symm Y,Ne.symm aa,Ne.symm ab,af,ak,al,am,Ne.symm af,Ne.symm ak,Ne.symm al,Ne.symm am,W,ad,aw,bl,go_sem];exact bg _ _ _ _ [.bool false] nofun rfl (Low.refl _) (fin false _ _ ah bn bo)
  | true =>
   have cc:=bz _ be;have bt:(((H.upd Z (.cells [.int .i64 ar,.int .i64 au])).upd an (.cells [.str a3,.sl .no 10 (cWs a4),.str az,.int .i64 a0,.int .i64 a1,.sl .no 2 (cDs a2)])).upd ao (.cells [.str a9,.sl .no 10 (cWs ba),.str a5,.int .i64 a6,.int .i64 a7,.sl .no 2 (cDs a8)])) Z=some (.cells [.int .i64 ar,.int .i64 au]):=by simp[zb.upd,Y,af]
   have cm:Z≠J:=λe=>by have:=be.pr;rw[<-e,bt]at this;cases this
   simp(disch:=omega) only[I,Ne.symm I,A,Ne.symm A,U,Ne.symm U,Y,aa,ab,Ne.symm Y,Ne.symm aa,Ne.symm ab,af,ak,al,am,Ne.symm af,Ne.symm ak,Ne.symm al,Ne.symm am,W,go_sem];refine zi (XP:=λ_ _=>False) cc (λv b6 ⟨b8,bf,bw⟩=>?_) (λ_ _ h=>h.elim);subst b8;have cb:=bv.trans bw;have b7:=bw Z _ bt (Ne.symm A) cm;have b1:=bf.look;simp only[b2,Al6,Z6]at b1;have cd:=bf.sh;have bl:=bk ag.1 ag.2.1;obtain⟨bn,bo⟩:=bp ag.2 b6 ag.1 bf cb;simp(disch:=omega) only[b1,cd,b7,aw,bl,go_sem];exact bg _ _ _ _ [.bool ag.1] nofun rfl (Low.refl _) (fin ag.1 _ _ ah bn bo)
def shC(s:SchD)(fr:List (List UInt8×List ItD))(b A bs I no:Nat)(J:zJ s<=Lim):∀(f m:Nat) (x y:ItD),f<=64->m<=64->Ex fr f x.sub->Ex fr m y.sub->zhG s fr b A bs I no 251 (shF s fr f) x y
 | 0,m,x,y,hf,hm,hx,hy=>shG s fr b A bs I no J 0 m _ x y hx hf hy hm λu U v W=>by obtain⟨i,hi,_⟩:=zbY (seen:=[]) (f:=64) hx hf U;omega
 | f+1,m,x,y,hf,hm,hx,hy=>shG s fr b A bs I no J (f+1) m (shF s fr f) x y hx hf hy hm λu U v W=>by obtain⟨i,hi,X,_⟩:=zbY (seen:=[]) (f:=64) hx hf U;obtain⟨j,Z,Y,_⟩:=zbY (seen:=[]) (f:=64) hy hm W;exact shC s fr b A bs I no J f j u v (by omega) (by omega) (X.mono (by omega)) Y
end Go.Proofs.YtnemcnegfkjpeaaGreatDoor
