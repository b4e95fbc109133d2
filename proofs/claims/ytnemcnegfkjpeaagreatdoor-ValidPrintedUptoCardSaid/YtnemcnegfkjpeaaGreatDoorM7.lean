import Derived.Lib.ValidLaws
import Derived.Lib.ItoaLen
import Derived.Lib.Join
import Derived.Lib.DecodeN
import Derived.Lib.TrimUEq
import Derived.Shelf.Strings.OnBuilder
import Derived.Test.YtnemcnegfkjpeaaGreatDoorRows
import Derived.Test.YtnemcnegfkjpeaaGreatDoorM6
set_option maxRecDepth 100000
set_option linter.all false
namespace Go.Proofs.YtnemcnegfkjpeaaGreatDoor
open Go.Ab
def zj4{H H':zb}{A o2:Own}{n sz:Nat}(h:zA H o2 n sz)(J:Kept H A H')(U:∀b x c y,A=.tip b x->o2=.tip c y->b≠c):zA H' o2 n sz:=by
 cases o2 with
 | tip c y =>have I:H c=some _:=h;exact J c _ I λd e=>U c d c y e rfl rfl
 | no=>exact h
 | nil=>exact h
 | full=>exact h
def znz{H:zb}{c y n sz:Nat}(h:zA H (.tip c y) n sz):H c≠none:=by have A:H c=some _:=h;rw[A];exact nofun
structure DI (L:TS) (r bd:Nat) (H:zb) (t:TS) (d:DocD) (o1 o2:Own):Prop where
 rd:∃p,p++t=L/\H r=some (prc L p (16-16))
 box:H bd=some (.cells [.sl o1 5 (cOs d.ops),.sl o2 4 (cFs d.frags)])
 own1:zA H o1 d.ops.length 5
 own2:zA H o2 d.frags.length 4
 sep:∀b x c y,o1=.tip b x->o2=.tip c y->b≠c
 ne:bd≠r
def DI.call{L t t':TS}{r A:Nat}{H H':zb}{d:DocD}{J o2:Own}(h:DI L r A H t d J o2)(I:Pat H r L t' (16-16) H'):DI L r A H' t' d J o2:=by obtain⟨p,_,hr⟩:=h.rd;have U:=I.other h.ne;obtain⟨q,hq,rfl⟩:=I;exact⟨⟨q,hq,upd_same ..⟩,by rw[U];exact h.box,ZI h.own1 hr,ZI h.own2 hr,h.sep,h.ne⟩
def DI.op{L t:TS}{r I n:Nat}{H H':zb}{d:DocD}{X o2 o':Own}{xs:List (List AV)}(h:DI L r I H t d X o2)(x:OpD)(A:OwnS H X H' o' n 5)(aa:n=(d.ops++[x]).length)(ad:xs=cOs (d.ops++[x])):
  DI L r I (H'.upd I (.cells [.sl o' 5 xs,.sl o2 4 (cFs d.frags)])) t ⟨d.ops++[x],d.frags⟩ o' o2:=by
 obtain⟨p,ab,hr⟩:=h.rd;have W:=Zs h.own1 h.box A.kept;have ac:=Zs h.own1 hr A.kept;subst aa;subst ad;refine⟨⟨p,ab,by rw[upd_ne (Ne.symm h.ne)];exact ac⟩,upd_same ..,ZI A.own W,ZI (zj4 h.own2 A.kept h.sep) W,λb x c y Z U=>?_,h.ne⟩;rcases A.new b x Z with J|⟨Y,J⟩
 ·subst U;exact λe=>znz h.own2 (e▸J)
 ·exact h.sep b Y c y J U
def DI.frag{L t:TS}{r J n:Nat}{H H':zb}{d:DocD}{X o2 o':Own}{xs:List (List AV)}(h:DI L r J H t d X o2)(x:FragD)(A:OwnS H o2 H' o' n 4)(aa:n=(d.frags++[x]).length)(ad:xs=cFs (d.frags++[x])):
  DI L r J (H'.upd J (.cells [.sl X 5 (cOs d.ops),.sl o' 4 xs])) t ⟨d.ops,d.frags++[x]⟩ X o':=by
 obtain⟨p,ab,hr⟩:=h.rd;have Y:=Zs h.own2 h.box A.kept;have ac:=Zs h.own2 hr A.kept;subst aa;subst ad;refine⟨⟨p,ab,by rw[upd_ne (Ne.symm h.ne)];exact ac⟩,upd_same ..,ZI (zj4 h.own1 A.kept λb x c y I U=>Ne.symm (h.sep c y b x U I)) Y,ZI A.own Y,λb x c y I U=>?_,h.ne⟩;rcases A.new c y U with W|⟨Z,W⟩
 ·subst I;exact λe=>znz h.own1 (by rw[e];exact W)
 ·exact h.sep b x c Z I W
def zB1(L:TS)(r bd:Nat)(t:TS)(d:DocD):AEnd->zb->Prop:=λe H'=>match e with
 | .ret v=>∃d' t' o1' o2',zbp d t=.ok (d',t')/\v=.tup []/\DI L r bd H' t' d' o1' o2'/\d'.ops.length+d'.frags.length+t'.length<=d.ops.length+d.frags.length+t.length/\t'.length<t.length
 | .pan v=>∃n,v=YC n/\zbp d t=.error n
def zuS(l:List FragD)(x:FragD):cFs (l++[x])=cFs l++[cF x]:=by simp[cFs]
def zk7(l:List OpD)(x:OpD):cOs (l++[x])=cOs l++[cO x]:=by simp[cOs]
def zg3(x:OpD):(cO x).length=5:=rfl
def zeX(x:OpD):(cO x).take 5=cO x:=rfl
def zbq(a b c d e:AV)(x:OpD):splice [a,b,c,d,e] 0 (cO x)=cO x:=rfl
def zuh(x:FragD):(cF x).length=4:=rfl
def zp7(x:FragD):(cF x).take 4=cF x:=rfl
def zks(a b c d:AV)(x:FragD):splice [a,b,c,d] 0 (cF x)=cF x:=rfl
def zxa{L t:TS}{r aj:Nat}{H:zb}{d:DocD}{bh o2:Own}(h:DI L r aj H t d bh o2)(ad:wT L<=y0)(b9:d.ops.length+d.frags.length<=L.length):
  zd Tryz.prog 18 [.ptr r 0,.ptr aj 0] H (zB1 L r aj t d):=by
 refine zd.goO (R:=λv H'=>∃ak t' b1 b2,zbp d t=.ok (ak,t')/\v=.tup []/\DI L r aj H' t' ak b1 b2/\ak.ops.length+ak.frags.length+t'.length<=d.ops.length+d.frags.length+t.length/\t'.length<t.length) (RP:=λv _=>∃n,v=YC n/\zbp d t=.error n) ir18.1 ir18.2 (Al4 _) λKP Q ap br=>?_;have au:L.length<=y0:=Nat.le_trans (za9 L) ad;have bu:=au;simp only[y0]at bu;have pan:∀(v:AV) (H1:zb) (n:Int),v=YC n->zbp d t=.error n->KP v H1:=λv H1 n bo bp=>br v H1 H1 (Low.refl _) ⟨n,bo,bp⟩;have I:=Z9 d.ops;have aq:=YO d.frags;obtain⟨p,bc,hr⟩:=h.rd;have bj:=h.box;simp(disch:=omega) only[ir18,go_sem];refine zC (zrn (dp:=16-16) bc hr [123]) λv H1 ⟨bz,bq⟩=>?_;subst bz;subst bq;cases hi:isP [123] t with
 | true =>
  have X:zbp d t=pb (yw 16 t) λl t=>.ok (⟨d.ops++[⟨0,[],[],[],l⟩],d.frags⟩,t):=by unfold zbp;rw[hi];rfl
  simp(disch:=omega) only[bj,go_sem];refine zi (zbD 16 (Al4 _) _ r L p t bc ad hr) (λv aw ⟨l,b5,al,af,a0⟩=>?_) λv aw ⟨n,al,af⟩=>pan v aw n af (by rw[X,al];rfl);have a3:=(zbt 16).lt (by decide) _ _ _ al;have Z:zbp d t=.ok (⟨d.ops++[⟨0,[],[],[],l⟩],d.frags⟩,b5):=by rw[X,al];rfl
  have J:=h;subst af;have A:=J.call a0;obtain⟨be,a7,ba⟩:=A.rd;have U:=A.box;simp(disch:=omega) only[U,zg3,zeX,zbq,go_sem];refine zj (by rw[I];exact A.own1) (by simp only[I,Al2,Al3];omega) (by simp only[I,Al2,Al3,maxLen];omega) λab az W=>?_;have aa:=Zs A.own1 U W.kept;simp(disch:=omega) only[aa,zg3,zeX,zbq,go_sem];refine ap _ _ _ _ [] nofun rfl (Low.refl _) ⟨_,_,ab,o2,Z,rfl,A.op ⟨0,[],[],[],l⟩ (by simpa[I]using W) (by simp) (by rw[zk7];simp[cO,AV.strip1,cWs,cDs]),by simp only[Al5,List.length_singleton];omega,by omega⟩
 | false =>
  have av:¬ (isP [123] t=true):=by rw[hi];decide
  simp(disch:=omega) only[go_sem];refine zC (zkY (dp:=16-16) bc au hr [113,117,101,114,121]) λv aw ⟨af,a0⟩=>?_;subst af;have J:=h.call a0;unfold YZ at J;cases hq:isW [113,117,101,114,121] t with
  | true =>
   rw[hq,if_pos rfl]at J;have ca:=(zl7 hq).1;have bg:t.tail.length<t.length:=by rw[zdd (zii hq)];simp
   obtain⟨b3,a5,a8⟩:=J.rd;have bk:=J.box;have X:zbp d t=pb (opP 0 t.tail) λo t=>.ok (⟨d.ops++[o],d.frags⟩,t):=by unfold zbp;rw[if_neg av,hq];rfl
   simp(disch:=omega) only[bk,go_sem];refine zi (zA4 0 a5 ad a8) (λv ax ⟨o,b6,am,ag,a1⟩=>?_) λv ax ⟨n,am,ag⟩=>pan v ax n ag (by rw[X,am];rfl);have a3:=(zpy 0).lt (by decide) _ _ _ am;have Z:zbp d t=.ok (⟨d.ops++[o],d.frags⟩,b6):=by rw[X,am];rfl
   subst ag;have A:=J.call a1;obtain⟨be,a7,ba⟩:=A.rd;have U:=A.box;simp(disch:=omega) only[U,zg3,zeX,zbq,go_sem];refine zj (by rw[I];exact A.own1) (by simp only[I,Al2,Al3];omega) (by simp only[I,Al2,Al3,maxLen];omega) λab az W=>?_;have aa:=Zs A.own1 U W.kept;simp(disch:=omega) only[aa,zg3,zeX,zbq,go_sem];refine ap _ _ _ _ [] nofun rfl (Low.refl _) ⟨_,_,ab,o2,Z,rfl,A.op o (by simpa[I]using W) (by simp) (by rw[zk7];simp[cO,AV.strip1,cWs,cDs]),by simp only[Al5,List.length_singleton];omega,by omega⟩
  | false =>
   rw[hq]at J;simp only[Al7,if_false]at J;have a4:¬ (isW [113,117,101,114,121] t=true):=by rw[hq];decide
   obtain⟨b3,a5,a8⟩:=J.rd;simp(disch:=omega) only[go_sem];refine zC (zkY (dp:=16-16) a5 au a8 [109,117,116,97,116,105,111,110]) λv ax ⟨ag,a1⟩=>?_;subst ag;have Y:=J.call a1;unfold YZ at Y;cases ae:isW [109,117,116,97,116,105,111,110] t with
   | true =>
    rw[ae,if_pos rfl]at Y;have bg:t.tail.length<t.length:=by rw[zdd (zii ae)];simp
    obtain⟨b4,a6,a9⟩:=Y.rd;have bl:=Y.box;have X:zbp d t=pb (opP 1 t.tail) λo t=>.ok (⟨d.ops++[o],d.frags⟩,t):=by unfold zbp;rw[if_neg av,if_neg a4,ae];rfl
    simp(disch:=omega) only[bl,go_sem];refine zi (zA4 1 a6 ad a9) (λv ay ⟨o,b7,an,ah,a2⟩=>?_) λv ay ⟨n,an,ah⟩=>pan v ay n ah (by rw[X,an];rfl);have a3:=(zpy 1).lt (by decide) _ _ _ an;have Z:zbp d t=.ok (⟨d.ops++[o],d.frags⟩,b7):=by rw[X,an];rfl
    subst ah;have A:=Y.call a2;obtain⟨be,a7,ba⟩:=A.rd;have U:=A.box;simp(disch:=omega) only[U,zg3,zeX,zbq,go_sem];refine zj (by rw[I];exact A.own1) (by simp only[I,Al2,Al3];omega) (by simp only[I,Al2,Al3,maxLen];omega) λab az W=>?_;have aa:=Zs A.own1 U W.kept;simp(disch:=omega) only[aa,zg3,zeX,zbq,go_sem];refine ap _ _ _ _ [] nofun rfl (Low.refl _) ⟨_,_,ab,o2,Z,rfl,A.op o (by simpa[I]using W) (by simp) (by rw[zk7];simp[cO,AV.strip1,cWs,cDs]),by simp only[Al5,List.length_singleton];omega,by omega⟩
   | false =>
    rw[ae]at Y;simp only[Al7,if_false]at Y;have bf:¬ (isW [109,117,116,97,116,105,111,110] t=true):=by rw[ae];decide
    obtain⟨b4,a6,a9⟩:=Y.rd;simp(disch:=omega) only[go_sem];refine zC (zkY (dp:=16-16) a6 au a9 [102,114,97,103,109,101,110,116]) λv ay ⟨ah,a2⟩=>?_;subst ah;have ac:=Y.call a2;unfold YZ at ac;cases ar:isW [102,114,97,103,109,101,110,116] t with
    | true =>
     rw[ar,if_pos rfl]at ac;have bg:t.tail.length<t.length:=by rw[zdd (zii ar)];simp
     obtain⟨cb,bw,bx⟩:=ac.rd;have bn:=ac.box;have X:zbp d t=pb (zfj t.tail) λf t=>.ok (⟨d.ops,d.frags++[f]⟩,t):=by unfold zbp;rw[if_neg av,if_neg a4,if_neg bf,ar];rfl
     simp(disch:=omega) only[bn,go_sem];refine zi (zxR bw ad bx) (λv ai ⟨f,b8,ao,bd,bt⟩=>?_) λv ai ⟨n,ao,bd⟩=>pan v ai n bd (by rw[X,ao];rfl);have a3:=zrf.lt (by decide) _ _ _ ao;have Z:zbp d t=.ok (⟨d.ops,d.frags++[f]⟩,b8):=by rw[X,ao];rfl
     subst bd;have A:=ac.call bt;obtain⟨be,a7,ba⟩:=A.rd;have U:=A.box;simp(disch:=omega) only[U,zuh,zp7,zks,go_sem];refine zj (by rw[aq];exact A.own2) (by simp only[aq,Al2,Al3];omega) (by simp only[aq,Al2,Al3,maxLen];omega) λab az W=>?_;have aa:=Zs A.own2 U W.kept;simp(disch:=omega) only[aa,zuh,zp7,zks,go_sem];refine ap _ _ _ _ [] nofun rfl (Low.refl _) ⟨_,_,bh,ab,Z,rfl,A.frag f (by simpa[aq]using W) (by simp) (by rw[zuS];simp[cF,AV.strip1]),by simp only[Al5,List.length_singleton];omega,by omega⟩
    | false =>
     have bv:¬ (isW [102,114,97,103,109,101,110,116] t=true):=by rw[ar];decide
     simp(disch:=omega) only[go_sem];exact zi (zfi _ r 2) (λ_ _ h=>h.elim) λv ai h=>pan v ai 2 h (by unfold zbp;rw[if_neg av,if_neg a4,if_neg bf,if_neg bv])
def zog(may:UInt8->Bool)(t:List UInt8):AV:=match zht may t with
 | some (b,t')=>.tup [.str b,.int .i64 ((t.length+1-t'.length:Nat):Int)]
 | none=>.tup [.str [],.int .i64 0]
def zu2(f:FuncId)(a7:Program.callable Tryz.prog f=true)(I:UInt8->Bool)(a9:∀c:UInt8,ze Tryz.prog f [.int .u8 c.toNat] (.bool (I c)))(a:UInt8)(t:List UInt8)(a8:t.length+1<=zir):
  ze Tryz.prog 185 [.str (a::t),.clo f [] []] (zog I t):=by
 refine ze.go ir185.1 ir185.2 (Al4 _) λKP Q Y=>?_;simp only[zir]at a8;simp(disch:=omega) only[ir185,go_sem];refine zc λq hq=>?_;simp(disch:=omega) only[go_sem];obtain⟨R,ac⟩:∃R,zfq I (t.length+1) t ⟨[],[],true⟩=R:=⟨_,rfl⟩;have fail:R=none->zog I t=.tup [.str [],.int .i64 0]:=λe=>by unfold zog zht;rw[ac,e]
 refine Ze (λs:List UInt8×Sd×Own×Own=>[(7,.int .i64 ((t.length+1-s.1.length:Nat):Int))])
  (λs H=>s.1 <:+ t/\(∃n,s.1.length<n/\zfq I n s.1 s.2.1=R)/\s.2.1.w+s.1.length<=t.length/\SaidAt H q s.2.1 s.2.2.1 s.2.2.2) (λs=>s.1.length) (t,⟨[],[],true⟩,.nil,.nil)
  (by
   have:(t.length+1-t.length:Nat)=1:=by omega
   simp(disch:=omega) only[this,go_sem]) ⟨List.suffix_refl _,⟨t.length+1,by simp,ac⟩,by simp[Sd.w],upd_same ..,rfl,rfl,nofun⟩ ?_
 rintro⟨rest,x,o,bl⟩ H bd ⟨am,⟨n,aq,A⟩,ax,ag⟩ ap;simp only at am aq A ax ag;have bk:=am.length_le;obtain⟨n,rfl⟩:∃k,n=k+1:=⟨n-1,by omega⟩;cases rest with
 | nil =>
  have U:R=none:=by rw[<-A];rfl
  have W:t.length+1-0=t.length+1:=rfl;have X:(((t.length+1:Nat):Int)<=((t.length+1:Nat):Int))=True:=eq_true (Int.le_refl _);simp(disch:=omega) only[W,X,go_sem];exact Y _ _ _ _ nofun rfl (by simp[fail U])
 | cons c r =>
  obtain⟨p,af⟩:=am;have bh:t.length=p.length+(r.length+1):=by rw[<-af];simp
  have W:t.length+1-(r.length+1)=p.length+1:=by omega
  have X:¬ (((t.length+1:Nat):Int)<=((p.length+1:Nat):Int)):=by omega
  have ab:(((p.length+1:Nat):Int)<((t.length+1:Nat):Int))=True:=eq_true (by omega);have hi:(a::t).getD (p.length+1) 0=c:=by rw[<-af];simp
  have bg:(((p.length+1:Nat):Int)+1)=((p.length+1+1:Nat):Int):=by omega
  have aw:r <:+ t:=⟨p++[c],by rw[<-af];simp⟩;simp only[zfq]at A;simp only[Al2]at ax aq;have an:x.w<=zir:=by simp only[zir];omega
  by_cases c1:c=34
  ·subst c1;simp only[if_true]at A;have ak:(((34:UInt8).toNat:Int)=34)=True:=eq_true rfl;simp(disch:=omega) only[W,X,ab,hi,ak,go_sem];refine zC (zoH ag an) λv H1 ⟨aa,o',al⟩=>?_;subst aa;have hq:=al.hq;cases ae:(ZF x).ok
   ·rw[ae]at hq;have U:zht I t=none:=by unfold zht;rw[ac,<-A];simp[ae]
    simp(disch:=omega) only[hq,go_sem];exact Y _ _ _ _ nofun rfl (by simp[zog,U])
   ·rw[ae]at hq;have U:zht I t=some ((ZF x).b,r):=by unfold zht;rw[ac,<-A];simp[ae]
    simp(disch:=omega) only[hq,zl0,wrap64,go_sem];have a1:(p.length:Int)+1+1=((t.length+1-r.length:Nat):Int):=by omega
    exact Y _ _ _ _ nofun rfl (by simp[zog,U,a1])
  have az:¬ ((c.toNat:Int)=34):=λe=>c1 (by apply UInt8.toNat_inj.1;show c.toNat=34;omega);rw[if_neg c1]at A;by_cases ai:c=92
  ·subst ai;simp only[if_true]at A;have ak:¬ (((92:UInt8).toNat:Int)=34):=by decide
   have a6:(((92:UInt8).toNat:Int)=92)=True:=eq_true rfl;have a2:(((p.length+1:Nat):Int)+1<=((t.length+1:Nat):Int))=True:=eq_true (by omega);have a3:(((p.length+1:Nat):Int)+1).toNat=p.length+2:=by omega
   have hdr:(a::t).drop (p.length+2)=r:=by rw[<-af];simp
   simp(disch:=omega) only[W,X,ab,hi,ak,a6,wrap64,a2,a3,hdr,go_sem];refine zC (zBt ag an r (by simp only[Lim];omega)) λv H1 Z=>?_;unfold zoJ at Z;cases J:zdG x r with
   | none =>rw[J]at Z A;subst Z;simp(disch:=omega) only[go_sem];exact Y _ _ _ _ nofun rfl (by simp[fail A.symm])
   | some y =>
    obtain⟨ay,t'⟩:=y;rw[J]at Z A;obtain⟨aa,ao,ba,ah⟩:=Z;subst aa;have a4:=zi4 J;have be:=ztk J;have a5:¬ (((r.length-t'.length:Nat):Int)=0):=by omega
    have aj:((p.length+1:Nat):Int)+(1+((r.length-t'.length:Nat):Int))=((t.length+1-t'.length:Nat):Int):=by omega
    simp(disch:=omega) only[a5,wrap64,aj,go_sem];exact goJ (ap (t',ay,ao,ba) _ (by simp;omega) ⟨a4.1.trans aw,⟨n,by show t'.length<n;omega,A⟩,by show ay.w+t'.length<=t.length;omega,ah⟩) (by simp(disch:=omega) only[go_sem])
  have a0:¬ ((c.toNat:Int)=92):=λe=>ai (by apply UInt8.toNat_inj.1;show c.toNat=92;omega);rw[if_neg ai]at A;simp(disch:=omega) only[W,X,ab,hi,az,a0,a7,go_sem];refine za (a9 c) ?_;cases J:I c
  ·rw[J]at A;simp(disch:=omega) only[go_sem];exact Y _ _ _ _ nofun rfl (by simp[fail A.symm])
  ·rw[J]at A;simp only[if_true]at A;simp(disch:=omega) only[go_sem];refine zC (zoH ag an) λv H1 ⟨aa,o',al⟩=>?_;subst aa;obtain⟨au,ar,_,_⟩:=al;have bf:=zgz x;have bj:=ztZ x c;have ad:=yd (ZF x).b;simp(disch:=omega) only[au,ab,hi,go_sem];refine zj (by rw[ad];exact ar) (by simp[ad];omega) (by simp[maxLen,ad];omega) λao bc ah=>?_;have av:=Zs ar au ah.kept;simp(disch:=omega) only[av,wrap64,go_sem];have aj:((p.length+1:Nat):Int)+1=((t.length+1-r.length:Nat):Int):=by omega
   refine goJ (ap (r,x.put c,ao,.nil) _ (by simp) ⟨aw,⟨n,by show r.length<n;omega,A⟩,by show (x.put c).w+r.length<=t.length;omega,?_,?_,rfl,nofun⟩) (by simp(disch:=omega) only[aj,go_sem])
   ·simp only[upd_same,Sd.put];rw[<-Zo];rfl
   ·simp only[Sd.put,Al5,Al2,Al3];exact ZI (by simpa[ad]using ah.own) av
open Go.Lib
end Go.Proofs.YtnemcnegfkjpeaaGreatDoor
namespace Go.Proofs.YtnemcnegfkjpeaaGreatDoor
open Go.Ab
def zz(l:List UInt8):Nat×Nat:=if l=[]then (0,0)else if Lib.decodeL l=(65533,1)then (0,0)else Lib.decodeL l
def cv(v0:Nat)(b:Nat->Nat):Nat->Nat
 | 0=>v0
 | j+1=>cv v0 b j*64+b (j+1) % 64
def zoI{l:List UInt8}(A:l≠[])(h:(zz l).2≠0):Lib.validD l=Lib.validD (l.drop (zz l).2)/\(zz l).2<=l.length:=by
 unfold zz at h ⊢;rw[if_neg A]at h ⊢;split at h
 ·simp at h
 ·rename_i e;rw[if_neg e];refine⟨?_,Lib.decodeL_le l A⟩;rw[Lib.validD_step l A,if_neg];rintro⟨a,b⟩;exact e (Prod.ext a b)
open Go.Lib
end Go.Proofs.YtnemcnegfkjpeaaGreatDoor
namespace Go.Proofs.YtnemcnegfkjpeaaGreatDoor
open Go.Ab
open Go.Lib
structure DecOk (l:List UInt8) (c k:Nat):Prop where
 enc:Z7 c=l.take k
 le:c<=1114111
 pos:1<=k
 len:k<=l.length
 one:k=1->c=(l.getD 0 0).toNat/\(l.getD 0 0).toNat<128
 high:k≠1->∀x∈l.take k,128<=x.toNat
def zco{n:Nat}{b:UInt8}(h:n=b.toNat):UInt8.ofNat n=b:=UInt8.toNat_inj.1 (by rw[UInt8.toNat_ofNat',h];have:=b.toNat_lt;omega)
def zwL{b0 A:UInt8}{t:List UInt8}(J:b0.toNat / 32=6)(U:A.toNat / 64=2)(W:128<=b0.toNat % 32*64+A.toNat % 64):DecOk (b0::A::t) (b0.toNat % 32*64+A.toNat % 64) 2:=by
 refine⟨?_,by omega,by omega,by simp,λh=>by omega,λ_ x I=>?_⟩
 ·unfold Z7;rw[if_neg (by omega),if_pos (by omega)];simp only[zfF,List.take_zero,List.cons.injEq,and_true];exact⟨zco (by omega),zco (by omega)⟩
 ·simp only[zfF,List.take_zero,List.mem_cons,List.not_mem_nil,or_false]at I;rcases I with rfl|rfl<;>omega
def zrd{b0 A I:UInt8}{t:List UInt8}(U:b0.toNat / 16=14)(W:A.toNat / 64=2)(X:I.toNat / 64=2)(Y:2048<=b0.toNat % 16*4096+A.toNat % 64*64+I.toNat % 64):
  DecOk (b0::A::I::t) (b0.toNat % 16*4096+A.toNat % 64*64+I.toNat % 64) 3:=by
 refine⟨?_,by omega,by omega,by simp,λh=>by omega,λ_ x J=>?_⟩
 ·unfold Z7;rw[if_neg (by omega),if_neg (by omega),if_pos (by omega)];simp only[zfF,List.take_zero,List.cons.injEq,and_true];exact⟨zco (by omega),zco (by omega),zco (by omega)⟩
 ·simp only[zfF,List.take_zero,List.mem_cons,List.not_mem_nil,or_false]at J;rcases J with rfl|rfl|rfl<;>omega
def zsv{b0 A I J:UInt8}{t:List UInt8}(W:b0.toNat / 8=30)(X:A.toNat / 64=2)(Y:I.toNat / 64=2)(Z:J.toNat / 64=2)(aa:65536<=b0.toNat % 8*262144+A.toNat % 64*4096+I.toNat % 64*64+J.toNat % 64)(ab:b0.toNat % 8*262144+A.toNat % 64*4096+I.toNat % 64*64+J.toNat % 64<=1114111):
  DecOk (b0::A::I::J::t) (b0.toNat % 8*262144+A.toNat % 64*4096+I.toNat % 64*64+J.toNat % 64) 4:=by
 refine⟨?_,by omega,by omega,by simp,λh=>by omega,λ_ x U=>?_⟩
 ·unfold Z7;rw[if_neg (by omega),if_neg (by omega),if_neg (by omega)];simp only[zfF,List.take_zero,List.cons.injEq,and_true];exact⟨zco (by omega),zco (by omega),zco (by omega),zco (by omega)⟩
 ·simp only[zfF,List.take_zero,List.mem_cons,List.not_mem_nil,or_false]at U;rcases U with rfl|rfl|rfl|rfl<;>omega
def zn5{l:List UInt8}(aa:l≠[])(h:decodeL l≠(65533,1)):DecOk l (decodeL l).1 (decodeL l).2:=by
 rw[decodeL_N]at h ⊢;obtain⟨b0,t,rfl⟩:∃b0 t,l=b0::t:=by cases l with|nil=>exact absurd rfl aa|cons a b=>exact⟨a,b,rfl⟩
 simp only[List.getD_cons_zero,List.getD_cons_succ]at h ⊢;unfold decodeN at h ⊢;split at h
 ·rename_i X;rw[if_pos X];refine⟨?_,by simp only;omega,by simp,by simp,λ_=>⟨by simp,by simpa using X⟩,λh=>absurd rfl h⟩;simp only
  unfold Z7;rw[if_pos (by omega)];simp only[zfF,List.take_zero,List.cons.injEq,and_true];exact zco rfl
 ·rename_i X;rw[if_neg X];split at h
  ·rename_i U;rw[if_pos U];split at h
   ·rename_i A;rw[if_pos A];obtain⟨J,t,rfl⟩:∃J r,t=J::r:=by cases t with|nil=>simp at U|cons a b=>exact⟨a,b,rfl⟩
    exact zwL U.1 (by simpa using U.2.2) (by simpa using A)
   ·exact absurd rfl h
  ·rename_i U;rw[if_neg U];split at h
   ·rename_i A;rw[if_pos A];split at h
    ·rename_i I;rw[if_pos I];obtain⟨J,t,rfl⟩:∃J r,t=J::r:=by cases t with|nil=>simp at A|cons a b=>exact⟨a,b,rfl⟩
     obtain⟨W,t,rfl⟩:∃W r,t=W::r:=by cases t with|nil=>simp at A|cons a b=>exact⟨a,b,rfl⟩
     exact zrd A.1 (by simpa using A.2.1.2) (by simpa using A.2.2.2) (by simpa using I.1)
    ·exact absurd rfl h
   ·rename_i A;rw[if_neg A];split at h
    ·rename_i I;rw[if_pos I];split at h
     ·rename_i Y;rw[if_pos Y];obtain⟨J,t,rfl⟩:∃J r,t=J::r:=by cases t with|nil=>simp at I|cons a b=>exact⟨a,b,rfl⟩
      obtain⟨W,t,rfl⟩:∃W r,t=W::r:=by cases t with|nil=>simp at I|cons a b=>exact⟨a,b,rfl⟩
      obtain⟨Z,t,rfl⟩:∃Z r,t=Z::r:=by cases t with|nil=>simp at I|cons a b=>exact⟨a,b,rfl⟩
      exact zsv I.1 (by simpa using I.2.1.2) (by simpa using I.2.2.1.2) (by simpa using I.2.2.2.2) (by simpa using Y.1) (by have:=Y.2;simp at this ⊢;omega)
     ·exact absurd rfl h
    ·exact absurd rfl h
def zaH{l:List UInt8}(I:l≠[])(A:validD l=true):DecOk l (zz l).1 (zz l).2/\validD (l.drop (zz l).2)=true:=by
 rw[validD_step l I]at A;split at A
 ·cases A
 ·rename_i h;have h':decodeL l≠(65533,1):=λe=>h ⟨by rw[e],by rw[e]⟩;have e:zz l=decodeL l:=by unfold zz;rw[if_neg I,if_neg h']
  rw[e];exact⟨zn5 I h',A⟩
def zhc{A:UInt8->Bool}:∀(n m:Nat) (t:List UInt8) (q:Sd),t.length<n->t.length<m->zfq A n t q=zfq A m t q
 | 0,_,_,_,h,_=>by omega
 | _,0,_,_,_,h=>by omega
 | _+1,_+1,[],_,_,_=>rfl
 | n+1,m+1,c::t,q,h1,h2=>by
  simp only[Al2]at h1 h2;simp only[zfq];split
  ·rfl
  ·split
   ·cases I:zdG q t with
    | none=>rfl
    | some x =>have:=(zi4 (q':=x.1) (t':=x.2) I).2;exact zhc n m x.2 x.1 (by omega) (by omega)
   ·split
    ·exact zhc n m t _ (by omega) (by omega)
    ·rfl
def zdp(may:UInt8->Bool)(t:List UInt8)(q:Sd):Option (Sd×List UInt8):=zfq may (t.length+1) t q
def zqf(A:UInt8->Bool)(t:List UInt8)(q:Sd):zdp A (34::t) q=some (ZF q,t):=by simp[zdp,zfq]
def zp8(A:UInt8->Bool)(t:List UInt8)(q:Sd):zdp A (92::t) q=match zdG q t with|none=>none|some (q',t')=>zdp A t' q':=by
 unfold zdp;simp only[Al2,zfq];rw[if_neg (by decide),if_pos trivial];cases I:zdG q t with
 | none=>rfl
 | some x =>have:=(zi4 (q':=x.1) (t':=x.2) I).2;exact zhc _ _ x.2 x.1 (by omega) (by omega)
def zsF(A:UInt8->Bool){c:UInt8}(t:List UInt8)(q:Sd)(I:c≠34)(J:c≠92):zdp A (c::t) q=if A c then zdp A t (q.put c)else none:=by unfold zdp;simp only[Al2,zfq];rw[if_neg I,if_neg J]
def zzR(x:Option (Sd×List UInt8)):Option (List UInt8×List UInt8):=match x with
 | some (q,t')=>if q.ok then some (q.b,t')else none
 | none=>none
def zxZ(A:UInt8->Bool)(t:List UInt8):zht A t=zzR (zdp A t ⟨[],[],true⟩):=rfl
def Z2(c:UInt8):Bool:=decide (c≠10)&&decide (c≠13)
def zjW:∀(bs t out:List UInt8),(∀x∈bs,128<=x.toNat)->zdp Z2 (bs++t) ⟨out,[],true⟩=zdp Z2 t ⟨out++bs,[],true⟩
 | [],t,out,_=>by simp
 | b::bs,t,out,h=>by
  have J:=h b (.head _);have A:∀n:UInt8,n.toNat<128->b≠n:=λn U e=>by subst e;omega
  rw[Al6,zsF Z2 _ _ (A 34 (by decide)) (A 92 (by decide)),if_pos (by simp[Z2,A 10 (by decide),A 13 (by decide)])];have e:Sd.put ⟨out,[],true⟩ b=⟨out++[b],[],true⟩:=by simp[Sd.put,ZF,yh]
  rw[e,zjW bs t (out++[b]) λx I=>h x (.tail _ I)];simp
def zqS{l out:List UInt8}{us:List Nat}{A:List UInt8}(X:yh us=some A){c k:Nat}(h:DecOk l c k)(Z:l≠[])(I:l.getD 0 0≠34)(J:l.getD 0 0≠92)(U:Z2 (l.getD 0 0)=true):
  zdp Z2 l ⟨out,us,true⟩=zdp Z2 (l.drop k) ⟨out++A++l.take k,[],true⟩:=by
 obtain⟨b,t,rfl⟩:∃b t,l=b::t:=by cases l with|nil=>exact absurd rfl Z|cons a b=>exact⟨a,b,rfl⟩
 simp only[List.getD_cons_zero]at I J U;obtain⟨m,rfl⟩:∃m,k=m+1:=⟨k-1,by have:=h.pos;omega⟩;rw[zsF Z2 t _ I J,if_pos U];have e:Sd.put ⟨out,us,true⟩ b=⟨out++A++[b],[],true⟩:=by simp[Sd.put,ZF,X]
 rw[e,List.drop_succ_cons,zfF];by_cases Y:m=0
 ·subst Y;simp
 ·have W:=h.high (by omega);rw[zfF]at W;have:=zjW (t.take m) (t.drop m) (out++A++[b]) λx aa=>W x (.tail _ aa);rw[List.take_append_drop]at this;rw[this];simp
def za6:List UInt8:=[46,46,46]
def zf1:List UInt8:=[33,36,38,40,41,58,61,64,91,93,123,124,125]
def zoi:List UInt8->Bool
 | [c]=>decide (0<=Lib.indexByte zf1 c)
 | _=>false
def yy(t:Tok):Bool:=if t.k=1 then decide (t.s=za6)||zoi t.s else if t.k=2 then zL t.s else if t.k=3∨t.k=4 then decide (zaO t.s=t.k)else if t.k=5 then validD t.s else false
def ZE(u:Nat):List UInt8:=[92,117,hexL.getD (u / 4096 % 16) 0,hexL.getD (u / 256 % 16) 0,hexL.getD (u / 16 % 16) 0,hexL.getD (u % 16) 0]
def ZM(c:Nat)(bs:List UInt8):List UInt8 :=
 if c=34∨c=92 then [92,UInt8.ofNat c]else if c=10 then [92,110]else if c<32 then ZE c
 else if 65536<=c then ZE (55296+(c-65536) / 1024)++ZE (56320+(c-65536) % 1024)else bs
def ZH:Nat->List UInt8->List UInt8
 | 0,_=>[]
 | n+1,l=>if l=[]then []else ZM (zz l).1 (l.take (zz l).2)++ZH n (l.drop (zz l).2)
def ziL(s:List UInt8):List UInt8:=34::(ZH s.length s++[34])
def Yu(t:Tok):List UInt8:=if t.k=5 then ziL t.s else t.s
def Zt(l:List Tok):List UInt8:=Lib.join (l.map Yu) [32]
def zaa(l:List Tok):List UInt8×Bool:=if l.all yy then (Zt l,true)else ([],false)
def zjn:List UInt8->List UInt8->List (List UInt8)
 | cur,[]=>[cur]
 | cur,[c]=>if c=10∨c=13 then [cur,[]]else [cur++[c]]
 | cur,c::d::r=>if c=10 then cur::zjn [] (d::r)else if c=13 then (if d=10 then cur::zjn [] r else cur::zjn [] (d::r))else zjn (cur++[c]) (d::r)
def zyh(s:List UInt8):List (List UInt8):=zjn [] s
def zzy(c:UInt8):Bool:=decide (c=9)||decide (c=32)
def zxj(s:List UInt8):Nat:=(s.takeWhile zzy).length
def ztc(s:List UInt8):Bool:=s.all zzy
def zAb:List (List UInt8)->Int->Int
 | [],a=>a
 | s::r,a=>zAb r (if ztc s then a else if a<0∨(zxj s:Int)<a then zxj s else a)
def indM(l:List (List UInt8)):Int:=zAb l.tail (-1)
def zz1(l:List (List UInt8)):List (List UInt8):=match l with
 | []=>[]
 | x::r=>x::r.map λs=>s.drop (indM l).toNat
def zAU(l:List (List UInt8)):List (List UInt8):=(l.reverse.dropWhile ztc).reverse
def zua(raw:List UInt8):List UInt8:=Lib.join (zAU ((zz1 (zyh raw)).dropWhile ztc)) [10]
def YY:List UInt8:=[34,34,34]
def zBj:List UInt8:=[92,34,34,34]
def zra:List UInt8:=[239,187,191]
def zvP:Nat->List UInt8->List UInt8->Option (List UInt8×List UInt8)
 | 0,_,_=>none
 | n+1,raw,t=>match t with
  | []=>none
  | c::r=>if YY.isPrefixOf (c::r)then some (raw,r.drop 2)else if zBj.isPrefixOf (c::r)then zvP n (raw++YY) (r.drop 3)else zvP n (raw++[c]) r
def ztD(c:UInt8):Bool:=!(decide (c=10)||decide (c=13))
def zlE:List UInt8->Nat
 | []=>0
 | c::r=>if c=9∨c=10∨c=13∨c=32∨c=44 then 1 else if zra.isPrefixOf (c::r)then 3 else if c=35 then 1+(r.takeWhile ztD).length else 0
def ZU(s:List UInt8):Nat:=(s.takeWhile λc=>isL c||isD c).length
def zjz:List UInt8->Option (Tok×List UInt8)
 | []=>none
 | c::r=>if YY.isPrefixOf (c::r)then (zvP (r.length+1) [] (r.drop 2)).map λx=>(⟨5,zua x.1⟩,x.2)
  else if c=34 then (zht Z2 r).map λx=>(⟨5,x.1⟩,x.2)
  else if za6.isPrefixOf (c::r)then some (⟨1,za6⟩,r.drop 2)
  else if 0<=Lib.indexByte zf1 c then some (⟨1,[c]⟩,r)
  else if isL c then some (⟨2,(c::r).take (ZU (c::r))⟩,(c::r).drop (ZU (c::r)))
  else if (ZJ (c::r)).1=0 then none
  else if ((c::r).drop (ZJ (c::r)).1).head?.any λd=>isL d||isD d||decide (d=46)then none
  else some (⟨(ZJ (c::r)).2,(c::r).take (ZJ (c::r)).1⟩,(c::r).drop (ZJ (c::r)).1)
def zb6(c:Nat):Bool:=decide (c=9)||(decide (c=10)||(decide (c=13)||(decide (32<=c)&&decide (c<=65535))))
def zm0:Nat->List UInt8->Bool
 | 0,_=>true
 | n+1,l=>if l=[]then true else decide (0<(zz l).2)&&(zb6 (zz l).1&&zm0 n (l.drop (zz l).2))
def zjy(s:List UInt8):Bool:=zm0 s.length s
def zA2(s:List UInt8):decodeGo ⟨s.toArray⟩=if s=[]then (65533,0)else decodeL s:=by
 unfold decodeGo;cases s with
 | nil=>rfl
 | cons c r=>rw[if_neg (by simp[ByteArray.size]),if_neg (by simp)];rfl
def zvY(s:List UInt8):ze Tryz.prog 178 [.str s] (.tup [.int .i32 ((if s=[]then (65533,0)else decodeL s:Nat×Nat).1),.int .i64 ((if s=[]then (65533,0)else decodeL s:Nat×Nat).2)]):=by refine ze.of_below λγ w vs J U=>?_;rw[zpj U];have h:=Tryz.utf8_DecodeRuneInString ⟨s.toArray⟩ w (zmg J);rw[zA2]at h;exact Calls.mono h λe w' ⟨I,A⟩=>⟨A,_,I,zhZ (.int _ _) (.int _ _)⟩
def zpY:Go.Proofs.Builder.Extra Tryz.prog Tryz.lays156_ren where -- 42
 sizeBuilder:=by kernel_rfl
 liesBuilder:=by kernel_rfl
 t5:=Tryz.underlying5
 a5:=Tryz.isAgg5
 z5:=Tryz.sizeOf5
 v5:=Tryz.zeroValue5
 infoByte:=by kernel_rfl
 cellsByte:=by kernel_rfl
 sizeByte:=by kernel_rfl
 neB5:=by decide
def ztV(l:List (List UInt8))(sep:List UInt8)(aj:(Lib.join l sep).length<=140737488355328)(al:l.length<=140737488355328):ze Tryz.prog 42 [.sl .no 1 (cT l),.str sep] (.str (Lib.join l sep)):=by
 refine ze.of_below λγ w vs ar an=>?_;obtain⟨ak,hr⟩:=an
 match vs,ak with
 | [v,u],_ =>
  have Z:=hr 0 _ _ rfl rfl;cases hr 1 _ _ rfl rfl;generalize X:cT l=xs at Z;cases Z with
  | slnil _ _ ho =>
   have:l=[]:=by cases l with|nil=>rfl|cons a b=>simp[cT]at X
   subst this;exact(Any.strings_Join_none Tryz.lays156 zpY none 0 ⟨sep.toArray⟩ w).mono λe w' ⟨A,I⟩=>⟨by rw[I];exact RowKit.Below.refl _ _,_,A,.str _⟩
  | sl0 _ _ a ho =>
   have:l=[]:=by cases l with|nil=>rfl|cons a b=>simp[cT]at X
   subst this;exact(Any.strings_Join_none Tryz.lays156 zpY (some a) 0 ⟨sep.toArray⟩ w).mono λe w' ⟨A,I⟩=>⟨by rw[I];exact RowKit.Below.refl _ _,_,A,.str _⟩
  | sl _ _ _ b J cap cv ap aq au ah am ho =>
   subst X;have ai:=zG l;cases W:l with
   | nil =>subst W;exact(Any.strings_Join_none Tryz.lays156 zpY (some ⟨b,J,none⟩) cap ⟨sep.toArray⟩ w).mono λe w' ⟨A,I⟩=>⟨by rw[I];exact RowKit.Below.refl _ _,_,A,.str _⟩
   | cons ao av =>
    have ab:∀(j:Nat) x,(l.map λs=>(⟨s.toArray⟩:ByteArray))[j]?=some x->w.cell? ⟨b,J+j,none⟩=some (.string x):=λj x ac=>by
     rw[Yg,zbA]at ac;obtain⟨s,ae,rfl⟩:=ac;have Y:(cT l)[j]?=some [.str s]:=by simp[cT,ae]
     have U:=ah j _ Y 0 (by decide);have aa:=am j _ Y 0 (.str s) rfl;have e:J+(j*1+0)=J+j:=by omega
     rw[e]at U;generalize cv j 0=y at U aa;cases aa;exact U.1
    have ag:b<w.heap.size:=by have:=ab 0 ⟨ao.toArray⟩ (by rw[W];rfl);exact World.block_lt_of_cell? w _ this
    have ad:(l.map λs=>(⟨s.toArray⟩:ByteArray)).map (·.data.toList)=l:=by rw[List.map_map];exact(List.map_congr_left (g:=id) λs _=>by simp).trans (List.map_id l)
    have h:=Any.strings_Join Tryz.lays156 zpY b J cap (l.map λs=>(⟨s.toArray⟩:ByteArray)) ⟨sep.toArray⟩ w ab ag (by simpa using al) (by rw[List.length_map];omega) (by rw[ad];exact aj);rw[List.length_map,ad]at h;rw[<-W,ai];exact h.mono λe w' ⟨A,af⟩=>⟨af,_,A,.str _⟩
def zt2(s:List UInt8)(i:Nat)(hi:i<s.length)(ab:s.length<=Lim):ze Tryz.prog 94 [.str s,.int .i64 i] (.tup [.int .i64 (zz (s.drop i)).1,.int .i64 (zz (s.drop i)).2]):=by
 refine ze.go ir94.1 ir94.2 (Al4 _) λKP Q A=>?_;simp only[Lim]at ab;have aa:s.drop i≠[]:=λe=>by have:=congrArg List.length e;simp at this;omega
 have W:¬ ((i:Int)<0):=by omega
 have X:¬ ((s.length:Int)<=i):=by omega
 have Y:((i:Int)<=s.length)=True:=eq_true (by omega);simp(disch:=omega) only[ir94,W,X,Y,go_sem];refine za (zvY (s.drop i)) ?_;have ac:=decodeL_width (s.drop i);have hr:=decodeL_rune (s.drop i);unfold zz at A;simp only[aa,if_false]at A ⊢;generalize decodeL (s.drop i)=x at *
 obtain⟨c,k⟩:=x;simp only at ac hr A;have e:IntKind.wrap .i64 (c:Int)=c:=wrap64 (by omega) (by omega);by_cases Z:c=65533
 ·have J:((c:Int)=65533)=True:=eq_true (by omega);by_cases ad:k<2
  ·have U:((k:Int)<2)=True:=eq_true (by omega);have I:(c,k)=(65533,1):=by rw[Z];congr 1;omega
   rw[if_pos I]at A;simp(disch:=omega) only[J,U,go_sem];exact A _ _ _ _ nofun rfl (by simp )
  ·have U:¬ ((k:Int)<2):=by omega
   have I:¬ ((c,k)=(65533,1)):=λh=>by cases h;omega
   rw[if_neg I]at A;simp(disch:=omega) only[J,U,e,go_sem];exact A _ _ _ _ nofun rfl (by simp )
 ·have J:¬ ((c:Int)=65533):=by omega
  have I:¬ ((c,k)=(65533,1)):=λh=>by cases h;omega
  rw[if_neg I]at A;simp(disch:=omega) only[J,e,go_sem];exact A _ _ _ _ nofun rfl (by simp )
def zzZ(c:Nat)(h:c<=1114111):ze Tryz.prog 181 [.int .i64 c] (.bool (zb6 c)):=by
 refine ze.go ir181.1 ir181.2 (Al4 _) λKP Q A=>?_;by_cases Y:c=9
 ·have g:((c:Int)=9)=True:=eq_true (by omega);simp(disch:=omega) only[ir181,g,go_sem];exact A _ _ _ _ nofun rfl (by simp[zb6,Y])
 have I:¬ ((c:Int)=9):=by omega
 by_cases Z:c=10
 ·have g:((c:Int)=10)=True:=eq_true (by omega);simp(disch:=omega) only[ir181,I,g,go_sem];exact A _ _ _ _ nofun rfl (by simp[zb6,Z])
 have J:¬ ((c:Int)=10):=by omega
 by_cases aa:c=13
 ·have g:((c:Int)=13)=True:=eq_true (by omega);simp(disch:=omega) only[ir181,I,J,g,go_sem];exact A _ _ _ _ nofun rfl (by simp[zb6,aa])
 have W:¬ ((c:Int)=13):=by omega
 by_cases ab:32<=c
 ·have U:((32:Int)<=c)=True:=eq_true (by omega);by_cases ac:c<=65535
  ·have X:((c:Int)<=65535)=True:=eq_true (by omega);simp(disch:=omega) only[ir181,I,J,W,U,X,go_sem];exact A _ _ _ _ nofun rfl (by simp[zb6,ab,ac])
  ·have X:¬ ((c:Int)<=65535):=by omega
   simp(disch:=omega) only[ir181,I,J,W,U,X,go_sem];exact A _ _ _ _ nofun rfl (by simp[zb6,Y,Z,aa,ac])
 ·have U:¬ ((32:Int)<=c):=by omega
  simp(disch:=omega) only[ir181,I,J,W,U,go_sem];exact A _ _ _ _ nofun rfl (by simp[zb6,Y,Z,aa,ab])
def Yt:Nat->List UInt8->List Nat
 | 0,_=>[]
 | n+1,l=>if l=[]then []else (if 65536<=(zz l).1 then [55296+((zz l).1-65536) / 1024,56320+((zz l).1-65536) % 1024]else [(zz l).1])++Yt n (l.drop (zz l).2)
def Ye(n:Nat):Yt n []=[]:=by cases n<;>simp[Yt]
def zhH:∀(n m:Nat) (l:List UInt8),l.length<=n->l.length<=m->validD l=true->Yt n l=Yt m l
 | 0,m,l,h,_,_=>by rw[zcN.1 (by omega:l.length=0),Ye,Ye]
 | n,0,l,_,h,_=>by rw[zcN.1 (by omega:l.length=0),Ye,Ye]
 | n+1,m+1,l,h1,h2,hv=>by
  by_cases A:l=[]
  ·subst A;rw[Ye,Ye]
  ·obtain⟨I,J⟩:=zaH A hv;have:=I.pos;have:=I.len;simp only[Yt,A,if_false];rw[zhH n m _ (by simp;omega) (by simp;omega) J]
def zsZ(n:Nat):((n:Int)).tdiv 1024=((n / 1024:Nat):Int):=by rw[Int.tdiv_eq_ediv_of_nonneg (by omega)];omega
def zur(n:Nat):((n:Int)).tmod 1024=((n % 1024:Nat):Int):=by rw[Int.tmod_eq_emod_of_nonneg (by omega)];omega
def zyX(s:List UInt8)(U:validD s=true)(af:s.length<=Lim):ze Tryz.prog 95 [.str s] (.tup [.sl .no 1 (cU (Yt s.length s)),.bool true]):=by
 refine ze.go ir95.1 ir95.2 (Al4 _) λKP Q ag=>?_;have ak:=af;simp only[Lim]at af;simp(disch:=omega) only[ir95,go_sem];refine Ze (λx:Own×List Nat×Nat=>[(4,.sl x.1 1 (cU x.2.1)),(5,.int .i64 x.2.2)]) (λx H=>x.2.2<=s.length/\x.2.1.length<=2*x.2.2/\Yt s.length s=x.2.1++Yt (s.drop x.2.2).length (s.drop x.2.2)/\validD (s.drop x.2.2)=true/\OwnS zb.emp .nil H x.1 x.2.1.length 1) (λx=>s.length-x.2.2) (.nil,[],0) (by simp(disch:=omega) only[cU,go_sem]) ⟨by simp,by simp,by simp,by simpa using U,OwnS.refl rfl⟩ ?_;rintro⟨o,acc,i⟩ H aq ⟨hi,ah,A,U,J⟩ ab;simp only at hi ah A U J;by_cases aj:i<s.length
 case neg =>
  have Y:¬ (i:Int)<s.length:=by omega
  rw[List.drop_of_length_le (by omega)]at A;rw[Ye,List.append_nil]at A;simp(disch:=omega) only[Y,go_sem];exact ag _ _ _ _ nofun rfl (by simp[A])
 have Y:(i:Int)<s.length:=by omega
 have ae:s.drop i≠[]:=λe=>by have:=congrArg List.length e;simp at this;omega
 have I:=zlW acc;obtain⟨X,W⟩:=zaH ae U;have au:=X.pos;have ai:=X.len;have ar:=X.le;have al:Yt (s.drop i).length (s.drop i)=(if 65536<=(zz (s.drop i)).1 then [55296+((zz (s.drop i)).1-65536) / 1024,56320+((zz (s.drop i)).1-65536) % 1024]else [(zz (s.drop i)).1])++Yt ((s.drop i).drop (zz (s.drop i)).2).length ((s.drop i).drop (zz (s.drop i)).2):=by obtain⟨n,ad⟩:∃n,(s.drop i).length=n+1:=⟨(s.drop i).length-1,by omega⟩;rw[ad,Yt,if_neg ae,zhH n _ _ (by simp at ad ⊢;omega) (Al4 _) W]
 simp(disch:=omega) only[Y,go_sem];refine za (zt2 s i aj ak) ?_;rw[al]at A;rw[List.drop_drop]at A W;rw[zbc]at ai;generalize (zz (s.drop i)).1=c at *
 generalize (zz (s.drop i)).2=k at *
 have aa:¬ ((k:Int)=0):=by omega
 by_cases ac:65536<=c
 ·have g:((65536:Int)<=c)=True:=eq_true (by omega);have am:IntKind.wrap .i64 ((c:Int)-65536)=((c-65536:Nat):Int):=by rw[wrap64 (by omega) (by omega)];omega
  have an:IntKind.wrap .i64 (((c-65536) / 1024:Nat):Int)=(((c-65536) / 1024:Nat):Int):=wrap64 (by omega) (by omega);have ao:IntKind.wrap .i64 (55296+(((c-65536) / 1024:Nat):Int))=((55296+(c-65536) / 1024:Nat):Int):=by rw[wrap64 (by omega) (by omega)];omega
  have ap:IntKind.wrap .i64 (56320+(((c-65536) % 1024:Nat):Int))=((56320+(c-65536) % 1024:Nat):Int):=by rw[wrap64 (by omega) (by omega)];omega
  rw[if_pos ac]at A;simp(disch:=omega) only[aa,g,am,zsZ,zur,an,ao,ap,go_sem];refine zj (by rw[I];exact J.own) (by simp only[I,Al2,Al3];omega) (by simp only[I,Al2,Al3,maxLen];omega) λo' H' Z=>?_;simp(disch:=omega) only[wrap64,go_sem];exact goJ (ab (o',acc++[55296+(c-65536) / 1024,56320+(c-65536) % 1024],i+k) H' (by simp only;omega) ⟨by simp only;omega,by simp;omega,by rw[A];simp,W,J.trans (by simpa[I]using Z)⟩) (by simp(disch:=omega) only[cU,List.map_append,Int.natCast_add,go_sem])
 ·have g:¬ ((65536:Int)<=c):=by omega
  rw[if_neg ac]at A;simp(disch:=omega) only[aa,g,go_sem];refine zj (by rw[I];exact J.own) (by simp only[I,Al2,Al3];omega) (by simp only[I,Al2,Al3,maxLen];omega) λo' H' Z=>?_;simp(disch:=omega) only[wrap64,go_sem];exact goJ (ab (o',acc++[c],i+k) H' (by simp only;omega) ⟨by simp only;omega,by simp;omega,by rw[A];simp,W,J.trans (by simpa[I]using Z)⟩) (by simp(disch:=omega) only[cU,List.map_append,Int.natCast_add,go_sem])
def zqy{n n' b0 Y Z aa c1 c2 c3 c k:Nat}(h:decodeN n b0 Y Z aa=(c,k))(U:(c,k)≠(65533,1))(ae:k<=n')(W:1<k->c1=Y)(ab:2<k->c2=Z)(ac:3<k->c3=aa):decodeN n' b0 c1 c2 c3=(c,k):=by
 unfold decodeN at h;split at h
 ·rename_i J;unfold decodeN;rw[if_pos J,h]
 rename_i J;split at h
 ·rename_i X;split at h
  ·rename_i A;cases h;unfold decodeN;rw[if_neg J,W (by decide),if_pos ⟨X.1,by omega,X.2.2⟩,if_pos A]
  ·exact absurd h.symm U
 rename_i X;split at h
 ·rename_i A;split at h
  ·rename_i I;cases h;unfold decodeN;rw[if_neg J,W (by decide),ab (by decide),if_neg (by omega),if_pos ⟨A.1,⟨by omega,A.2.1.2⟩,by omega,A.2.2.2⟩,if_pos I]
  ·exact absurd h.symm U
 rename_i A;split at h
 ·rename_i I;split at h
  ·rename_i ad;cases h;unfold decodeN;rw[if_neg J,W (by decide),ab (by decide),ac (by decide),if_neg (by omega),if_neg (by omega),if_pos ⟨I.1,⟨by omega,I.2.1.2⟩,⟨by omega,I.2.2.1.2⟩,by omega,I.2.2.2.2⟩,if_pos ad]
  ·exact absurd h.symm U
 ·exact absurd h.symm U
def zhd{l:List UInt8}(I:l≠[])(h:(zz l).2≠0):zz l=decodeL l/\decodeL l≠(65533,1):=by
 unfold zz at h ⊢;rw[if_neg I]at h ⊢;split at h
 ·exact absurd rfl h
 ·rename_i A;rw[if_neg A];exact⟨rfl,A⟩
def zfH{l:List UInt8}(U:l≠[])(h:(zz l).2≠0)(t:List UInt8):zz (l.take (zz l).2++t)=zz l:=by
 obtain⟨e,W⟩:=zhd U h;have ab:=decodeL_le l U;rw[e];generalize I:decodeL l=x at *
 obtain⟨c,k⟩:=x;simp only at *
 have X:decodeL (l.take k++t)=(c,k):=by
  rw[decodeL_N]at I ⊢;have J:∀j,j<k->(l.take k++t).getD j 0=l.getD j 0:=λj A=>by simp only[List.getD_eq_getElem?_getD];rw[zeA (by simp;omega),List.getElem?_take_of_lt A]
  have Z:1<=k:=by rw[<-show (decodeL l).2=k by rw[decodeL_N,I]];exact decodeL_width l
  rw[J 0 (by omega)];exact zqy I W (by simp;omega) (λA=>by rw[J 1 A]) (λA=>by rw[J 2 A]) λA=>by rw[J 3 A]
 have aa:l.take k++t≠[]:=λe=>by
  have Y:=congrArg List.length e;have Z:1<=k:=by rw[<-show (decodeL l).2=k by rw[I]];exact decodeL_width l
  have ac:0<l.length:=List.length_pos_iff.2 U;simp only[Al5,List.length_take,Al3]at Y;omega
 unfold zz;rw[if_neg aa,X,if_neg W]
def zne(b:UInt8)(t:List UInt8)(h:b.toNat<128):zz (b::t)=(b.toNat,1):=by unfold zz;rw[if_neg (by simp),decodeL_ascii b t h,if_neg (by simp;omega)]
def zga(r:List UInt8):Prop:=r=[]∨∃c t,r=c::t/\(c=32∨c=10)
def zm8{r:List UInt8}(h:zga r):yA r=0:=by
 rcases h with rfl|⟨c,t,rfl,rfl|rfl⟩
 ·rfl
 all_goals simp[yA,isD]
def zd0:∀(a:List UInt8) {r:List UInt8},zga r->yA (a++r)=yA a
 | [],r,h=>zm8 h
 | c::a,r,h=>by simp only[Al6,yA];rw[zd0 a h]
def znG(a:List UInt8){r:List UInt8}(h:zga r):zaU (a++r)=zaU a:=by
 unfold zaU;rw[zd0 a h];cases a with
 | nil=>simp[yA]
 | cons c a=>simp
def znW(a:List UInt8){r:List UInt8}(h:zga r):zZ (a++r)=zZ a:=by
 cases a with
 | nil =>
  have I:=zm8 h;have J:zZ []=0:=rfl;rw[Z6,J];unfold zZ;rcases h with rfl|⟨c,t,rfl,rfl|rfl⟩
  ·rfl
  all_goals rw[if_neg (by simp)];unfold zaU;rw[if_pos I]
 | cons c a =>
  by_cases A:c=45
  ·subst A;rw[Al6,zc3,zc3,zd0 a h,znG a h]
  ·rw[zar (s:=c::a++r) (by simp[A]),zar (s:=c::a) (by simp[A]),znG (c::a) h]
def zqW(a:List UInt8){r:List UInt8}(h:zga r):Yc (a++r)=Yc a:=by
 cases a with
 | nil=>rcases h with rfl|⟨c,t,rfl,rfl|rfl⟩<;>rfl
 | cons c a=>simp[Yc,zd0 a h]
def zuc(a:List UInt8){r:List UInt8}(h:zga r):zbT (a++r)=zbT a:=by
 cases a with
 | nil =>
  rcases h with rfl|⟨c,t,rfl,rfl|rfl⟩
  ·rfl
  all_goals simp[zbT,isE]
 | cons c a =>
  have I:sgN (a++r)=sgN a:=by
   cases a with
   | nil=>rcases h with rfl|⟨c,t,rfl,rfl|rfl⟩<;>simp[sgN]
   | cons d a=>simp[sgN]
  have A:(a++r).drop (sgN a)=a.drop (sgN a)++r:=zyK (zoA a);simp only[Al6,zbT,I,A,zd0 _ h]
def zsj{a:List UInt8}{r:List UInt8}(h:zga r):ZJ (a++r)=ZJ a:=by have J:=zg1 a;have A:(a++r).drop (zZ a)=a.drop (zZ a)++r:=zyK J;have U:=zni (a.drop (zZ a));simp only[zbc]at U;have I:(a++r).drop (zZ a+Yc (a.drop (zZ a)))=a.drop (zZ a+Yc (a.drop (zZ a)))++r:=zyK (by omega);unfold ZJ;rw[znW a h,A,zqW _ h,I,zuc _ h]
def zzn:∀x:Fin 16,hexD (hexL.getD x.val 0)=some x.val:=by decide +kernel
def zxq(n:Nat):hexD (hexL.getD (n % 16) 0)=some (n % 16):=zzn ⟨n % 16,Nat.mod_lt _ (by decide)⟩
def zob{u:Nat}(h:u<65536)(t:List UInt8):zcV (hexL.getD (u / 4096 % 16) 0::hexL.getD (u / 256 % 16) 0::hexL.getD (u / 16 % 16) 0::hexL.getD (u % 16) 0::t)=some u:=by
 simp only[zcV,zeF,zxq]
 congr 1
 omega
def ze4:∀(us vs:List Nat) (J:List UInt8),yh us=some J->yh (us++vs)=(yh vs).map (J++·)
 | [],vs,J,h=>by simp only[yh,Al1]at h;subst h;rw[Z6];cases A:yh vs<;>simp
 | [u],vs,J,h=>by
  unfold yh at h;rw[List.singleton_append]
  conv=>lhs;unfold yh
  split at h
  ·cases h
  ·rename_i U;rw[if_neg U];split at h
   ·cases h
   ·rename_i I;rw[if_neg I];simp only[yh,ZS,Al1,List.append_nil]at h;subst h;rfl
 | u::v::r,vs,J,h=>by
  unfold yh at h;rw[Al6]
  conv=>lhs;unfold yh
  split at h
  ·cases h
  ·rename_i U;rw[if_neg U];split at h
   ·rename_i I;rw[if_pos I];simp only[Al6]at h ⊢;split at h
    ·cases h
    ·rename_i W;rw[if_neg W];cases A:yh r with
     | none=>rw[A]at h;cases h
     | some x =>rw[A]at h;simp only[ZS,Al1]at h;rw[ze4 r vs x A];subst h;cases yh vs<;>simp
   ·rename_i I;rw[if_neg I];cases A:yh (v::r)with
    | none=>rw[A]at h;cases h
    | some x =>rw[A]at h;simp only[ZS,Al1]at h;rw[ze4 (v::r) vs x A];subst h;cases yh vs<;>simp
def zq1{u:Nat}(A:u<=65535)(I:u<55296∨57343<u):yh [u]=some (Z7 u):=by unfold yh;rw[if_neg (by omega),if_neg (by omega)];simp[yh]
def zrs{c:Nat}(A:65536<=c)(I:c<=1114111):yh [55296+(c-65536) / 1024,56320+(c-65536) % 1024]=some (Z7 c):=by
 have e:65536+1024*(55296+(c-65536) / 1024-55296)+(56320+(c-65536) % 1024-56320)=c:=by omega
 unfold yh;rw[if_neg (by omega),if_pos (by omega)];simp only
 rw[if_neg (by omega),e];simp[yh]
def zha{u:Nat}(h:u<65536)(t out:List UInt8)(us:List Nat):zdp Z2 (ZE u++t) ⟨out,us,true⟩=zdp Z2 t ⟨out,us++[u],true⟩:=by simp only[ZE,Al6,Z6];rw[zp8];simp only[zdG,if_true,zob h,ZS,List.drop_succ_cons,List.drop_zero]
def ziK{k:UInt8}{v:UInt8}(W:k≠117)(I:¬ Lib.indexByte zij k<0)(J:zx2.getD (Lib.indexByte zij k).toNat 0=v){us:List Nat}{A:List UInt8}(U:yh us=some A)(t out:List UInt8):
  zdp Z2 (92::k::t) ⟨out,us,true⟩=zdp Z2 t ⟨out++A++[v],[],true⟩:=by
 rw[zp8];simp only[zdG,if_neg W,if_neg I,J];simp[Sd.put,ZF,U]
def zje{l:List UInt8}{c k:Nat}(h:DecOk l c k)(J:c<128):k=1/\l.take k=[UInt8.ofNat c]/\(l.getD 0 0).toNat=c:=by
 have e:=h.enc;have I:(Z7 c).length=1:=by unfold Z7;rw[if_pos (by omega)];rfl
 have A:k=1:=by rw[e]at I;have:=h.len;simp at I;omega
 refine⟨A,by rw[<-e];unfold Z7;rw[if_pos (by omega)],(h.one A).1.symm⟩
def zBV{l:List UInt8}(I:l≠[])(h:(zz l).2≠0):(zz l).1<55296∨57343<(zz l).1:=by
 obtain⟨e,A⟩:=zhd I h;rw[e];rw[decodeL_N]at A ⊢;generalize (l.getD 0 0).toNat=b0 at *
 generalize (l.getD 1 0).toNat=J at *
 generalize (l.getD 2 0).toNat=U at *
 generalize (l.getD 3 0).toNat=W at *
 unfold decodeN at A ⊢
 repeat' split
 all_goals first|(simp only;omega)|(simp_all;done)|(simp_all;omega)
def zkB:∀(n:Nat) (l out:List UInt8) (us:List Nat) (A rest:List UInt8),l.length<=n->validD l=true->yh us=some A->zdp Z2 (ZH n l++34::rest) ⟨out,us,true⟩=some (⟨out++A++l,[],true⟩,rest)
 | 0,l,out,us,A,rest,hn,_,I=>by obtain rfl:l=[]:=zcN.1 (by omega);simp only[ZH,Z6];rw[zqf];simp[ZF,I]
 | n+1,l,out,us,A,rest,hn,hv,I=>by
  rw[ZH];by_cases U:l=[]
  ·subst U;simp only[if_true,Z6];rw[zqf];simp[ZF,I]
  ·rw[if_neg U];obtain⟨J,ao⟩:=zaH U hv;have an:=J.pos;have ar:=J.len;have av:=zBV U (by omega);have am:=J.le;have ae:=J.enc;have hpre:=zfH U (by omega:(zz l).2≠0);generalize (zz l).1=c at *
   generalize (zz l).2=k at *
   have al:(l.drop k).length<=n:=by simp;omega
   have aj:l.take k++l.drop k=l:=List.take_append_drop k l;have W:∀out us A,yh us=some A->zdp Z2 (ZH n (l.drop k)++34::rest) ⟨out,us,true⟩=some (⟨out++A++l.drop k,[],true⟩,rest):=λout us A I=>zkB n (l.drop k) out us A rest al ao I;have fin:∀x:List UInt8,x=l.take k->out++A++x++l.drop k=out++A++l:=λx ap=>by rw[ap,ZP,aj]
   rw[ZP];unfold ZM;by_cases aa:c=34∨c=92
   ·rw[if_pos aa];obtain⟨rfl,Z,_⟩:=zje J (by omega);simp only[Al6,Z6];rcases aa with rfl|rfl
    ·rw[ziK (v:=34) (by decide) (by decide) (by decide) I,W _ [] [] rfl,List.append_nil];exact congrArg some (Prod.ext (by simp only[Sd.mk.injEq,and_self,and_true];exact fin [34] (by rw[Z];rfl)) rfl)
    ·rw[ziK (v:=92) (by decide) (by decide) (by decide) I,W _ [] [] rfl,List.append_nil];exact congrArg some (Prod.ext (by simp only[Sd.mk.injEq,and_self,and_true];exact fin [92] (by rw[Z];rfl)) rfl)
   rw[if_neg aa];by_cases ab:c=10
   ·rw[if_pos ab];subst ab;obtain⟨rfl,Z,_⟩:=zje J (by omega);simp only[Al6,Z6];rw[ziK (v:=10) (by decide) (by decide) (by decide) I,W _ [] [] rfl,List.append_nil];exact congrArg some (Prod.ext (by simp only[Sd.mk.injEq,and_self,and_true];exact fin [10] (by rw[Z];rfl)) rfl)
   rw[if_neg ab];by_cases af:c<32
   ·rw[if_pos af,zha (by omega),W out (us++[c]) (A++Z7 c) (by rw[ze4 us [c] A I,zq1 (by omega) (by omega)];rfl)];exact congrArg some (Prod.ext (by simp only[Sd.mk.injEq,and_self,and_true];rw[<-ZP];exact fin (Z7 c) ae) rfl)
   rw[if_neg af];by_cases ac:65536<=c
   ·rw[if_pos ac,ZP,zha (by omega),zha (by omega),W out (us++[_]++[_]) (A++Z7 c) (by rw[ZP,ze4 us _ A I,List.singleton_append,zrs ac (by omega)];rfl)];exact congrArg some (Prod.ext (by simp only[Sd.mk.injEq,and_self,and_true];rw[<-ZP];exact fin (Z7 c) ae) rfl)
   ·rw[if_neg ac];obtain⟨b,t,ad⟩:∃b t,l=b::t:=by cases l with|nil=>exact absurd rfl U|cons a b=>exact⟨a,b,rfl⟩
    have X:(l.take k++(ZH n (l.drop k)++34::rest)).getD 0 0=l.getD 0 0:=by rw[ad];obtain⟨m,rfl⟩:∃m,k=m+1:=⟨k-1,by omega⟩;simp
    have ak:DecOk (l.take k++(ZH n (l.drop k)++34::rest)) c k:=by have ah:(l.take k++(ZH n (l.drop k)++34::rest)).take k=l.take k:=List.take_left' (by simp;omega);exact⟨by rw[ah];exact ae,am,an,by simp;omega,λe=>by rw[X];exact J.one e,λe=>by rw[ah];exact J.high e⟩
    have ai:(l.getD 0 0).toNat=c∨128<=(l.getD 0 0).toNat:=by
     by_cases ag:k=1
     ·exact .inl (J.one ag).1.symm
     ·right;refine J.high ag _ ?_;rw[ad];obtain⟨m,rfl⟩:∃m,k=m+1:=⟨k-1,by omega⟩;simp
    have Y:∀m:UInt8,m.toNat<128->m.toNat≠c->l.getD 0 0≠m:=λm au aq e=>by rw[e]at ai;omega
    rw[zqS I ak (by rw[ad];obtain⟨m,rfl⟩:∃m,k=m+1:=⟨k-1,by omega⟩;simp) (by rw[X];exact Y 34 (by decide) (by simp;omega)) (by rw[X];exact Y 92 (by decide) (by simp;omega)) (by rw[X];simp only[Z2,Al0,z6];exact⟨Y 10 (by decide) (by simp;omega),Y 13 (by decide) (by simp;omega)⟩)];rw[List.take_left' (by simp;omega),List.drop_left' (by simp;omega),W _ [] [] rfl,List.append_nil];exact congrArg some (Prod.ext (by simp only[Sd.mk.injEq,and_self,and_true];exact fin _ rfl) rfl)
def zkM(s rest:List UInt8)(A:validD s=true):zht Z2 (ZH s.length s++34::rest)=some (s,rest):=by rw[zxZ,zkB s.length s [] [] [] rest (Al4 _) A rfl];simp[zzR]
def ze3(u:Nat):(ZE u).length=6:=rfl
def ziy{l:List UInt8}{c k:Nat}(h:DecOk l c k):(ZM c (l.take k)).length<=6*k:=by
 have J:=h.pos;have I:=h.len;have A:=h.enc;unfold ZM;split
 ·simp;omega
 split
 ·simp;omega
 split
 ·rw[ze3];omega
 split
 ·have:k=4:=by
   have e:=congrArg List.length A;unfold Z7 at e;rw[if_neg (by omega),if_neg (by omega),if_neg (by omega)]at e;simp at e;omega
  simp only[Al5,ze3];omega
 ·simp;omega
def zbu(n:Nat):ZH n []=[]:=by cases n<;>simp[ZH]
def zim:∀(n m:Nat) (l:List UInt8),l.length<=n->l.length<=m->validD l=true->ZH n l=ZH m l
 | 0,m,l,h,_,_=>by rw[zcN.1 (by omega:l.length=0),zbu,zbu]
 | n,0,l,_,h,_=>by rw[zcN.1 (by omega:l.length=0),zbu,zbu]
 | n+1,m+1,l,h1,h2,hv=>by
  by_cases A:l=[]
  ·subst A;rw[zbu,zbu]
  ·obtain⟨I,J⟩:=zaH A hv;have:=I.pos;have:=I.len;simp only[ZH,A,if_false];rw[zim n m _ (by simp;omega) (by simp;omega) J]
def zj6:∀(n:Nat) (l:List UInt8),validD l=true->(ZH n l).length<=6*l.length
 | 0,l,_=>by simp[ZH]
 | n+1,l,hv=>by
  by_cases A:l=[]
  ·subst A;simp[ZH]
  ·obtain⟨I,U⟩:=zaH A hv;have W:=ziy I;have J:=zj6 n _ U;have X:=I.len;simp only[ZH,A,if_false,Al5];simp only[zbc]at J;omega
def zkc(l:List UInt8):List UInt8:=ZH l.length l
def zoL{l:List UInt8}(I:l≠[])(U:validD l=true):zkc l=ZM (zz l).1 (l.take (zz l).2)++zkc (l.drop (zz l).2):=by obtain⟨A,W⟩:=zaH I U;have:=A.pos;have:=A.len;unfold zkc;obtain⟨n,J⟩:∃n,l.length=n+1:=⟨l.length-1,by omega⟩;rw[J,ZH,if_neg I,zim n _ _ (by simp;omega) (Al4 _) W]
def zsO(s:List UInt8)(A:validD s=true):(ziL s).length<=6*s.length+2:=by have:=zj6 s.length s A;simp only[ziL,Al2,Al5,Al3];omega
def zus{t:Tok}(h:yy t=true):(Yu t).length<=6*t.s.length+2:=by
 unfold Yu;split
 ·rename_i A;unfold yy at h;rw[A]at h;exact zsO _ (by simpa using h)
 ·omega
def fdN(u k:Nat)(A:k<=64):(u:Int).fdiv (2 ^ min k IntKind.i64.bits)=((u / 2 ^ k:Nat):Int):=by
 have e:min k IntKind.i64.bits=k:=by show min k 64=k;omega
 rw[e,Int.fdiv_eq_ediv_of_nonneg _ (by exact_mod_cast Nat.zero_le _)]
 norm_cast
def zyf(n:Nat):((n:Int)).tmod 16=((n % 16:Nat):Int):=by rw[Int.tmod_eq_emod_of_nonneg (by omega)];omega
def zy8(u:Nat)(aw:u<65536)(acc:List UInt8)(H:zb)(o:Own)(ho:zA H o acc.length 1)(ag:acc.length<=Lim):
  YG Tryz.prog 96 [.sl o 1 (bytesOf acc),.int .i64 u] H o 1 (bytesOf (acc++ZE u)):=by
 refine zd.goO ir96.1 ir96.2 (Al4 _) λKP Q af au=>?_;have I:=yd acc;simp only[Lim]at ag;simp(disch:=omega) only[ir96,steps,st2,pev,rev,oev,zdI,zfD,zuD,ztu,bound,zdx,mm2,mk,ZO,AV.cells,AV.boxable,AV.one,AV.strip1,AV.strip2,zdB,zb8,go_sem_proc,AV.i,AV.e,AV.n,Opd.i,Opd.e,Opd.n,Opd.y,Opd.f,IC.op,ics,IC.m,IC.M,IC.z,IC.f,IC.F,IC.v,IC.V,IC.l,IC.L,IC.b,IC.B,IC.N,IC.G,IC.x,IC.E,IC.d,IC.D,IC.q,IC.Q,IC.S,IC.T,IC.p,IC.w,IC.i,IC.a,IC.o,IC.s,IC.c,IC.C,IC.k,IC.O,IC.j,IC.h,AC.K,AC.R,AC.r,AC.g,AC.Q,AC.u,AC.w,AC.c,AC.B,AC.L,AC.E,List.map_cons,List.map_nil,Nat.reduceSub];refine zj (by rw[I];exact ho) (by simp[I];omega) (by simp[I,maxLen];omega) λaa H1 ak=>?_;have al:OwnS H o H1 aa (acc++[92,117]).length 1:=by simpa[I]using ak
 have ad:bytesOf acc++[[AV.int .u8 92],[AV.int .u8 117]]=bytesOf (acc++[92,117]):=zen acc 92 117;simp(disch:=omega) only[ad,steps,st2,pev,rev,oev,zdI,zfD,zuD,ztu,bound,zdx,mm2,mk,ZO,AV.cells,AV.boxable,AV.one,AV.strip1,AV.strip2,zdB,zb8,go_sem_proc];refine Ze (λx:Nat×Own=>[(0,.sl x.2 1 (bytesOf (acc++(ZE u).take (6-x.1)))),(5,.int .i64 ((x.1:Int)-1))]) (λx H'=>x.1<=4/\OwnS H o H' x.2 (acc++(ZE u).take (6-x.1)).length 1) (λx=>x.1) (4,aa) (by simp(disch:=omega) only[ZE,Int.reduceSub,steps,st2,pev,rev,oev,zdI,zfD,zuD,ztu,bound,zdx,mm2,mk,ZO,AV.cells,AV.boxable,AV.one,AV.strip1,AV.strip2,zdB,zb8,go_sem_proc]) ⟨by simp,by simpa[ZE]using al⟩ ?_;rintro⟨k,ao⟩ W ar ⟨ai,A⟩ ae;simp only at ai A;cases k with
 | zero =>
  have U:¬ ((0:Int)<=-1):=by omega
  have e:(ZE u).take (6-0)=ZE u:=rfl;rw[e]at A;simp(disch:=omega) only[U,e,Int.reduceSub,steps,st2,pev,rev,oev,zdI,zfD,zuD,ztu,bound,zdx,mm2,mk,ZO,AV.cells,AV.boxable,AV.one,AV.strip1,AV.strip2,zdB,zb8,go_sem_proc];exact af _ _ W W [_] nofun rfl (Low.refl _) ⟨ao,rfl,by rw[yd];exact A⟩
 | succ j =>
  have ac:((j+1:Nat):Int)-1=(j:Int):=by omega
  have U:((0:Int)<=j)=True:=eq_true (by omega);have ap:IntKind.wrap .i64 (4*(j:Int))=((4*j:Nat):Int):=by rw[wrap64 (by omega) (by omega)];omega
  have aq:=fdN u (4*j) (by omega);have aj:(((u / 2 ^ (4*j) % 16:Nat):Int)<16)=True:=eq_true (by omega);have w0:(((4*j:Nat):Int)<0)=False:=eq_false (by omega);have Z:((ZE u).take (6-(j+1)))++[hexL.getD (u / 2 ^ (4*j) % 16) 0]=(ZE u).take (6-j):=by
   have:j=0∨j=1∨j=2∨j=3:=by omega
   rcases this with rfl|rfl|rfl|rfl<;>simp[ZE]
  have J:=yd (acc++(ZE u).take (6-(j+1)));have av:(acc++(ZE u).take (6-(j+1))).length<=acc.length+6:=by simp[ze3];omega
  have Y:=zd1 (acc++(ZE u).take (6-(j+1))) (hexL.getD (u / 2 ^ (4*j) % 16) 0);rw[ZP,Z]at Y;have ah:([48,49,50,51,52,53,54,55,56,57,97,98,99,100,101,102]:List UInt8).getD (u / 2 ^ (4*j) % 16) 0=hexL.getD (u / 2 ^ (4*j) % 16) 0:=rfl;simp(disch:=omega) only[ac,U,ap,aq,w0,zyf,aj,ah,steps,st2,pev,rev,oev,zdI,zfD,zuD,ztu,bound,zdx,mm2,mk,ZO,AV.cells,AV.boxable,AV.one,AV.strip1,AV.strip2,zdB,zb8,go_sem_proc];refine zj (by rw[J];exact A.own) (by simp only[J,Al2,Al3];omega) (by simp only[J,Al2,Al3,maxLen];omega) λab X am=>?_;have an:OwnS H o X ab (acc++(ZE u).take (6-j)).length 1:=by
   have e:(acc++(ZE u).take (6-j)).length=(bytesOf (acc++(ZE u).take (6-(j+1)))).length+1:=by rw[J,<-Z,<-ZP];simp only[Al5,Al2,Al3]
   rw[e];exact A.trans am
  simp(disch:=omega) only[Y,wrap64,steps,st2,pev,rev,oev,zdI,zfD,zuD,ztu,bound,zdx,mm2,mk,ZO,AV.cells,AV.boxable,AV.one,AV.strip1,AV.strip2,zdB,zb8,go_sem_proc];exact goJ (ae (j,ab) X (Nat.lt_succ_self j) ⟨by simp only;omega,an⟩) (by simp(disch:=omega) only[steps,st2,pev,rev,oev,zdI,zfD,zuD,ztu,bound,zdx,mm2,mk,ZO,AV.cells,AV.boxable,AV.one,AV.strip1,AV.strip2,zdB,zb8,go_sem_proc])
def zpc{l:List UInt8}{c k:Nat}(U:l≠[])(aa:validD l=true)(X:(zz l).1=c)(Y:(zz l).2=k):
  validD (l.take k)=true/\(l.take k).length=k/\Yt (l.take k).length (l.take k)=if 65536<=c then [55296+(c-65536) / 1024,56320+(c-65536) % 1024]else [c]:=by
 obtain⟨I,ad⟩:=zaH U aa;subst X;subst Y;have ac:=I.pos;have ab:=I.len;have hlen:(l.take (zz l).2).length=(zz l).2:=by simp;omega
 have W:l.take (zz l).2≠[]:=λe=>by rw[e]at hlen;simp at hlen;omega
 have A:=zfH U (by omega:(zz l).2≠0) [];rw[List.append_nil]at A;have J:(l.take (zz l).2).drop (zz l).2=[]:=by apply List.drop_eq_nil_of_le;omega
 refine⟨?_,hlen,?_⟩
 ·have:=(zoI W (by rw[A];omega)).1;rw[this,A,J];rfl
 ·rw[hlen];obtain⟨n,Z⟩:∃n,(zz l).2=n+1:=⟨(zz l).2-1,by omega⟩
  conv=>lhs;rw[show Yt (zz l).2=Yt (n+1) by rw[Z]]
  rw[Yt,if_neg W,A,J,Ye,List.append_nil]
def zBn{n:Nat}(h:n<256):IntKind.wrap .u8 (n:Int)=((UInt8.ofNat n).toNat:Int):=by rw[wr8];simp
set_option maxHeartbeats 1000000 in
def zvF(s:List UInt8)(Z:validD s=true)(a7:6*s.length+2<=Lim):ze Tryz.prog 41 [.str s] (.str (ziL s)):=by
 refine ze.go ir41.1 ir41.2 (Al4 _) λKP Q bj=>?_;have bp:s.length<=Lim:=by simp only[Lim]at a7 ⊢;omega
 simp only[Lim]at a7;simp(disch:=omega) only[ir41,go_sem];have be:([[AV.int .u8 34]]:List (List AV))=bytesOf [34]:=rfl;simp(disch:=omega) only[be,go_sem];refine Ze (λx:Own×List UInt8×Nat=>[(3,.sl x.1 1 (bytesOf x.2.1)),(4,.int .i64 x.2.2)]) (λx H=>x.2.2<=s.length/\x.2.1.length<=6*x.2.2+1/\34::zkc s=x.2.1++zkc (s.drop x.2.2)/\validD (s.drop x.2.2)=true/\zA H x.1 x.2.1.length 1) (λx=>s.length-x.2.2) (.full,[34],0) (by simp(disch:=omega) only[go_sem]) ⟨by simp,by simp,by simp,by simpa using Z,zA.full _ _ _⟩ ?_;rintro⟨o,acc,i⟩ H ba ⟨hi,bk,X,Z,Y⟩ bg;simp only at hi bk X Z Y;have A:=yd acc;by_cases af:i<s.length
 case neg =>
  have ay:¬ (i:Int)<s.length:=by omega
  rw[List.drop_of_length_le (by omega)]at X;have bd:zkc []=[]:=rfl;rw[bd,List.append_nil]at X;have aa:bytesOf acc++[[AV.int .u8 34]]=bytesOf (acc++[34]):=zd1 acc 34;simp(disch:=omega) only[ay,go_sem];refine zj (by rw[A];exact Y) (by simp only[A,Al2,Al3];omega) (by simp only[A,Al2,Al3,maxLen];omega) λJ I W=>?_;simp(disch:=omega) only[aa,zl0,go_sem];have bf:ziL s=acc++[34]:=by rw[<-X];rfl
  exact bj _ _ _ _ nofun rfl (by simp[bf])
 have ay:(i:Int)<s.length:=by omega
 have az:s.drop i≠[]:=λe=>by have:=congrArg List.length e;simp at this;omega
 obtain⟨ad,a9⟩:=zaH az Z;have bq:=zoL az Z;have al:=zpc az Z rfl rfl;have b4:=ziy ad;have b3:=ad.pos;have ae:=ad.len;have b2:=ad.le;have bz:=@zje _ _ _ ad;rw[zbc]at ae;simp(disch:=omega) only[ay,go_sem];refine za (zt2 s i af bp) ?_;rw[bq]at X;rw[List.drop_drop]at X a9;generalize (zz (s.drop i)).1=c at *
 generalize (zz (s.drop i)).2=k at *
 have ak:((1:Int) > (k:Int))=False:=eq_false (by omega);have wk:IntKind.wrap .i64 ((i:Int)+(k:Int))=((i+k:Nat):Int):=by rw[wrap64 (by omega) (by omega)];omega
 have a0:(s.take (i+k)).drop i=(s.drop i).take k:=by rw[List.drop_take];congr 1;omega
 have aw:(((i+k:Nat):Int)<=s.length)=True:=eq_true (by omega);have ax:((i:Int)<=((i+k:Nat):Int))=True:=eq_true (by omega);have step:∀J I (bs:List UInt8),bs=ZM c ((s.drop i).take k)->zA I J (acc++bs).length 1->ba ((zah _ [(3,.sl J 1 (bytesOf (acc++bs))),(4,.int .i64 ((i+k:Nat):Int))]).keep [0,3,4]) I:=λJ I bs a5 bo =>bg (J,acc++bs,i+k) I (by simp only;omega) ⟨by simp only;omega,by simp only[Al5,a5];omega,by rw[X,a5];simp,a9,bo⟩;by_cases c1:c=34∨c=92
 ·have g:((c:Int)=34∨(c:Int)=92):=by omega
  have aa:bytesOf acc++[[AV.int .u8 92],[AV.int .u8 (UInt8.ofNat c).toNat]]=bytesOf (acc++[92,UInt8.ofNat c]):=zen acc 92 _;have ab:[92,UInt8.ofNat c]=ZM c ((s.drop i).take k):=by unfold ZM;rw[if_pos c1]
  rcases c1 with c1|c1
  all_goals have a3:IntKind.wrap .u8 (c:Int)=((UInt8.ofNat c).toNat:Int):=zBn (by omega);subst c1;have bx:=a3;simp only[Int.cast_ofNat_Int]at a3;simp(disch:=omega) only[a3,go_sem];refine zj (by rw[A];exact Y) (by simp only[A,Al2,Al3];omega) (by simp only[A,Al2,Al3,maxLen];omega) λJ I W=>?_;simp(disch:=omega) only[aa,ak,wk,go_sem];exact goJ (step J I _ ab (by simpa[A]using W.own)) (by simp(disch:=omega) only[go_sem])
 have ao:¬ ((c:Int)=34):=by omega
 have aq:¬ ((c:Int)=92):=by omega
 by_cases aj:c=10
 ·subst aj;have aa:bytesOf acc++[[AV.int .u8 92],[AV.int .u8 110]]=bytesOf (acc++[92,110]):=zen acc 92 110;have ab:[92,110]=ZM 10 ((s.drop i).take k):=by unfold ZM;rw[if_neg (by decide),if_pos rfl]
  simp(disch:=omega) only[go_sem];refine zj (by rw[A];exact Y) (by simp only[A,Al2,Al3];omega) (by simp only[A,Al2,Al3,maxLen];omega) λJ I W=>?_;simp(disch:=omega) only[aa,ak,wk,go_sem];exact goJ (step J I _ ab (by simpa[A]using W.own)) (by simp(disch:=omega) only[go_sem])
 have an:¬ ((c:Int)=10):=by omega
 by_cases bv:c<32∨65536<=c
 ·have a8:=al.2.2;have bu:=al.1;have am:=al.2.1;have bn:((s.drop i).take k).length<=Lim:=by rw[am];simp only[Lim];omega
  have loop:∀(ρ:Env) (U:List Nat),U=(if 65536<=c then [55296+(c-65536) / 1024,56320+(c-65536) % 1024]else [c])->(∀u∈U,u<65536)/\U.flatMap ZE=ZM c ((s.drop i).take k):=λρ U ai=>by
   subst ai;by_cases ar:65536<=c
   ·rw[if_pos ar];refine⟨λu ai=>by simp at ai;omega,?_⟩;unfold ZM;rw[if_neg c1,if_neg aj,if_neg (by omega),if_pos ar];simp
   ·rw[if_neg ar];refine⟨λu ai=>by simp at ai;omega,?_⟩;unfold ZM;rw[if_neg c1,if_neg aj,if_pos (by omega)];simp
  obtain⟨U,a1⟩:∃U,U=(if 65536<=c then [55296+(c-65536) / 1024,56320+(c-65536) % 1024]else [c]):=⟨_,rfl⟩;rw[<-a1]at a8;obtain⟨br,bt⟩:=loop (λ_=>.any) U a1;have b5:U.length<=2:=by rw[a1];split<;>simp
  have av:=zlW U;by_cases bw:c<32
  case' pos =>have ac:((c:Int)<32)=True:=eq_true (by omega);simp(disch:=omega) only[ao,aq,an,ac,wk,aw,ax,a0,go_sem]
  case' neg =>
   have ac:¬ ((c:Int)<32):=by omega
   have ap:((65536:Int)<=c)=True:=eq_true (by omega);simp(disch:=omega) only[ao,aq,an,ac,ap,wk,aw,ax,a0,go_sem]
  all_goals
   refine za (zyX _ bu bn) ?_;rw[a8];simp(disch:=omega) only[av,go_sem];refine zf U 67 (λx:Own×List UInt8=>[(3,.sl x.1 1 (bytesOf x.2))]) (λdone rest x H'=>x.2++rest.flatMap ZE=acc++ZM c ((s.drop i).take k)/\x.2.length<=acc.length+6*done.length/\zA H' x.1 x.2.length 1) (o,acc) (by simp(disch:=omega) only[go_sem]) ⟨by simp only;rw[bt],by simp,Y⟩ ?_ ?_
   ·rintro⟨a2,a⟩ a4 bc ⟨ag,ae,ah⟩ af;simp only[List.flatMap_nil,List.append_nil]at ag ae ah;simp(disch:=omega) only[av,af,ak,wk,go_sem];subst ag;exact goJ (step a2 a4 _ rfl ah) (by simp(disch:=omega) only[go_sem])
   ·rintro done x rest ⟨a2,a⟩ a4 bc a6 af b1 ⟨ag,ae,ah⟩ bh;simp only[List.flatMap_cons]at ag ae ah;have bl:(cU U).getD done.length []=[AV.int .i64 (x:Int)]:=yz a6;simp(disch:=omega) only[av,af,bl,go_sem];refine zx (zy8 x (br x (by rw[a6];simp)) a _ a2 ah (by simp only[Lim];omega)) λJ I W=>?_;rw[yd]at W;simp(disch:=omega) only[wrap64,go_sem];exact goJ (bh (J,a++ZE x) I ⟨by rw[<-ag];simp,by simp only[Al5,ze3,Al2,Al3];omega,W.own⟩) (by simp(disch:=omega) only[go_sem])
 ·have ac:¬ ((c:Int)<32):=by omega
  have ap:¬ ((65536:Int)<=c):=by omega
  have ab:(s.drop i).take k=ZM c ((s.drop i).take k):=by unfold ZM;rw[if_neg c1,if_neg aj,if_neg (by omega),if_neg (by omega)]
  have am:=al.2.1;have au:=yd ((s.drop i).take k);simp(disch:=omega) only[ao,aq,an,ac,ap,wk,aw,ax,a0,go_sem];refine zj (by rw[A];exact Y) (by rw[A,au,am];omega) (by rw[A,au,am];simp only[maxLen];omega) λJ I W=>?_;simp(disch:=omega) only[YE,Zo,ak,wk,go_sem];exact goJ (step J I _ ab (by have:=W.own;rw[A,au]at this;simpa using this)) (by simp(disch:=omega) only[go_sem])
def zl4{P:UInt8->Bool}(h:(List.range 256).all (λn=>P (UInt8.ofNat n))=true)(c:UInt8):P c=true:=by have A:=zdi.1 h c.toNat (List.mem_range.2 (UInt8.toNat_lt c));simpa using A
def zdC(c:UInt8):Bool:=decide (0<=Lib.indexByte zf1 c)
def spB(c:UInt8):Bool:=decide (c=9∨c=10∨c=13∨c=32∨c=44)||decide (c=239)||decide (c=35)
def zil(c:UInt8):(!zdC c||(!(decide (c=34))&&(!(decide (c=46))&&(!(isL c)&&(!(isD c)&&(!(decide (c=45))&&(!(spB c)&&decide (32<=c.toNat/\c.toNat<128))))))))=true:=zl4 (P:=λc=>(!zdC c||(!(decide (c=34))&&(!(decide (c=46))&&(!(isL c)&&(!(isD c)&&(!(decide (c=45))&&(!(spB c)&&decide (32<=c.toNat/\c.toNat<128))))))))) (by decide +kernel) c
def zig(c:UInt8):(!isL c||(!(decide (c=34))&&(!(decide (c=46))&&(!(zdC c)&&(!(isD c)&&(!(decide (c=45))&&(!(spB c)&&decide (32<=c.toNat/\c.toNat<128))))))))=true:=zl4 (P:=λc=>(!isL c||(!(decide (c=34))&&(!(decide (c=46))&&(!(zdC c)&&(!(isD c)&&(!(decide (c=45))&&(!(spB c)&&decide (32<=c.toNat/\c.toNat<128))))))))) (by decide +kernel) c
def zhu(c:UInt8):(!(isD c||decide (c=45))||(!(decide (c=34))&&(!(decide (c=46))&&(!(zdC c)&&(!(isL c)&&(!(spB c)&&decide (32<=c.toNat/\c.toNat<128)))))))=true:=zl4 (P:=λc=>(!(isD c||decide (c=45))||(!(decide (c=34))&&(!(decide (c=46))&&(!(zdC c)&&(!(isL c)&&(!(spB c)&&decide (32<=c.toNat/\c.toNat<128)))))))) (by decide +kernel) c
def ze2{c:UInt8}(h:c≠34)(r:List UInt8):YY.isPrefixOf (c::r)=false:=by simp[YY,List.isPrefixOf];intro A;exact absurd A.symm h
def ziW{c:UInt8}(h:c≠46)(r:List UInt8):za6.isPrefixOf (c::r)=false:=by simp[za6,List.isPrefixOf];intro A;exact absurd A.symm h
def zvC{c:UInt8}(h:c≠239)(r:List UInt8):zra.isPrefixOf (c::r)=false:=by simp[zra,List.isPrefixOf];intro A;exact absurd A.symm h
def zlA{c:UInt8}(h:spB c=false)(r:List UInt8):zlE (c::r)=0:=by simp only[spB,Bool.or_eq_false_iff,decide_eq_false_iff_not]at h;simp only[zlE];rw[if_neg h.1.1,zvC h.1.2,if_neg h.2];simp
def zr1{r:List UInt8}(h:zga r):(r.head?.any λd=>isL d||isD d||decide (d=46))=false:=by
 rcases h with rfl|⟨c,t,rfl,rfl|rfl⟩
 ·rfl
 all_goals simp[isL,isD]
def zkW{p:UInt8->Bool}{r:List UInt8}(A:p 10=false)(I:p 32=false)(h:zga r):∀s:List UInt8,(s++r).takeWhile p=s.takeWhile p
 | []=>by
  rcases h with rfl|⟨c,t,rfl,rfl|rfl⟩
  ·rfl
  ·simp[I]
  ·simp[A]
 | c::s=>by
  simp only[Al6,List.takeWhile_cons];split
  ·rw[zkW A I h s]
  ·rfl
def zkT{p:UInt8->Bool}:∀s:List UInt8,(∀c∈s,p c=true)->s.takeWhile p=s
 | [],_=>rfl
 | c::s,h=>by simp only[List.takeWhile_cons,h c (.head _),if_true];rw[zkT s λd A=>h d (.tail _ A)]
def zq3(s:List UInt8){r:List UInt8}(h:zga r):ZU (s++r)=ZU s:=by unfold ZU;rw[zkW (by decide) (by decide) h s]
def zg9:∀(s:List UInt8) (i:Nat),zdX s i=true->∀c∈s,(isL c||isD c)=true
 | [],_,_=>λc U=>nomatch U
 | c::r,i,h=>by
  simp only[zdX]at h;split at h
  ·rename_i I;have J:=zg9 r (i+1) h;intro d A;rcases List.mem_cons.1 A with rfl|A
   ·simp only[zcp,Al0]at I ⊢;exact I.imp id λx=>x.2
   ·exact J d A
  ·cases h
def zkD{c:UInt8}{r:List UInt8}(h:zL (c::r)=true):isL c=true/\∀d∈c::r,(isL d||isD d)=true:=by
 simp only[zL,Al0]at h;refine⟨?_,zg9 _ _ h.1⟩;have:=h.1;simp only[zdX]at this;split at this
 ·rename_i A;simpa using A
 ·cases this
def zmE{c:UInt8}(h:isL c=true)(r:List UInt8):zjz (c::r)=some (⟨2,(c::r).take (ZU (c::r))⟩,(c::r).drop (ZU (c::r))):=by have J:=zig c;simp only[h,Bool.not_true,Bool.false_or,Al0,Bool.not_eq_true',decide_eq_false_iff_not,z6]at J;obtain⟨A,U,I,_⟩:=J;simp only[zdC,decide_eq_false_iff_not]at I;simp only[zjz];rw[ze2 A,ziW U,if_neg A,if_neg I,if_pos h];simp
def zn1{c:UInt8}(h:isL c=true)(r:List UInt8):zlE (c::r)=0:=by have A:=zig c;simp only[h,Bool.not_true,Bool.false_or,Al0,Bool.not_eq_true']at A;exact zlA A.2.2.2.2.2.1 r
def zmJ{c:UInt8}(h:(isD c||decide (c=45))=true)(r:List UInt8):zjz (c::r)=(if (ZJ (c::r)).1=0 then none
  else if ((c::r).drop (ZJ (c::r)).1).head?.any λd=>isL d||isD d||decide (d=46)then none
  else some (⟨(ZJ (c::r)).2,(c::r).take (ZJ (c::r)).1⟩,(c::r).drop (ZJ (c::r)).1)):=by
 have J:=zhu c;simp only[h,Bool.not_true,Bool.false_or,Al0,Bool.not_eq_true',decide_eq_false_iff_not,z6]at J;obtain⟨A,U,I,W,_⟩:=J;simp only[zdC,decide_eq_false_iff_not]at I;simp only[zjz];rw[ze2 A,ziW U,if_neg A,if_neg I,W];simp
def zow{c:UInt8}(h:(isD c||decide (c=45))=true)(r:List UInt8):zlE (c::r)=0:=by have A:=zhu c;simp only[h,Bool.not_true,Bool.false_or,Al0,Bool.not_eq_true']at A;exact zlA A.2.2.2.2.1 r
def zhD{c:UInt8}{r:List UInt8}(h:zZ (c::r)≠0):(isD c||decide (c=45))=true:=by
 by_cases I:c=45
 ·simp[I]
 ·rw[zar (s:=c::r) (by simp[I])]at h;unfold zaU at h;have A:yA (c::r)≠0:=λe=>h (by rw[if_pos e]);simp only[yA]at A;split at A
  ·rename_i J;simp[J]
  ·exact absurd rfl A
def zj5{s:List UInt8}(h:(ZJ s).1≠0):zZ s≠0:=λe=>h (by unfold ZJ;rw[if_pos e])
def znU{l:List UInt8}{c k:Nat}(h:DecOk l c k)(X:c=(zz l).1):∀t,(ZM c (l.take k)++t).head?≠some 34/\ZM c (l.take k)≠[]:=by
 intro t;have Y:=h.pos;have hlen:=h.len;unfold ZM
 repeat' split
 ·simp
 ·simp
 ·simp[ZE]
 ·simp[ZE]
 ·rename_i I J U W;cases l with
  | nil=>simp at hlen;omega
  | cons b r =>
   obtain⟨m,rfl⟩:∃m,k=m+1:=⟨k-1,by omega⟩;simp only[zfF,Al6,List.head?_cons,ne_eq,Al1];refine⟨λe=>?_,by simp⟩;subst e;by_cases A:m+1=1
   ·have:=(h.one A).1;simp at this;omega
   ·have:=h.high A 34 (by simp);simp at this
def zoR{s:List UInt8}(I:validD s=true)(A:s≠[])(n:Nat)(J:s.length<=n)(t:List UInt8):(ZH n s++t).head?≠some 34:=by
 cases n with
 | zero=>exact absurd (zcN.1 (by omega)) A
 | succ n =>simp only[ZH,if_neg A,ZP];exact(znU (zaH A I).1 rfl _).1
def zjV(s r:List UInt8)(I:validD s=true)(hr:zga r):YY.isPrefixOf (34::(ZH s.length s++34::r))=false:=by
 by_cases A:s=[]
 ·subst A;simp only[ZH,Z6,Al3];rcases hr with rfl|⟨c,t,rfl,rfl|rfl⟩<;>simp[YY,List.isPrefixOf]
 ·have h:=zoR I A s.length (Al4 _) (34::r);cases J:ZH s.length s++34::r with
  | nil=>simp[YY,List.isPrefixOf]
  | cons c t =>rw[J]at h;simp only[List.head?_cons,ne_eq,Al1]at h;simp[YY,List.isPrefixOf];intro e;exact absurd e.symm h
def zgr(x:Tok)(A:yy x=true){r:List UInt8}(hr:zga r):zjz (Yu x++r)=some (x,r)/\zlE (Yu x++r)=0/\Yu x≠[]:=by
 obtain⟨k,s⟩:=x;unfold yy at A;simp only at A;by_cases I:k=1
 ·subst I;simp only[if_true,zcp,z6]at A;simp only[Yu,show ¬ ((1:Int)=5) by decide,if_false];rcases A with rfl|A
  ·refine⟨?_,?_,by simp[za6]⟩
   ·simp[za6,zjz,YY,List.isPrefixOf]
   ·simp[za6,zlE,zra,List.isPrefixOf]
  ·cases s with
   | nil=>cases A
   | cons c t =>
    cases t with
    | cons d t=>cases A
    | nil =>
     have I:=zil c;have J:zdC c=true:=A;simp only[J,Bool.not_true,Bool.false_or,Al0,Bool.not_eq_true',decide_eq_false_iff_not,z6]at I;obtain⟨W,ae,ai,aj,ak,af,_⟩:=I;simp only[zdC,z6]at J;refine⟨?_,?_,by simp⟩
     ·simp only[Al6,Z6,zjz];rw[ze2 W,ziW ae,if_neg W,if_pos J];simp
     ·exact zlA af r
 rw[if_neg I]at A;by_cases Y:k=2
 ·subst Y;simp only[if_true]at A;simp only[Yu,show ¬ ((2:Int)=5) by decide,if_false];cases s with
  | nil=>simp[zL,zdX]at A
  | cons c t =>
   obtain⟨X,ag⟩:=zkD A;have U:ZU (c::t++r)=(c::t).length:=by rw[zq3 (c::t) hr];unfold ZU;rw[zkT _ ag]
   refine⟨?_,zn1 X _,by simp⟩;rw[Al6,zmE X,<-Al6,U,List.take_left,List.drop_left]
 rw[if_neg Y]at A;by_cases Z:k=3∨k=4
 ·rw[if_pos Z]at A;simp only[z6]at A;have ah:¬ (k=5):=by omega
  simp only[Yu,ah,if_false];unfold zaO at A;split at A
  case isFalse=>omega
  rename_i ac;cases s with
  | nil =>have:ZJ []=(0,0):=rfl;rw[this]at A;simp only at A;omega
  | cons c t =>
   have ad:(ZJ (c::t)).1≠0:=by rw[ac];simp
   have U:=zj5 ad;have ab:=zhD U;refine⟨?_,zow ab _,by simp⟩;rw[Al6,zmJ ab,<-Al6,zsj hr,if_neg ad,ac,List.drop_left,zr1 hr,List.take_left,A];simp
 rw[if_neg Z]at A;by_cases aa:k=5
 ·subst aa;simp only[if_true]at A;simp only[Yu,if_true,ziL,Al6,ZP,Z6];refine⟨?_,by simp[zlE,zra,List.isPrefixOf],by simp⟩;simp only[zjz];rw[zjV s r A hr];simp only[Al7,if_false,if_true];rw[zkM s r A];rfl
 ·rw[if_neg aa]at A;cases A
def zbw(x y:Tok)(L:List Tok):Zt (x::y::L)=Yu x++32::Zt (y::L):=by simp[Zt,Lib.join]
def zcW(x:Tok):Zt [x]=Yu x:=by simp[Zt,Lib.join]
def zkt:∀(n m:Nat) (l:List UInt8),l.length<=n->l.length<=m->zm0 n l=zm0 m l
 | 0,m,l,h,_=>by obtain rfl:l=[]:=zcN.1 (by omega);cases m<;>simp[zm0]
 | n+1,0,l,_,h=>by obtain rfl:l=[]:=zcN.1 (by omega);simp[zm0]
 | n+1,m+1,l,h1,h2=>by
  simp only[zm0];split
  ·rfl
  ·by_cases A:0<(zz l).2
   ·rw[zkt n m (l.drop (zz l).2) (by simp;omega) (by simp;omega)]
   ·simp[A]
def zgX{l:List UInt8}(A:l≠[]):zjy l=(decide (0<(zz l).2)&&(zb6 (zz l).1&&zjy (l.drop (zz l).2))):=by
 unfold zjy;have U:0<l.length:=List.length_pos_iff.2 A;obtain⟨m,I⟩:∃m,l.length=m+1:=⟨l.length-1,by omega⟩;rw[I,zm0,if_neg A];by_cases J:0<(zz l).2
 ·rw[zkt m (l.drop (zz l).2).length (l.drop (zz l).2) (by simp;omega) (Al4 _)]
 ·simp[J]
def zmM:zjy []=true:=rfl
def Zw(a:List UInt8):Prop:=∀t,zjy t=true->zjy (a++t)=true
def Zw.nil:Zw []:=λt h=>h
def Zw.app{a b:List UInt8}(A:Zw a)(I:Zw b):Zw (a++b):=λt h=>by rw[ZP];exact A _ (I _ h)
def Zw.here{a:List UInt8}(A:Zw a):zjy a=true:=by have:=A [] zmM;simpa using this
def Zw.ascii{b:UInt8}(h:b.toNat<128)(A:zb6 b.toNat=true):Zw [b]:=λt I=>by rw[zgX (by simp)];simp only[List.singleton_append,zne b t h,A,List.drop_succ_cons,List.drop_zero,I];rfl
def Zw.asciis:∀s:List UInt8,(∀b∈s,32<=b.toNat/\b.toNat<128)->Zw s
 | [],_=>.nil
 | b::s,h=>by have A:=h b (.head _);exact Zw.app (a:=[b]) (.ascii A.2 (by simp[zb6];omega)) (Zw.asciis s λc I=>h c (.tail _ I))
def Zw.code{l:List UInt8}(I:l≠[])(h:(zz l).2≠0)(X:(zz l).2<=l.length)(U:zb6 (zz l).1=true):Zw (l.take (zz l).2):=λt W=>by
 have J:=zfH I h t;have A:(l.take (zz l).2).length=(zz l).2:=by simp;omega
 rw[zgX (by intro e;have:=congrArg List.length e;rw[Al5,A]at this;simp at this;omega),J,U];rw[List.drop_left' A,W];simp;omega
def zoN(n:Nat):32<=(hexL.getD (n % 16) 0).toNat/\(hexL.getD (n % 16) 0).toNat<128:=by
 have:∀x:Fin 16,32<=(hexL.getD x.val 0).toNat/\(hexL.getD x.val 0).toNat<128:=by decide +kernel
 exact this ⟨n % 16,Nat.mod_lt _ (by decide)⟩
def Zw.unit(u:Nat):Zw (ZE u):=Zw.asciis _ λb A=>by
 simp only[ZE,List.mem_cons,List.not_mem_nil,or_false]at A;rcases A with rfl|rfl|rfl|rfl|rfl|rfl
 ·decide
 ·decide
 all_goals exact zoN _
def Zw.quo:∀(n:Nat) (l:List UInt8),l.length<=n->validD l=true->Zw (ZH n l)
 | 0,l,_,_=>.nil
 | n+1,l,hn,hv=>by
  rw[ZH];by_cases J:l=[]
  ·subst J;exact .nil
  ·rw[if_neg J];obtain⟨Y,Z⟩:=zaH J hv;have aa:=Y.pos;refine Zw.app ?_ (Zw.quo n _ (by simp;omega) Z);unfold ZM;by_cases A:(zz l).1=34∨(zz l).1=92
   ·rw[if_pos A];refine Zw.asciis _ λb I=>?_;simp only[List.mem_cons,List.not_mem_nil,or_false]at I;rcases I with rfl|rfl
    ·decide
    ·rcases A with A|A<;>rw[A]<;>decide
   rw[if_neg A];by_cases U:(zz l).1=10
   ·rw[if_pos U];exact Zw.asciis _ λb I=>by simp only[List.mem_cons,List.not_mem_nil,or_false]at I;rcases I with rfl|rfl<;>decide
   rw[if_neg U];by_cases W:(zz l).1<32
   ·rw[if_pos W];exact .unit _
   rw[if_neg W];by_cases X:65536<=(zz l).1
   ·rw[if_pos X];exact Zw.app (.unit _) (.unit _)
   ·rw[if_neg X];exact Zw.code J (by omega) Y.len (by simp[zb6];omega)
def zqO(c:UInt8):nch c=true->32<=c.toNat/\c.toNat<128:=zmd (P:=λc=>nch c=true->32<=c.toNat/\c.toNat<128) (by decide +kernel) c
def zqL{s:List UInt8}(h:zaO s≠0):∀b∈s,32<=b.toNat/\b.toNat<128:=λb A=>zqO b ((zr9 h).1 b A)
def Zw.tok(x:Tok)(A:yy x=true):Zw (Yu x):=by
 obtain⟨k,s⟩:=x;unfold yy at A;simp only at A;by_cases I:k=1
 ·subst I;simp only[if_true,zcp,z6]at A;simp only[Yu,show ¬ ((1:Int)=5) by decide,if_false];rcases A with rfl|A
  ·exact Zw.asciis _ (by decide)
  ·cases s with
   | nil=>cases A
   | cons c t =>
    cases t with
    | cons d t=>cases A
    | nil =>have I:=zil c;have ab:zdC c=true:=A;simp only[ab,Bool.not_true,Bool.false_or,Al0,Bool.not_eq_true',decide_eq_false_iff_not,z6]at I;exact Zw.asciis _ λb J=>by simp only[List.mem_singleton]at J;subst J;exact I.2.2.2.2.2.2
 rw[if_neg I]at A;by_cases U:k=2
 ·subst U;simp only[if_true]at A;simp only[Yu,show ¬ ((2:Int)=5) by decide,if_false];simp only[zL,Al0]at A;have:=zg9 _ _ A.1;refine Zw.asciis _ λb J=>?_;have Z:=this b J;simp only[zcp]at Z;simp only[isL,isD,zcp,Al0,z6]at Z;omega
 rw[if_neg U]at A;by_cases W:k=3∨k=4
 ·rw[if_pos W]at A;have aa:¬ (k=5):=by omega
  simp only[Yu,aa,if_false];simp only[z6]at A;exact Zw.asciis _ (zqL (by omega))
 rw[if_neg W]at A;by_cases Y:k=5
 ·subst Y;simp only[if_true]at A;simp only[Yu,if_true,ziL];have X:Zw [34]:=Zw.asciis _ (by decide);exact Zw.app (a:=[34]) X (Zw.app (Zw.quo _ _ (Al4 _) A) X)
 ·rw[if_neg Y]at A;cases A
def Zw.join:∀L:List Tok,L.all yy=true->Zw (Zt L)
 | [],_=>.nil
 | [x],h=>by rw[zcW];exact .tok x (by simpa using h)
 | x::y::L,h=>by rw[List.all_cons,Al0]at h;rw[zbw];exact Zw.app (.tok x h.1) (Zw.app (a:=[32]) (Zw.asciis _ (by decide)) (Zw.join (y::L) h.2))
def zqo:∀(p s:List UInt8),p.isPrefixOf s=true->p.length<=s.length
 | [],s,_=>Nat.zero_le _
 | x::p,[],h=>by simp[List.isPrefixOf]at h
 | x::p,c::s,h=>by simp only[List.isPrefixOf,Al0]at h;have:=zqo p s h.2;simp only[Al2];omega
def zmF(s:List UInt8):ZU s<=s.length:=by unfold ZU;exact(List.takeWhile_sublist _).length_le
def zuF(s:List UInt8):(ZJ s).1<=s.length:=by
 unfold ZJ;split
 ·simp
 ·have J:=zg1 s;have A:=zni (s.drop (zZ s));have I:=zlq (s.drop (zZ s+Yc (s.drop (zZ s))));simp only[zbc]at A I;simp only;omega
def zrF(c:UInt8)(r:List UInt8):zlE (c::r)=if c=9∨c=10∨c=13∨c=32∨c=44 then 1 else if zra.isPrefixOf (c::r)then 3 else if c=35 then 1+(r.takeWhile ztD).length else 0:=rfl
def zAE(r:List UInt8)(U:r.length<=1000000):ze Tryz.prog 101 [.str (32::r)] (.int .i64 1):=by refine ze.go ir101.1 ir101.2 (Al4 _) λKP Q A=>?_;have J:((0:Int)<((32::r).length:Int))=True:=eq_true (by simp only[Al2];omega);have I:((32:UInt8).toNat:Int)=32:=rfl;simp(disch:=first|omega|assumption) only[ir101,J,List.getD_cons_zero,I,go_sem];exact A _ _ _ _ nofun rfl (by simp )
def zBk(c:UInt8)(r:List UInt8)(ag:(c::r).length<=1000000)(A:zlE (c::r)=0):ze Tryz.prog 101 [.str (c::r)] (.int .i64 0):=by
 refine ze.go ir101.1 ir101.2 (Al4 _) λKP Q ab=>?_;have ae:((0:Int)<((c::r).length:Int))=True:=eq_true (by simp only[Al2];omega);rw[zrF]at A;split at A
 ·cases A
 rename_i I;split at A
 ·cases A
 rename_i ac;split at A
 ·omega
 rename_i aa;have nat:∀k:Nat,(c.toNat:Int)=k->k<256->c=UInt8.ofNat k:=λk h af=>UInt8.toNat_inj.1 (by rw[UInt8.toNat_ofNat'];omega);have Z:¬ ((c.toNat:Int)=9):=λe=>I (.inl (nat 9 e (by decide)));have J:¬ ((c.toNat:Int)=10):=λe=>I (.inr (.inl (nat 10 e (by decide))));have U:¬ ((c.toNat:Int)=13):=λe=>I (.inr (.inr (.inl (nat 13 e (by decide)))));have W:¬ ((c.toNat:Int)=32):=λe=>I (.inr (.inr (.inr (.inl (nat 32 e (by decide))))));have Y:¬ ((c.toNat:Int)=44):=λe=>I (.inr (.inr (.inr (.inr (nat 44 e (by decide))))));have X:¬ ((c.toNat:Int)=35):=λe=>aa (nat 35 e (by decide));have ad:([239,187,191]:List UInt8).isPrefixOf (c::r)=false:=Bool.eq_false_iff.2 ac;simp(disch:=first|omega|assumption) only[ir101,ae,List.getD_cons_zero,Z,J,U,W,Y,go_sem];refine za (zdl (c::r) [239,187,191]) ?_;simp(disch:=first|omega|assumption) only[ad,X,go_sem];exact ab _ _ _ _ nofun rfl (by simp )
def zor(c:UInt8)(r:List UInt8):ZU (c::r)=if (isL c||isD c)=true then 1+ZU r else 0:=by
 unfold ZU;rw[List.takeWhile_cons];split
 ·simp;omega
 ·rfl
def zx8(s:List UInt8)(ac:s.length<=Lim)(aa:isL (s.getD 0 0)=true):ze Tryz.prog 188 [.str s] (.int .i64 (ZU s)):=by
 refine ze.go ir188.1 ir188.2 (Al4 _) λKP Q Z=>?_;simp only[Lim]at ac;have af:=zmF s;simp(disch:=first|omega|assumption) only[ir188,go_sem];refine Ze (λn:Nat=>[(3,.int .i64 n)]) (λn H=>ZU s=n+ZU (s.drop n)/\n<=s.length) (λn=>s.length-n) 0 (by simp(disch:=first|omega|assumption) only[go_sem]) ⟨by simp,by omega⟩ ?_;rintro n H ad ⟨A,ae⟩ Y;rcases zfN s n with ⟨W,X⟩|⟨W,X⟩
 ·have U:¬ ((n:Int)<s.length):=by omega
  rw[W]at A;simp only[ZU,List.takeWhile_nil,Al3,Nat.add_zero]at A;simp(disch:=first|omega|assumption) only[U,go_sem];exact Z _ _ _ _ nofun rfl (by simp[ZU,A])
 ·have U:((n:Int)<s.length):=by omega
  rw[X,zor]at A;simp(disch:=first|omega|assumption) only[U,go_sem];refine za (zh9 (s.getD n 0)) ?_;cases I:isL (s.getD n 0)with
  | true =>simp only[I,Bool.true_or,if_true]at A;simp(disch:=first|omega|assumption) only[I,go_sem];exact goJ (Y (n+1) _ (by omega) ⟨by omega,by omega⟩) (by simp(disch:=first|omega|assumption) only[wrap64,Int.natCast_add,Int.natCast_one,go_sem])
  | false =>
   have ab:((0:Int)<(n:Int))=True:=eq_true (by
    rcases Nat.eq_zero_or_pos n with e|e
    ·subst e;rw[aa]at I;cases I
    ·omega)
   simp(disch:=first|omega|assumption) only[I,ab,U,go_sem];refine za (zlg (s.getD n 0)) ?_;cases J:isD (s.getD n 0)with
   | true =>simp only[I,J,Bool.or_true,if_true]at A;simp(disch:=first|omega|assumption) only[J,go_sem];exact goJ (Y (n+1) _ (by omega) ⟨by omega,by omega⟩) (by simp(disch:=first|omega|assumption) only[wrap64,Int.natCast_add,Int.natCast_one,go_sem])
   | false =>simp only[I,J,Bool.or_false,Al7,if_false,Nat.add_zero]at A;simp(disch:=first|omega|assumption) only[J,go_sem];exact Z _ _ _ _ nofun rfl (by simp[A])
def zzr(c:UInt8):ze Tryz.prog 186 [.int .u8 (c.toNat:Int)] (.bool (Z2 c)):=by
 refine ze.go ir186.1 ir186.2 (Al4 _) λKP Q J=>?_;by_cases A:c=10
 ·subst A;have U:((10:UInt8).toNat:Int)=10:=rfl;simp(disch:=first|omega|assumption) only[ir186,U,go_sem];exact J _ _ _ _ nofun rfl (by simp[Z2])
 have W:¬ ((c.toNat:Int)=10):=λe=>A (UInt8.toNat_inj.1 (by show c.toNat=10;omega));by_cases I:c=13
 ·subst I;have U:((13:UInt8).toNat:Int)=13:=rfl;simp(disch:=first|omega|assumption) only[ir186,U,go_sem];exact J _ _ _ _ nofun rfl (by simp[Z2])
 have X:¬ ((c.toNat:Int)=13):=λe=>I (UInt8.toNat_inj.1 (by show c.toNat=13;omega));simp(disch:=first|omega|assumption) only[ir186,W,X,go_sem];exact J _ _ _ _ nofun rfl (by simp[Z2,A,I])
def zqV(c:UInt8)(r:List UInt8):zjz (c::r)=if YY.isPrefixOf (c::r)then (zvP (r.length+1) [] (r.drop 2)).map λx=>(⟨5,zua x.1⟩,x.2)
 else if c=34 then (zht Z2 r).map λx=>(⟨5,x.1⟩,x.2)
 else if za6.isPrefixOf (c::r)then some (⟨1,za6⟩,r.drop 2)
 else if 0<=Lib.indexByte zf1 c then some (⟨1,[c]⟩,r)
 else if isL c then some (⟨2,(c::r).take (ZU (c::r))⟩,(c::r).drop (ZU (c::r)))
 else if (ZJ (c::r)).1=0 then none
 else if ((c::r).drop (ZJ (c::r)).1).head?.any λd=>isL d||isD d||decide (d=46)then none
 else some (⟨(ZJ (c::r)).2,(c::r).take (ZJ (c::r)).1⟩,(c::r).drop (ZJ (c::r)).1):=rfl
def zBY(c:UInt8)(r:List UInt8)(ad:(c::r).length<=zir){x:Tok}{t:List UInt8}(ag:YY.isPrefixOf (c::r)=false)(ab:zjz (c::r)=some (x,t)):ze Tryz.prog 102 [.str (c::r)] (.tup [zdc x,.int .i64 (((c::r).length-t.length:Nat):Int)]):=by
 have aw:(c::r).length=r.length+1:=rfl;have al:(c::r).getD 0 0=c:=rfl;have a4:(c::r).take 1=[c]:=rfl;have a3:=λai:c=34=>(by rw[ai];exact zu2 186 (by decide +kernel) Z2 zzr 34 r (by simpa[ai]using ad):ze Tryz.prog 185 [.str (c::r),.clo 186 [] []] (zog Z2 r));have A:=zqV c r;rw[ab]at A;generalize a9:c::r=s at *
 refine ze.go ir102.1 ir102.2 (Al4 _) λKP Q I=>?_;have ba:=ad;simp only[zir]at ad;have an:s.length<=Lim:=by simp only[Lim];omega
 have az:((0:Int)<(s.length:Int))=True:=eq_true (by omega);have a0:((1:Int)<=(s.length:Int))=True:=eq_true (by omega);have ah:([34,34,34]:List UInt8).isPrefixOf s=false:=ag;rw[ag,if_neg (by simp)]at A;simp(disch:=first|omega|assumption) only[ir102,go_sem];refine zc λb0 a5=>?_;simp(disch:=first|omega|assumption) only[az,al,go_sem];refine za (zdl s [34,34,34]) ?_;by_cases U:c=34
 ·have av:(c.toNat:Int)=34:=by rw[U];rfl
  simp(disch:=first|omega|assumption) only[ah,av,go_sem];refine za (a3 U) ?_;rw[if_pos U]at A;cases ae:zht Z2 r with
  | none=>rw[ae]at A;cases A
  | some y =>obtain⟨b,u⟩:=y;rw[ae]at A;cases A;rw[aw]at I;simp(disch:=first|omega|assumption) only[zog,ae,go_sem];exact I _ _ _ [.agg [.int .i64 5,.str b],.int .i64 (((r.length+1-u.length:Nat)):Int)] nofun (by simp(disch:=first|omega|assumption) only[ir102,zo,z8,go_sem]) (by simp[zP,AV.strip,AV.strip1,zdc])
 have ap:¬ ((c.toNat:Int)=34):=λe=>U (UInt8.toNat_inj.1 (by show c.toNat=34;omega));rw[if_neg U]at A;simp(disch:=first|omega|assumption) only[ah,ap,go_sem];refine za (zdl s [46,46,46]) ?_;by_cases Y:za6.isPrefixOf s=true
 ·have af:([46,46,46]:List UInt8).isPrefixOf s=true:=Y;have a1:=zqo _ _ Y;have ax:za6.length=3:=rfl;rw[ax]at a1;rw[if_pos Y]at A;cases A;have J:s.length-(r.drop 2).length=3:=by rw[zbc];omega
  rw[J]at I;have ao:za6=[46,46,46]:=rfl;simp(disch:=first|omega|assumption) only[af,go_sem];exact I _ _ _ [.agg [.int .i64 1,.str [46,46,46]],.int .i64 3] nofun (by simp(disch:=first|omega|assumption) only[ir102,zo,z8,go_sem]) (by simp[zP,AV.strip,AV.strip1,zdc,ao])
 have af:([46,46,46]:List UInt8).isPrefixOf s=false:=Bool.eq_false_iff.2 Y;rw[if_neg Y]at A;simp(disch:=first|omega|assumption) only[af,go_sem];refine za (ziA zf1 c) ?_;by_cases aa:0<=Lib.indexByte zf1 c
 ·rw[if_pos aa]at A;cases A;have J:s.length-r.length=1:=by omega
  rw[J]at I;simp(disch:=first|omega|assumption) only[aa,a0,a4,go_sem];exact I _ _ _ [.agg [.int .i64 1,.str [c]],.int .i64 1] nofun (by simp(disch:=first|omega|assumption) only[ir102,zo,z8,go_sem]) (by simp[zP,AV.strip,AV.strip1,zdc])
 rw[if_neg aa]at A;simp(disch:=first|omega|assumption) only[aa,go_sem];refine za (zh9 c) ?_;by_cases W:isL c=true
 ·rw[if_pos W]at A;cases A;have bc:=zmF s;have J:s.length-(s.drop (ZU s)).length=ZU s:=by rw[zbc];omega
  rw[J]at I;have Z:((ZU s:Int)<=(s.length:Int))=True:=eq_true (by omega);simp(disch:=first|omega|assumption) only[W,go_sem];refine za (zx8 s an (by rw[al];exact W)) ?_;simp(disch:=first|omega|assumption) only[Z,go_sem];exact I _ _ _ [.agg [.int .i64 2,.str (s.take (ZU s))],.int .i64 (ZU s:Int)] nofun (by simp(disch:=first|omega|assumption) only[ir102,zo,z8,go_sem]) (by simp[zP,AV.strip,AV.strip1,zdc])
 have au:isL c=false:=by simpa using W
 rw[if_neg W]at A;simp(disch:=first|omega|assumption) only[au,go_sem];refine za (zpU s an) ?_;have a7:=zuF s;generalize a8:(ZJ s).1=n at *
 generalize a6:(ZJ s).2=k at *
 split at A
 ·cases A
 rename_i bd;split at A
 ·cases A
 rename_i ak;cases A;have am:((n:Int)<=(s.length:Int))=True:=eq_true (by omega);have J:s.length-(s.drop n).length=n:=by rw[zbc];omega
 rw[J]at I;rcases zfN s n with ⟨ab,Z⟩|⟨ab,Z⟩
 ·have X:¬ ((n:Int)<(s.length:Int)):=by omega
  simp(disch:=first|omega|assumption) only[X,am,go_sem];exact I _ _ _ [.agg [.int .i64 k,.str (s.take n)],.int .i64 (n:Int)] nofun (by simp(disch:=first|omega|assumption) only[ir102,zo,z8,go_sem]) (by simp[zP,AV.strip,AV.strip1,zdc])
 ·have X:((n:Int)<(s.length:Int))=True:=eq_true (by omega);generalize ac:s.getD n 0=d at *
  have aj:(isL d||isD d||decide (d=46))=false:=by rw[Z]at ak;simpa using ak
  simp only[Bool.or_eq_false_iff,decide_eq_false_iff_not]at aj;obtain⟨⟨a2,ay⟩,ar⟩:=aj;have aq:¬ ((d.toNat:Int)=46):=λe=>ar (UInt8.toNat_inj.1 (by show d.toNat=46;omega));simp(disch:=first|omega|assumption) only[X,ac,go_sem];refine za (zh9 d) ?_;simp(disch:=first|omega|assumption) only[a2,X,ac,go_sem];refine za (zlg d) ?_;simp(disch:=first|omega|assumption) only[ay,X,ac,aq,am,go_sem];exact I _ _ _ [.agg [.int .i64 k,.str (s.take n)],.int .i64 (n:Int)] nofun (by simp(disch:=first|omega|assumption) only[ir102,zo,z8,go_sem]) (by simp[zP,AV.strip,AV.strip1,zdc])
def zu4{l:List UInt8}(U:l≠[]):(zz l).2<=l.length/\(zz l).1<=1114111:=by
 by_cases h:(zz l).2=0
 ·refine⟨by omega,?_⟩;unfold zz at h ⊢;split at h
  ·rename_i A;rw[if_pos A];decide
  ·split at h
   ·rename_i A I;rw[if_neg A,if_pos I];decide
   ·rename_i A I;have:=zn5 A I;have:=this.pos;omega
 ·obtain⟨e,I⟩:=zhd U h;have J:=zn5 U I;rw[e];refine⟨?_,J.le⟩;have W:=J.len;exact W
def zvW(s:List UInt8)(Y:s.length<=Lim):ze Tryz.prog 100 [.str s] (.bool (zjy s)):=by
 refine ze.go ir100.1 ir100.2 (Al4 _) λKP Q I=>?_;have ae:=Y;simp only[Lim]at Y;simp(disch:=first|omega|assumption) only[ir100,go_sem];refine Ze (λi:Nat=>[(3,.int .i64 i)]) (λi H=>zjy s=zjy (s.drop i)/\i<=s.length) (λi=>s.length-i) 0 (by simp(disch:=first|omega|assumption) only[go_sem]) ⟨by simp,by omega⟩ ?_;rintro i H af ⟨A,ag⟩ aa;by_cases ad:i<s.length
 case neg =>
  have U:¬ ((i:Int)<s.length):=by omega
  rw[List.drop_of_length_le (by omega)]at A;simp(disch:=first|omega|assumption) only[U,go_sem];exact I _ _ _ _ nofun rfl (by simp[A,zmM])
 have U:((i:Int)<s.length)=True:=eq_true (by omega);have X:s.drop i≠[]:=λe=>by have:=congrArg List.length e;simp at this;omega
 obtain⟨ac,ab⟩:=zu4 X;rw[zbc]at ac;simp(disch:=first|omega|assumption) only[U,go_sem];refine za (zt2 s i ad ae) ?_;rw[zgX X,List.drop_drop]at A;generalize (zz (s.drop i)).1=c at *
 generalize (zz (s.drop i)).2=k at *
 by_cases W:0<k
 ·have J:((0:Int)<(k:Int))=True:=eq_true (by omega);simp(disch:=first|omega|assumption) only[J,go_sem];refine za (zzZ c ab) ?_;cases Z:zb6 c with
  | true =>rw[Z]at A;simp only[W,decide_true,Bool.true_and]at A;simp(disch:=first|omega|assumption) only[wrap64,go_sem];exact goJ (aa (i+k) _ (by omega) ⟨A,by omega⟩) (by simp(disch:=first|omega|assumption) only[Int.natCast_add,go_sem])
  | false =>rw[Z]at A;simp only[Bool.false_and,Bool.and_false]at A;simp(disch:=first|omega|assumption) only[go_sem];exact I _ _ _ _ nofun rfl (by simp[A])
 ·have J:¬ ((0:Int)<(k:Int)):=by omega
  simp only[W,decide_false,Bool.false_and]at A;simp(disch:=first|omega|assumption) only[J,go_sem];exact I _ _ _ _ nofun rfl (by simp[A])
def zqM(x:Tok)(A:yy x=true){r:List UInt8}(hr:zga r):YY.isPrefixOf (Yu x++r)=false:=by
 obtain⟨k,s⟩:=x;unfold yy at A;simp only at A;by_cases J:k=5
 ·subst J;have A:validD s=true:=A;simp only[Yu,if_true,ziL,Al6,ZP,Z6];exact zjV s r A hr
 have key:∀c t,s=c::t->c≠34->YY.isPrefixOf (Yu ⟨k,s⟩++r)=false:=λc t e h=>by subst e;simp only[Yu,J,if_false,Al6];exact ze2 h _
 by_cases I:k=1
 ·subst I;simp only[if_true,zcp,z6]at A;rcases A with rfl|A
  ·exact key 46 _ rfl (by decide)
  ·cases s with
   | nil=>cases A
   | cons c t =>
    cases t with
    | cons d t=>cases A
    | nil =>have I:=zil c;have Z:zdC c=true:=A;simp only[Z,Bool.not_true,Bool.false_or,Al0,Bool.not_eq_true',decide_eq_false_iff_not,z6]at I;exact key c [] rfl I.1
 rw[if_neg I]at A;by_cases U:k=2
 ·subst U;simp only[if_true]at A;cases s with
  | nil=>simp[zL,zdX]at A
  | cons c t =>have I:=zig c;simp only[(zkD A).1,Bool.not_true,Bool.false_or,Al0,Bool.not_eq_true',decide_eq_false_iff_not]at I;exact key c t rfl I.1
 rw[if_neg U]at A;by_cases W:k=3∨k=4
 ·rw[if_pos W]at A;simp only[z6]at A;unfold zaO at A;split at A
  case isFalse=>omega
  rename_i Y;cases s with
  | nil =>have:ZJ []=(0,0):=rfl;rw[this]at A;simp only at A;omega
  | cons c t =>have X:=zhD (zj5 (by rw[Y];simp:(ZJ (c::t)).1≠0));have I:=zhu c;simp only[X,Bool.not_true,Bool.false_or,Al0,Bool.not_eq_true',decide_eq_false_iff_not]at I;exact key c t rfl I.1
 rw[if_neg W,if_neg J]at A;cases A
def zrG(L:List Tok)(h:L.all yy=true)(aq:(Zt L).length<=8192):ze Tryz.prog 43 [.str (Zt L)] (.tup [.sl .no 2 (cKs L),.int .i64 0]):=by
 have an:=(Zw.join L h).here;have ae:=zvW (Zt L) (by simp only[Lim];omega);rw[an]at ae;have a1:L.length<=(Zt L).length+1/\True:=⟨by
  clear an ae aq;induction L with
  | nil=>simp
  | cons x r ay =>
   have hr:r.all yy=true:=by simp only[List.all_cons,Al0]at h;exact h.2
   have U:yy x=true:=by simp only[List.all_cons,Al0]at h;exact h.1
   have W:=List.length_pos_iff.2 (zgr x U (r:=[]) (.inl rfl)).2.2;cases r with
   | nil=>rw[zcW];simp
   | cons y r=>have:=ay hr;rw[zbw];simp only[Al5,Al2]at this ⊢;omega,trivial⟩
 generalize av:Zt L=s at *
 refine ze.go ir43.1 ir43.2 (Al4 _) λKP Q ar=>?_;have ap:¬ ((8192:Int)<(s.length:Int)):=by omega
 simp(disch:=first|omega|assumption) only[ir43,ap,go_sem];refine za ae ?_;simp(disch:=first|omega|assumption) only[go_sem];refine Ze (λx:Own×List Tok×Nat=>[(4,.sl x.1 2 (cKs x.2.1)),(5,.int .i64 x.2.2)]) (λx H=>x.2.2<=s.length/\(∃M,x.2.1++M=L/\(s.drop x.2.2=Zt M∨(M≠[]/\s.drop x.2.2=32::Zt M)))/\OwnS zb.emp .nil H x.1 x.2.1.length 2) (λx=>s.length-x.2.2) (.nil,[],0) (by simp(disch:=first|omega|assumption) only[cKs,List.map_nil,go_sem]) ⟨Nat.zero_le _,⟨L,rfl,.inl (by rw[List.drop_zero,av])⟩,OwnS.refl rfl⟩ ?_;rintro⟨o,l,i⟩ H az ⟨hi,⟨M,I,A⟩,Z⟩ ai;simp only at hi I A Z;have X:=yP l;have a3:l.length<=8193:=by have:=congrArg List.length I;simp only[Al5]at this;omega
 by_cases a4:i<s.length
 case neg =>
  have ad:¬ ((i:Int)<s.length):=by omega
  have au:M=[]:=by
   rw[List.drop_of_length_le (by omega)]at A;rcases A with A|⟨_,A⟩
   ·cases M with
    | nil=>rfl
    | cons x r =>
     have U:yy x=true:=by rw[<-I,List.all_append,List.all_cons]at h;simp only[Al0]at h;exact h.2.1
     have W:=(zgr x U (r:=[]) (.inl rfl)).2.2;cases r with
     | nil=>rw[zcW]at A;exact absurd A.symm W
     | cons y r=>rw[zbw]at A;simp at A
   ·cases A
  rw[au,List.append_nil]at I;subst I;simp(disch:=first|omega|assumption) only[ad,go_sem];exact ar _ _ _ _ nofun rfl (by simp[zbs])
 have ad:((i:Int)<s.length)=True:=eq_true (by omega);have am:((i:Int)<=s.length)=True:=eq_true (by omega);obtain⟨u,J⟩:∃u,s.drop i=u:=⟨_,rfl⟩;have al:s.length=i+u.length:=by have:=congrArg List.length J;rw[zbc]at this;omega
 rw[J]at A;simp(disch:=first|omega|assumption) only[ad,am,J,go_sem];rcases A with A|⟨a2,A⟩
 case inr =>
  have ao:u.length=(Zt M).length+1:=by rw[A];rfl
  rw[A];refine za (zAE (Zt M) (by omega)) ?_;simp(disch:=first|omega|assumption) only[wrap64,go_sem];exact goJ (ai (o,l,i+1) _ (by simp only;omega) ⟨by simp only;omega,⟨M,I,.inl (by simp only;rw[<-List.drop_drop,J,A];rfl)⟩,Z⟩) (by simp(disch:=first|omega|assumption) only[Int.natCast_add,Int.natCast_one,go_sem])
 cases M with
 | nil=>rw[A]at al;simp[Zt,Lib.join]at al;omega
 | cons x M =>
  have U:yy x=true:=by rw[<-I,List.all_append,List.all_cons]at h;simp only[Al0]at h;exact h.2.1
  obtain⟨t,af,ag⟩:∃t,u=Yu x++t/\zga t/\(t=Zt M∨(M≠[]/\t=32::Zt M)):=by
   cases M with
   | nil=>exact⟨[],by rw[A,zcW,List.append_nil],.inl rfl,.inl rfl⟩
   | cons y M=>exact⟨32::Zt (y::M),by rw[A,zbw],.inr ⟨32,_,rfl,.inl rfl⟩,.inr ⟨by simp,rfl⟩⟩
  obtain⟨aa,ab,W⟩:=zgr x U ag.1;have ac:=zqM x U ag.1;rw[<-af]at aa ab ac;have a5:=List.length_pos_iff.2 W;have ao:u.length=(Yu x).length+t.length:=by rw[af,Al5]
  obtain⟨c,r,Y⟩:∃c r,u=c::r:=by
   cases u with
   | nil=>simp only[Al3]at ao;omega
   | cons c r=>exact⟨c,r,rfl⟩
  rw[Y]at aa ab ac;have ah:=zBk c r (by rw[<-Y];omega) ab;have aj:=zBY c r (by rw[<-Y];simp only[zir];omega) ac aa;rw[<-Y]at ah aj;refine za ah ?_;simp(disch:=first|omega|assumption) only[am,J,go_sem];refine za aj ?_;have ax:¬ (((u.length-t.length:Nat):Int)=0):=by omega
  simp(disch:=first|omega|assumption) only[zdc,go_sem];refine zc λa0 ak=>?_;simp(disch:=first|omega|assumption) only[ax,go_sem];refine zj (by rw[X];exact(Z.upd ak).own) (by simp only[X,Al2,Al3];omega) (by simp only[X,Al2,Al3,maxLen];omega) λo' H' aw=>?_;simp(disch:=first|omega|assumption) only[wrap64,go_sem];refine goJ (ai (o',l++[x],i+(u.length-t.length)) H' (by simp only;omega) ⟨by simp only;omega,⟨M,by simpa using I,?_⟩,(Z.upd (x:=.cells [.int .i64 x.k,.str x.s]) ak).trans (by simpa[X]using aw)⟩) (by simp(disch:=first|omega|assumption) only[<-zce,Int.natCast_add,go_sem]);have e:s.drop (i+(u.length-t.length))=t:=by rw[<-List.drop_drop,J,af];simp
  simp only
  rw[e];exact ag.2
end Go.Proofs.YtnemcnegfkjpeaaGreatDoor
namespace Go.Proofs.YtnemcnegfkjpeaaGreatDoor
open Go.Ab
def sp16:ASp:=⟨27,2,5,(.reg [] [⟨some 4,none,.alloc [.int .i64 0],[]⟩]),(.seq (.reg [] [⟨some 13,none,.mv (.t 6),[]⟩,⟨some 14,none,.bi .neq .i64 (.t 13) (.k (.int .i64 0)),[]⟩])
 (.cond (.t 14) (.seq (.reg [] [⟨some 15,none,.mv (.t 6),[]⟩,⟨none,none,.st 1 (.t 4) (.t 15),[]⟩])
 (.ret)) (.skip))),[⟨some 16,none,.mkfn 44 [] [(.t 4)],[]⟩],16,(.seq (.reg [] [⟨some 17,none,.mv (.t 5),[]⟩,⟨some 18,none,.bld [.sl .nil 2 [],.int .i64 0,.int .i64 0] [(0,1,(.t 17))],[]⟩,⟨some 19,none,.box (.t 18),[]⟩,⟨some 7,none,.mv (.t 19),[]⟩])
 (.seq (.reg [] [⟨some 20,none,.mv (.t 1),[]⟩,⟨some 21,none,.mv (.t 7),[]⟩,⟨some 22,none,.callv (.t 20) [(.t 21)],[]⟩])
 (.seq (.seq (.reg [] [⟨some 23,none,.mv (.t 7),[]⟩,⟨some 24,none,.call 19 [(.t 23)],[]⟩])
 (.cond (.t 24) (.reg [] [⟨some 25,none,.mv (.t 7),[]⟩,⟨some 26,none,.call 45 [(.t 25),(.k (.int .i64 2))],[]⟩]) (.skip)))
 (.seq (.reg [] [⟨none,none,.st 1 (.t 4) (.k (.int .i64 0)),[]⟩])
 (.ret))))),[.c 4 1 false],some (.reg [] [⟨some 9,none,.mv (.t 0),[]⟩,⟨some 10,none,.call 43 [(.t 9)],[]⟩,⟨some 8,none,.mv (.t 10),[]⟩,⟨some 11,none,.ext (.t 8) 0,[]⟩,⟨some 12,none,.ext (.t 8) 1,[]⟩,⟨some 5,none,.mv (.t 11),[]⟩,⟨some 6,none,.mv (.t 12),[]⟩])⟩
def ckS16:zug Tryz.prog 16 sp16=true:=by kernel_rfl
def df44:ADfn:=⟨16,1,4,[⟨some 1,none,.mv (.t 4),[]⟩],(.seq (.reg [] [⟨some 6,none,.mv (.t 1),[]⟩,⟨some 7,none,.tas 98 (.agg [.int .i64 0]) (.t 6),[]⟩,⟨some 5,none,.mv (.t 7),[]⟩,⟨some 8,none,.ext (.t 5) 0,[]⟩,⟨some 9,none,.ext (.t 5) 1,[]⟩,⟨some 2,none,.alloc [.int .i64 0],[]⟩,⟨none,none,.st 1 (.t 2) (.t 8),[]⟩,⟨some 3,none,.mv (.t 9),[]⟩])
 (.seq (.reg [] [⟨some 10,none,.mv (.t 3),[]⟩])
 (.cond (.t 10) (.reg [] [⟨some 11,none,.fa 0 (.t 2),[]⟩,⟨some 12,none,.ld 1 false (.t 11),[]⟩,⟨none,none,.st 1 (.t 0) (.t 12),[]⟩]) (.seq (.reg [] [⟨some 13,none,.mv (.t 1),[]⟩,⟨some 14,none,.ifnil true (.t 13),[]⟩])
 (.cond (.t 14) (.reg [] [⟨some 15,none,.mv (.t 1),[]⟩,⟨none,none,.pan (.t 15),[]⟩]) (.skip))))))⟩
def ckD44:zoS Tryz.prog 44 df44=true:=by kernel_rfl
open Go.Lib
def zkv{P:Program}{KP:AV->zb->Prop}{items:List AItem}{ρ:Env}{H:zb}{K:Env->zb->Prop}(h:∀Q:AExit->Env->zb->Prop,(∀A H',K A H'->Q .normal A H')->goI P KP Q items items [] ρ H):yI P KP (zaj items) ρ H K :=h (λe ρ H=>match e with|.normal=>K ρ H|_=>True) (λ_ _ h=>h)
def zgu{P:Program}{KP:AV->zb->Prop}{c:AC}{ρ:Env}{H:zb}{K:AExit->Env->zb->Prop}(h:∀(A:AV->zb->Prop) (Q:AExit->Env->zb->Prop),(∀v H',KP v H'->A v H')->(∀e I H',K e I H'->Q e I H')->goC P A Q c [] ρ H):awp P KP c K ρ H :=h KP K (λ_ _ h=>h) (λ_ _ _ h=>h)
def zAy{H:zb}{b4:Nat}{Q:zb->Prop}(hq:∀b x,H b=none->Q (H.upd b x)):Ym Tryz.prog 44 [.ptr b4 0] none H Q:=by refine Ym.of_fn df44 ckD44 (Al4 _) (zkv λW A=>?_);simp(disch:=first|omega|assumption) only[df44,Option.getD_none,go_sem];refine A _ _ (zgu λU X Y I=>?_);simp(disch:=first|omega|assumption) only[df44,go_sem];refine zc λb J=>?_;simp(disch:=first|omega|assumption) only[go_sem];exact I _ _ _ (hq _ _ J)
def zBN(Out:Int->zb->Prop):AEnd->zb->Prop:=λe H'=>match e with|.ret v=>∃n:Int,v=.int .i64 n/\Out n H'|.pan _=>False
def zgs{ρ:Env}{H:zb}{b4:Nat}{e:Int}(I:ρ 4=.ptr b4 0)(A:H b4=some (.cells [.int .i64 e])):zo ρ H sp16.res=some [.int .i64 e]:=by simp(disch:=first|omega|assumption) only[sp16,zo,z8,I,A,go_sem]
def zBi{s:List UInt8}{L:List Tok}{Hc:zb}{clo:FuncId}{caps:List AV}(au:ze Tryz.prog 43 [.str s] (.tup [.sl .no 2 (cKs L),.int .i64 0]))(bg:L.length<=y0)(aw:Program.callable Tryz.prog clo=true)(Out:zb->Prop)(ak:∀r,Hc r=none->zd Tryz.prog clo (.ptr r 0::caps) (Hc.upd r (prc L [] 0)) (λe H'=>match e with
   | .ret _=>∃dp,H' r=some (prc L L dp)/\Out H'
   | .pan v=>False)):
  zd Tryz.prog 16 [.str s,.clo clo [] caps] Hc (zBN λn H=>n=0/\Out H):=by
 refine zd.of_sp sp16 ckS16 (Al4 _) ?_;unfold zzu;refine zgu λKP Q bc an=>?_;simp(disch:=first|omega|assumption) only[sp16,go_sem];refine zc λb4 ad=>?_;simp(disch:=first|omega|assumption) only[go_sem];refine an _ _ _ (zgu λa4 a7 bd ao=>?_);simp(disch:=first|omega|assumption) only[sp16,go_sem];refine za (ze.low au) ?_;simp(disch:=first|omega|assumption) only[go_sem];refine ao _ _ _ (zgu λa5 a8 be ap=>?_);simp(disch:=first|omega|assumption) only[sp16,go_sem];refine ap _ _ _ (zkv λa9 aq=>?_);simp(disch:=first|omega|assumption) only[sp16,go_sem];refine aq _ _ ⟨44,_,rfl,by decide +kernel,zgu λa6 ba bf ar=>?_⟩;simp(disch:=first|omega|assumption) only[sp16,go_sem];refine zc λA X=>?_;have ae:A≠b4:=λe=>by subst e;rw[upd_same]at X;cases X
 have av:Hc A=none:=by rw[upd_ne ae]at X;exact X
 simp(disch:=first|omega|assumption) only[aw,go_sem];obtain⟨I,ag⟩:∃I:AObj,I=.cells [.int .i64 0]:=⟨_,rfl⟩;have a0:(Hc.upd b4 (.cells [.int .i64 0])).upd A (.cells [.sl .no 2 (cKs L),.int .i64 0,.int .i64 0])=zb.union (Hc.upd A (prc L [] 0)) (zb.one b4 I):=by
  funext c;by_cases U:c=A
  ·subst U;rw[upd_same];simp[zb.union,zb.upd,prc]
  ·rw[upd_ne U];by_cases Z:c=b4
   ·subst Z;rw[upd_same];simp[zb.union,zb.upd,zb.one,U,ad,ag]
   ·rw[upd_ne Z];simp[zb.union,zb.upd,zb.one,U,Z]
 have ay:zb.Disj (Hc.upd A (prc L [] 0)) (zb.one b4 I):=λc=>by
  by_cases e:c=b4
  ·subst e;exact .inl (by rw[upd_ne (Ne.symm ae)];exact ad)
  ·exact .inr (by simp[zb.one,e])
 have aa:=zd.frame ay (ak A av);rw[a0];refine zQ aa λe H' ⟨J,hq,az,al⟩=>?_;subst al;have ac:zb.one b4 I b4=some (.cells [.int .i64 0]):=by simp[zb.one,ag]
 have ab:J b4=none:=by
  rcases az b4 with h|h
  ·exact h
  ·rw[ac]at h;cases h
 have ai:zb.union J (zb.one b4 I) b4=some (.cells [.int .i64 0]):=by simp[zb.union,ab,ac]
 cases e with
 | pan v=>exact hq.elim
 | ret v =>
  obtain⟨dp,hr,ho⟩:=hq;have aj:zb.union J (zb.one b4 I) A=some (prc L L dp):=by simp[zb.union,hr]
  have ah:∀c y,J c=some y->zb.union J (zb.one b4 I) c=some y:=λc y aa=>by simp[zb.union,aa]
  show goR _ _ _ _ _ _ _ _ _;simp(disch:=first|omega|assumption) only[go_sem];refine zC (ztC (t:=[]) (List.append_nil L) aj) λbh a3 ⟨a1,am⟩=>?_;subst a1;subst am;simp(disch:=first|omega|assumption) only[ai,go_sem];refine ar _ _ _ ⟨_,Low.refl _,zAy λb y W=>?_⟩;have a2:b4≠b:=λe=>by subst e;rw[upd_same]at W;cases W
  refine⟨_,zgs (b4:=b4) (e:=0) ?_ (by rw[upd_ne a2,upd_same]),J,Low.of_sub λc z Y=>?_,0,rfl,rfl,ho⟩
  ·rw[zmi,if_pos (by decide)];rfl
  ·have af:c≠b4:=λe=>by rw[e,ab]at Y;cases Y
   have ax:c≠b:=λe=>by rw[<-e,upd_ne af,ah _ _ Y]at W;cases W
   rw[upd_ne ax,upd_ne af];exact ah _ _ Y
def zAW(x:Tok)(U:yy x=true):x.s.length<=(Yu x).length:=by
 obtain⟨k,s⟩:=x;by_cases A:k=5
 ·subst A;have J:validD s=true:=U;have I:=zy0 (zkM s [] J);simp only[Yu,if_true,ziL,Al2,Al5,Al3]at I ⊢;omega
 ·simp only[Yu,A,if_false];exact Al4 _
def zum:∀L:List Tok,L.all yy=true->wT L<=5*(Zt L).length
 | [],_=>Nat.zero_le _
 | x::L,h=>by
  rw[List.all_cons,Al0]at h;have A:=zAW x h.1;have I:=List.length_pos_iff.2 (zgr x h.1 (r:=[]) (.inl rfl)).2.2;have J:=zum L h.2;rw[y6,wK];cases L with
  | nil=>rw[zcW];simp only[wT,List.map_nil,List.sum_nil];omega
  | cons y L=>rw[zbw];simp only[Al5,Al2];omega
def zzk{b4 A:Nat}{x y:AObj}(h:A≠b4):(zb.emp.upd b4 x).upd A y=zb.union (zb.one A y) (zb.one b4 x):=by
 funext c;by_cases I:c=A
 ·subst I;simp[zb.union,zb.upd,zb.one]
 ·by_cases J:c=b4
  ·subst J;simp[zb.union,zb.upd,zb.one,I]
  ·simp[zb.union,zb.upd,zb.one,I,J,zb.emp]
def zwi{b4 A:Nat}{x y:AObj}(h:A≠b4):zb.Disj (zb.one A y) (zb.one b4 x):=λc=>by
 by_cases e:c=b4
 ·subst e;exact .inl (by simp[zb.one,Ne.symm h])
 ·exact .inr (by simp[zb.one,e])
def zAD{A:zb}{b4:Nat}{x:AObj}(h:zb.Disj A (zb.one b4 x)):zb.union A (zb.one b4 x) b4=some x:=by
 have I:zb.one b4 x b4=some x:=by simp[zb.one]
 rcases h b4 with h|h
 ·simp[zb.union,h,I]
 ·rw[I]at h;cases h
def zBo{A B:zb}{b:Nat}{x:AObj}(h:A b=some x):zb.union A B b=some x:=by simp[zb.union,h]
abbrev zo8:List AV:=[.sl .nil 5 [],.sl .nil 4 []]
def zzf(d:DocD)(b:Nat)(H:zb):Prop:=∃o1 o2,H b=some (.cells [.sl o1 5 (cOs d.ops),.sl o2 4 (cFs d.frags)])
def zwt{L:List Tok}{D:DocD}(ae:znN L=.ok (D,[]))(ai:wT L<=y0){Hc:zb}{I r:Nat}(aa:Hc I=some (.cells zo8))(hr:Hc r=none):
  zd Tryz.prog 17 [.ptr r 0,.ptr I 0] (Hc.upd r (prc L [] 0)) (λe H'=>match e with
   | .ret _=>∃dp,H' r=some (prc L L dp)/\zzf D I H'
   | .pan v=>False):=by
 refine zd.goO (R:=λ_ H'=>∃dp,H' r=some (prc L L dp)/\zzf D I H') (RP:=λv _=>False) ir17.1 ir17.2 (Al4 _) λKP Q av a9=>?_;have aj:I≠r:=λe=>by subst e;rw[hr]at aa;cases aa
 have pan:∀(v:AV) (H1:zb) (n:Int),znN L=.error n->KP v H1:=λv H1 n ad=>by rw[ae]at ad;cases ad
 have ak:DI L r I (Hc.upd r (prc L [] 0)) L ⟨[],[]⟩ .nil .nil:=⟨⟨[],rfl,upd_same ..⟩,by rw[upd_ne aj];exact aa,rfl,rfl,nofun,aj⟩;simp(disch:=first|omega|assumption) only[ir17,go_sem];refine zQ (zxa ak ai (Nat.zero_le _)) λe H1 hq=>?_;cases e with
 | pan v =>obtain⟨n,J,ac⟩:=hq;exact pan v H1 n (by unfold znN;rw[ac];rfl)
 | ret v =>
  obtain⟨Z,U,az,a0,ap,J,al,aw,bc⟩:=hq;subst J;have Y:znN L=zcc (U.length+1) Z U:=by unfold znN;rw[ap];rfl
  obtain⟨R,af⟩:∃R,zcc (U.length+1) Z U=R:=⟨_,rfl⟩;rw[af]at Y;show goR _ _ _ _ _ _ _ _ _;simp(disch:=first|omega|assumption) only[go_sem];refine Ze (λx:DocD×TS×Own×Own=>[]) (λx H'=>DI L r I H' x.2.1 x.1 x.2.2.1 x.2.2.2/\(∃m,x.2.1.length<m/\zcc m x.1 x.2.1=R)/\x.1.ops.length+x.1.frags.length+x.2.1.length<=L.length) (λx=>x.2.1.length) (Z,U,az,a0) (by simp(disch:=first|omega|assumption) only[go_sem]) ⟨al,⟨_,Nat.lt_succ_self _,af⟩,by simpa using aw⟩ ?_;rintro⟨d,t,a3,a4⟩ a6 a8 ⟨W,⟨m,ax,A⟩,hlen⟩ au;simp only at W ax A hlen;obtain⟨m,rfl⟩:∃j,m=j+1:=⟨m-1,by omega⟩;obtain⟨q,hq,ah⟩:=W.rd;rw[zcc]at A;simp(disch:=first|omega|assumption) only[go_sem];refine zC (ztC hq ah) λbe a7 ⟨ay,ar⟩=>?_;subst ay;subst ar;by_cases X:t=[]
  ·rw[if_pos X]at A;have ab:decide (t≠[])=false:=by simp[X]
   rw[ab];simp(disch:=first|omega|assumption) only[go_sem];rw[ae,<-A]at Y;cases Y;rw[List.append_nil]at hq;subst hq;exact av _ _ _ _ [] nofun rfl (Low.refl _) ⟨16-16,ah,a3,a4,W.box⟩
  ·rw[if_neg X]at A;have ab:decide (t≠[])=true:=by simp[X]
   rw[ab];simp(disch:=first|omega|assumption) only[go_sem];refine zQ (zxa W ai (by omega)) λe an ag=>?_;cases e with
   | pan v =>obtain⟨n,J,ac⟩:=ag;exact pan v an n (by rw[Y,<-A,ac];rfl)
   | ret v =>obtain⟨ao,a5,a1,a2,aq,J,am,ba,bd⟩:=ag;subst J;rw[aq,zD]at A;show goR _ _ _ _ _ _ _ _ _;simp(disch:=first|omega|assumption) only[go_sem];exact goJ (au (ao,a5,a1,a2) _ (by simp only;omega) ⟨am,⟨m,by simp only;omega,A⟩,by simp only;omega⟩) (by simp(disch:=first|omega|assumption) only[go_sem])
def zn4(L:List Tok)(d:DocD)(h:L.all yy=true)(ac:(Zt L).length<=8192)(ad:znN L=.ok (d,[])):ze Tryz.prog 7 [.str (Zt L)] (.tup [.agg (zU d),.int .i64 0]):=by
 have Y:wT L<=y0:=by have:=zum L h;simp only[y0];omega
 have ag:=zrG L h ac;generalize Zt L=s at *
 refine ze.go ir7.1 ir7.2 (Al4 _) λKP Q af=>?_;simp(disch:=first|omega|assumption) only[ir7,go_sem];refine zc λI an=>?_;simp(disch:=first|omega|assumption) only[go_sem];refine zc λA W=>?_;have U:A≠I:=λe=>by subst e;rw[upd_same]at W;cases W
 have ab:(zb.one A (.cells zo8)) A=some (.cells zo8):=by simp[zb.one]
 have X:=zd.frame (zwi (x:=.cells zo8) U) (zBi (s:=s) (Hc:=zb.one A (.cells zo8)) (clo:=17) (caps:=[.ptr A 0]) ag (Nat.le_trans (za9 L) Y) (by decide +kernel) (zzf d A) (λr hr=>zwt ad Y ab hr));rw[<-zzk U]at X;simp(disch:=first|omega|assumption) only[go_sem];refine zQ X λe H' ⟨am,hq,ah,ae⟩=>?_;subst ae;cases e with
 | pan v=>exact hq.elim
 | ret v =>obtain⟨n,aj,ai,ak,al,aa⟩:=hq;subst aj;subst ai;have J:=zAD ah;simp only[zo8]at J;have Z:=zBo (B:=zb.one I (.cells zo8)) aa;show goR _ _ _ _ _ _ _ _ _;simp(disch:=first|omega|assumption) only[J,Z,go_sem];exact af _ _ _ [.agg [.sl ak 5 (cOs d.ops),.sl al 4 (cFs d.frags)],.int .i64 0] nofun (by simp(disch:=first|omega|assumption) only[ir7,zo,z8,go_sem]) (by simp[zP,AV.strip,AV.strip1,zU])
end Go.Proofs.YtnemcnegfkjpeaaGreatDoor
namespace Go.Proofs.YtnemcnegfkjpeaaGreatDoor
open Go.Ab
def zmA{dp:Int}{fixed:Bool}{v:Val}(h:yT dp fixed v=true):pl v/\dp+y5 v<=16/\(fixed=true->yL v []=[]):=by
 simp only[yT,zbH,Al0,zcp,Bool.not_eq_true',z6]at h;refine⟨h.1.1,h.2.1,λe=>?_⟩;rcases h.2.2 with h|h
 ·rw[h]at e;cases e
 ·exact zcN.1 h
def zjo{dp:Int}{k:Nat}{fixed:Bool}{v:Val}(W:dp+k=16)(h:yT dp fixed v=true)(J:wfV v)(t:TS):ZW fixed k (yQ v++t)=.ok (v,t):=by obtain⟨A,U,I⟩:=zmA h;exact ztG fixed v A J k t (by omega) I
def zkr{dp:Int}{k:Nat}{fixed:Bool}(W:dp+k=16)(l:List Mem)(h:zbg dp fixed l=true)(Z:zf0 l)(t:TS)(Y:isP [40] t=false):zb1 fixed k (YD l++t)=.ok (l,t):=by
 unfold zb1 YD;by_cases A:l.length=0
 ·rw[if_pos A];rw[zcN]at A;subst A;simp[Y]
 ·rw[if_neg A];have X:l≠[]:=λe=>A (by rw[e];rfl);have U:∀(x:Mem) (t:TS),isP [41] (zc7 x++t)=false:=λx t=>by cases x;simp[zc7,zaL]
  have e:pk [40]::(ZV l++[pk [41]])++t=pk [40]::(l.flatMap zc7++pk [41]::t):=by rw[zfY];simp
  rw[e,yG];simp only[decide_true,if_true,List.tail_cons];refine zeq (F:=λ_=>True) (λ_=>trivial) l X (λ_ _ _=>trivial) (λx _ t=>U x t) (λx J t _=>?_) t;obtain⟨s,v⟩:=x;have I:=zdi.1 h _ J;simp only[zlR,Al0]at I;exact zhC (λt=>zjo W I.2 (zey Z s v J) t) t
def zsT{dp:Int}{k:Nat}{fixed:Bool}(A:dp+k=16)(d:DirD)(h:zf7 dp fixed d=true)(J:wfD d)(t:TS)(I:isP [40] t=false):zjj fixed k (wk d.nm::YD d.args++t)=.ok (d,t):=by simp only[zf7,Al0]at h;rw[Al6,zjj,ZC];simp only[pb,zkr A d.args h.2 J t I]
def znx(l:List DirD):tDs l=l.flatMap λd=>pk [64]::(wk d.nm::YD d.args):=rfl
def zhb{dp:Int}{k:Nat}{fixed:Bool}(U:dp+k=16)(l:List DirD)(h:Zj dp fixed l=true)(X:zlK l)(t:TS)(I:isP [40] t=false)(J:isP [64] t=false):zap fixed k (tDs l++t)=.ok (l,t):=by
 unfold zap;rw[znx];have hlen:=zaA (tk:=λd:DirD=>pk [64]::(wk d.nm::YD d.args)) l λx _=>by simp
 have:=zhA (tk:=λd:DirD=>wk d.nm::YD d.args) (m:=[64]) (f:=zjj fixed k) (F:=λt=>isP [40] t=false) (λt=>by rw[yG];decide) l (λd A t W=>zsT U d (zdi.1 h d A) (X d A) t W) ((l.flatMap λd=>pk [64]::(wk d.nm::YD d.args)).length+t.length+1) [] t I J (by omega);simpa using this
def Fol(t:TS):Prop:=isP [58] t=false/\isP [40] t=false/\isP [64] t=false/\isP [123] t=false
def Fol.pk{m:List UInt8}(A:m≠[58])(I:m≠[40])(J:m≠[64])(U:m≠[123])(t:TS):Fol (pk m::t):=by simp[Fol,yG,A,I,J,U]
def Fol.wk(m:List UInt8)(t:TS):Fol (wk m::t):=by simp[Fol,zdk]
def ztM(x:SelD)(t:TS):Fol (tS x++t)/\isP [125] (tS x++t)=false:=by
 obtain⟨k,A,nm,args,dirs,on,sels⟩:=x;simp only[tS,ZP];split
 ·split
  ·exact⟨Fol.wk _ _,zdk ..⟩
  ·exact⟨Fol.wk _ _,zdk ..⟩
 ·split
  ·exact⟨Fol.pk (by decide) (by decide) (by decide) (by decide) _,by rw[Al6,yG];decide⟩
  ·exact⟨Fol.pk (by decide) (by decide) (by decide) (by decide) _,by rw[Al6,yG];decide⟩
def znh:∀l,tSl l=l.flatMap tS
 | []=>rfl
 | v::r=>by rw[tSl,znh r];rfl
def zhM{dp:Int}:∀ {l:List SelD},yY dp l=true->∀v∈l,Z8 dp v=true| _::_,h,v,hv=>by simp only[yY,Al0]at h;exact(List.mem_cons.1 hv).elim (λe=>e▸h.1) (zhM h.2 v)
def zi2:∀ {l:List SelD},zcQ l->∀v∈l,wfS v| _::_,h,v,hv=>(List.mem_cons.1 hv).elim (λe=>e▸h.1) (zi2 h.2 v)
def ziM(m:List UInt8)(A:m≠[64])(l:List DirD)(t:TS)(I:isP m t=false):isP m (tDs l++t)=false:=by
 cases l with
 | nil=>exact I
 | cons d l=>simp only[znx,List.flatMap_cons,Al6,yG];exact decide_eq_false (Ne.symm A)
def zr4(m:List UInt8)(A:m≠[40])(l:List Mem)(t:TS)(I:isP m t=false):isP m (YD l++t)=false:=by
 unfold YD;split
 ·exact I
 ·simp only[Al6,yG];exact decide_eq_false (Ne.symm A)
def zlu(m:List UInt8)(A:m≠[123])(l:List SelD)(t:TS)(I:isP m t=false):isP m ((if l.length=0 then []else pk [123]::(tSl l++[pk [125]]))++t)=false:=by
 split
 ·exact I
 ·simp only[Al6,yG];exact decide_eq_false (Ne.symm A)
def zsf(k:Nat)(dp:Int)(ai:dp+k=16)(x:SelD)(hr:Z8 dp x=true)(a0:wfS x)(ak:∀(l:List SelD) (t:TS),l.length≠0->dp+1<=16->yY (dp+1) l=true->bSs l<bS x->zcQ l->yw k (tBl l++t)=.ok (l,t))(t:TS)(az:Fol t):zcs (yw k) k (tS x++t)=.ok (x,t):=by
 obtain⟨X,J,nm,args,dirs,on,sels⟩:=x;obtain⟨a2,a3,al⟩:=a0;obtain⟨a5,a6,a7,a8⟩:=az;simp only[Z8,Al0]at hr;obtain⟨av,hr⟩:=hr;have ag:bSs sels<bS (.mk X J nm args dirs on sels):=by simp only[bS];omega
 have au:isP [64] ((if sels.length=0 then []else pk [123]::(tSl sels++[pk [125]]))++t)=false:=zlu _ (by decide) _ _ a7;have af:isP [40] ((if sels.length=0 then []else pk [123]::(tSl sels++[pk [125]]))++t)=false:=zlu _ (by decide) _ _ a6;have I:=zhb ai dirs av a3 _ af au;by_cases am:X=0
 ·subst am;simp only[if_true,Al0,zcp,z6]at hr;obtain⟨ab,Y,W,Z,A⟩:=hr;subst W;have ad:=zkr ai args Z a2 (tDs dirs++((if sels.length=0 then []else pk [123]::(tSl sels++[pk [125]]))++t)) (ziM _ (by decide) _ _ af);have ah:pb (if isP [123] ((if sels.length=0 then []else pk [123]::(tSl sels++[pk [125]]))++t)then yw k ((if sels.length=0 then []else pk [123]::(tSl sels++[pk [125]]))++t)else .ok ([],(if sels.length=0 then []else pk [123]::(tSl sels++[pk [125]]))++t)) (λl t=>(.ok (SelD.mk 0 J nm args dirs [] l,t):PR SelD))=.ok (SelD.mk 0 J nm args dirs [] sels,t):=by
   by_cases U:sels.length=0
   ·simp only[U,if_true,Z6,a8,Al7,if_false,pb];rw[zcN.1 U]
   ·rcases A with A|A
    ·exact absurd A U
    ·have:=ak sels t U A.1 A.2 ag al;simp only[tBl,Al6]at this;simp only[U,if_false,Al6,yG,decide_true,if_true,this,pb]
  by_cases ae:J=[]
  ·subst ae;have e:tS (.mk 0 [] nm args dirs [] sels)++t=wk nm::(YD args++(tDs dirs++((if sels.length=0 then []else pk [123]::(tSl sels++[pk [125]]))++t))):=by simp[tS]
   have c1:isP [58] (YD args++(tDs dirs++((if sels.length=0 then []else pk [123]::(tSl sels++[pk [125]]))++t)))=false:=zr4 _ (by decide) _ _ (ziM _ (by decide) _ _ (zlu _ (by decide) _ _ a5));rw[e];unfold zcs;rw[zdk,ZC];simp only[Al7,if_false,zD,c1,ad,I];exact ah
  ·have e:tS (.mk 0 J nm args dirs [] sels)++t=wk J::pk [58]::wk nm::(YD args++(tDs dirs++((if sels.length=0 then []else pk [123]::(tSl sels++[pk [125]]))++t))):=by simp[tS,ae]
   rw[e];unfold zcs;rw[zdk,ZC];simp only[Al7,if_false,zD,yG,decide_true,if_true,List.tail_cons,ZC,ad,I];exact ah
 by_cases an:X=1
 ·subst an;simp only[reduceCtorEq,if_false,if_true,Al0,z6,show ¬ ((1:Int)=0) by decide]at hr;obtain⟨ab,Y,W,Z,A,ac⟩:=hr;subst W;subst Z;have aq:=zcN.1 A;have ar:=zcN.1 ac;subst aq;subst ar;have e:tS (.mk 1 [] nm [] dirs [] [])++t=pk [46,46,46]::wk nm::(tDs dirs++t):=by simp[tS]
  have a1:isW [111,110] (wk nm::(tDs dirs++t))=false:=by rw[zg0];exact decide_eq_false Y
  have aw:(hdT (wk nm::(tDs dirs++t))).k=2:=rfl;simp only[Al3,if_true,Z6]at I;rw[e];unfold zcs;rw[yG];simp only[decide_true,if_true,List.tail_cons];unfold Yd;rw[if_pos ⟨aw,a1⟩,ZC];simp only[zD,I]
 by_cases ao:X=2
 ·subst ao;simp only[if_false,if_true,Al0,zcp,z6,show ¬ ((2:Int)=0) by decide,show ¬ ((2:Int)=1) by decide]at hr;obtain⟨ab,Y,W,Z,A,ac,a4⟩:=hr;subst ab;subst Y;have ap:=zcN.1 W;subst ap;have aa:=ak sels t A ac a4 ag al;simp only[A,if_false]at I;simp only[tBl]at aa;by_cases ho:on=[]
  ·subst ho;have e:tS (.mk 2 [] [] [] dirs [] sels)++t=pk [46,46,46]::(tDs dirs++(pk [123]::(tSl sels++[pk [125]])++t)):=by simp[tS,A]
   have aj:(hdT (tDs dirs++(pk [123]::(tSl sels++[pk [125]])++t))).k=1:=by
    cases dirs with
    | nil=>rfl
    | cons d l=>rfl
   have ax:¬ ((hdT (tDs dirs++(pk [123]::(tSl sels++[pk [125]])++t))).k=2/\isW [111,110] (tDs dirs++(pk [123]::(tSl sels++[pk [125]])++t))=false):=λh=>by rw[aj]at h;exact absurd h.1 (by decide)
   have ay:isW [111,110] (tDs dirs++(pk [123]::(tSl sels++[pk [125]])++t))=false:=by unfold isW;rw[aj];rfl
   rw[e];unfold zcs;rw[yG];simp only[decide_true,if_true,List.tail_cons];unfold Yd;rw[if_neg ax,ay];simp only[Al7,if_false,zD,I,aa]
  ·have e:tS (.mk 2 [] [] [] dirs on sels)++t=pk [46,46,46]::wk [111,110]::wk on::(tDs dirs++(pk [123]::(tSl sels++[pk [125]])++t)):=by simp[tS,A,ho]
   rw[e];unfold zcs;rw[yG];simp only[decide_true,if_true,List.tail_cons];unfold Yd;rw[if_neg (by rw[zg0];simp),zg0];simp only[decide_true,if_true,List.tail_cons,ZC,zD,I,aa]
 ·simp only[am,an,ao,if_false,Al7]at hr
def zkC:∀(c k:Nat) (dp:Int) (l:List SelD) (t:TS),bSs l<=c->dp+k=17->l.length≠0->dp<=16->yY dp l=true->zcQ l->yw k (tBl l++t)=.ok (l,t)
 | c,0,dp,l,t,_,hk,_,hd,_,_=>by omega
 | c,k+1,dp,l,t,hc,hk,hl,hd,hr,hw=>by
  have e:tBl l++t=pk [123]::(l.flatMap tS++pk [125]::t):=by simp[tBl,znh]
  have X:l≠[]:=λh=>hl (by rw[h];rfl);rw[e,yw,yG];simp only[decide_true,if_true,List.tail_cons];refine zeq (F:=Fol) (λt=>Fol.pk (by decide) (by decide) (by decide) (by decide) t) l X (λx _ t=>(ztM x t).1) (λx _ t=>(ztM x t).2) (λx A t Y=>?_) t;refine zsf k dp (by omega) x (zhM hr x A) (zi2 hw x A) (λZ t' I J U aa W=>?_) t Y;have ab:bS x<=bSs l:=by obtain⟨a,b,h⟩:=List.append_of_mem A;rw[h,zbk];omega
  cases c with
  | zero=>omega
  | succ c=>exact zkC c k (dp+1) Z t' (by omega) (by omega) I J U W
def zj1(l:List SelD)(t:TS)(h:yu 1 l=true)(A:zcQ l):yw 16 (tBl l++t)=.ok (l,t):=by simp only[yu,Al0,z6]at h;exact zkC (bSs l) 16 1 l t (Al4 _) (by decide) h.1 h.2.1 h.2.2 A
def ziN(A:TyD)(h:zM A=true)(t:TS)(W:isP [33] t=false):zei 4 (tTy A++t)=.ok (A,t):=by simp only[zM,Al0,z6]at h;obtain⟨_,I,X,J,U⟩:=h;have:=zmv A.nm A.lists.toNat 4 A.musts t (by omega) J U W;rw[Int.toNat_of_nonneg I]at this;exact this
def zA6{v:Val}(h:eqd v zV=true):v=zV:=by
 by_cases e:v=zV
 ·exact e
 ·rw[yO e]at h;cases h
def ztO(x:VarD)(h:zbz x=true)(X:wfW x)(t:TS)(U:isP [33] t=false)(W:isP [61] t=false):zbU (tW x++t)=.ok (x,t):=by
 obtain⟨nm,A,has,d⟩:=x;simp only[zbz,Al0]at h;obtain⟨_,J,I⟩:=h;cases has with
 | true =>
  simp only[zl5,if_true]at I;have e:tW ⟨nm,A,true,d⟩++t=pk [36]::wk nm::pk [58]::(tTy A++(pk [61]::(yQ d++t))):=by simp[tW,tDf]
  rw[e];unfold zbU;simp only[zdO,zD,ZC,ziN A J _ (show isP [33] (pk [61]::(yQ d++t))=false by rw[yG];decide),yG,decide_true,if_true,List.tail_cons,zjo (dp:=0) (k:=16) (by decide) I X.2.2 t]
 | false =>
  simp only[zl5,Al7,if_false]at I;have e:tW ⟨nm,A,false,d⟩++t=pk [36]::wk nm::pk [58]::(tTy A++t):=by simp[tW,tDf]
  rw[e,zA6 I];unfold zbU;simp only[zdO,zD,ZC,ziN A J _ U,W,Al7,if_false]
def zj3(l:List SelD)(t:TS):isP [40] (tBl l++t)=false/\isP [64] (tBl l++t)=false:=by simp only[tBl,Al6,yG];decide
def zqZ(l:List VarD)(h:l.all zbz=true)(Y:∀x∈l,wfW x)(t:TS)(I:isP [40] t=false):(if isP [40] (tWs l++t)then zcu [41] zbU (tWs l++t).tail else .ok ([],tWs l++t))=(.ok (l,t):PR (List VarD)):=by
 unfold tWs;by_cases A:l.length=0
 ·rw[zcN]at A;subst A;simp[I]
 ·have X:l≠[]:=λe=>A (by rw[e];rfl);have e:pk [40]::(l.flatMap tW++[pk [41]])++t=pk [40]::(l.flatMap tW++pk [41]::t):=by simp
  rw[if_neg A,e,yG];simp only[decide_true,if_true,List.tail_cons];have J:∀(x:VarD) (t:TS) (m:List UInt8),m≠[36]->isP m (tW x++t)=false:=λx t m W=>by simp only[tW,Al6,yG];exact decide_eq_false (Ne.symm W)
  exact zeq (F:=λt=>isP [33] t=false/\isP [61] t=false) (λt=>by simp only[yG];decide) l X (λx _ t=>⟨J x t _ (by decide),J x t _ (by decide)⟩) (λx _ t=>J x t _ (by decide)) (λx U t I=>ztO x (zdi.1 h x U) (Y x U) t I.1 I.2) t
def zvH(o:OpD)(h:zaw o=true)(aa:wfO o)(t:TS):opP o.k ((if o.nm=[]then []else [wk o.nm])++(tWs o.vars++(tDs o.dirs++tBl o.sels))++t)=.ok (o,t):=by
 obtain⟨k,nm,vars,dirs,sels⟩:=o;simp only[zaw,Al0]at h;obtain⟨_,_,W,X,Y⟩:=h;obtain⟨ab,ac,ad⟩:=aa;have f:=zj3 sels t;have U:=zqZ vars W ab (tDs dirs++(tBl sels++t)) (ziM _ (by decide) _ _ f.1);have A:=zhb (k:=16) (by decide) dirs X ac (tBl sels++t) f.1 f.2;have J:=zj1 sels t Y ad;simp only[ZP];unfold opP;have Z:(hdT (tWs vars++(tDs dirs++(tBl sels++t)))).k=1:=by
  unfold tWs;split
  ·cases dirs<;>rfl
  ·rfl
 by_cases I:nm=[]
 ·subst I;simp only[if_true,Z6,Z,show ¬ ((1:Int)=2) by decide,if_false,zD,U,A,J]
 ·simp only[I,if_false,Al6,Z6,show (hdT (wk nm::(tWs vars++(tDs dirs++(tBl sels++t))))).k=2 from rfl,if_true,ZC,zD,U,A,J]
def zqz(f:FragD)(h:zdb f=true)(A:wfF f)(t:TS):zfj (wk f.nm::wk [111,110]::wk f.on::(tDs f.dirs++tBl f.sels)++t)=.ok (f,t):=by obtain⟨nm,on,dirs,sels⟩:=f;simp only[zdb,Al0,z6]at h;obtain⟨I,_,_,J,U⟩:=h;have f:=zj3 sels t;have W:=zhb (k:=16) (by decide) dirs J A.1 (tBl sels++t) f.1 f.2;have X:=zj1 sels t U A.2;simp only[Al6,ZP];unfold zfj;simp only[zg0,decide_eq_false I,Al7,if_false,ZC,zD,decide_true,if_true,List.tail_cons,W,X]
def zqu(d:DocD)(o:OpD)(h:zaw o=true)(J:wfO o)(t:TS):zbp d (tO o++t)=.ok (⟨d.ops++[o],d.frags⟩,t):=by
 have I:=zvH o h J t;have A:o.k=0∨o.k=1:=by simp only[zaw,Al0,zcp,z6]at h;exact h.1
 unfold zbp tO;rcases A with A|A<;>rw[A]at I<;>simp[A,zdk,zg0]<;>simp only[ZP]at I<;>rw[I]<;>rfl
def zki(d:DocD)(f:FragD)(h:zdb f=true)(I:wfF f)(t:TS):zbp d (tF f++t)=.ok (⟨d.ops,d.frags++[f]⟩,t):=by have A:=zqz f h I t;unfold zbp tF;simp only[Al6,ZP]at A;simp[zdk,zg0,A,pb]
def zka:∀(l:List OpD),l.all zaw=true->(∀x∈l,wfO x)->∀(n:Nat) (d:DocD) (t:TS),zcc (n+l.length) d (l.flatMap tO++t)=zcc n ⟨d.ops++l,d.frags⟩ t
 | [],_,_,n,d,t=>by simp
 | o::l,h,hw,n,d,t=>by
  simp only[List.all_cons,Al0]at h;have e:n+(o::l).length=(n+l.length)+1:=by simp;omega
  rw[e,zcc,if_neg (by simp[tO])];simp only[List.flatMap_cons,ZP,zqu d o h.1 (hw o (by simp)),zD];rw[zka l h.2 (λx A=>hw x (by simp[A])) n];simp
def zhL:∀(l:List FragD),l.all zdb=true->(∀x∈l,wfF x)->∀(n:Nat) (d:DocD) (t:TS),zcc (n+l.length) d (l.flatMap tF++t)=zcc n ⟨d.ops,d.frags++l⟩ t
 | [],_,_,n,d,t=>by simp
 | o::l,h,hw,n,d,t=>by
  simp only[List.all_cons,Al0]at h;have e:n+(o::l).length=(n+l.length)+1:=by simp;omega
  rw[e,zcc,if_neg (by simp[tF])];simp only[List.flatMap_cons,ZP,zki d o h.1 (hw o (by simp)),zD];rw[zhL l h.2 (λx A=>hw x (by simp[A])) n];simp
def zjT(ops:List OpD)(frags:List FragD)(A:ops.all zaw=true)(I:frags.all zdb=true)(J:∀x∈ops,wfO x)(U:∀x∈frags,wfF x)(d:DocD)(n:Nat)(W:ops.length+frags.length<n):
  zcc n d (ops.flatMap tO++frags.flatMap tF)=.ok (⟨d.ops++ops,d.frags++frags⟩,[]):=by
 obtain⟨k,rfl⟩:∃k,n=k+1+frags.length+ops.length:=⟨n-1-frags.length-ops.length,by omega⟩;rw[zka ops A J];have:=zhL frags I U (k+1) ⟨d.ops++ops,d.frags⟩ [];rw[List.append_nil]at this;rw[this,zcc,if_pos rfl]
def zrW(d:DocD)(h:ZB d=true)(aa:zcE d):znN (zct d)=.ok (d,[]):=by
 obtain⟨ops,frags⟩:=d;simp only[ZB,Al0,z6]at h;obtain⟨Y,J,I⟩:=h;obtain⟨X,U⟩:=aa;have Z:∀l:List OpD,l.length<=(l.flatMap tO).length:=λl=>zaA l λx _=>by simp[tO]
 have W:∀l:List FragD,l.length<=(l.flatMap tF).length:=λl=>zaA l λx _=>by simp[tF]
 unfold znN zct;cases ops with
 | cons o ops =>simp only[List.all_cons,Al0]at J;simp only[List.flatMap_cons,ZP,zqu _ o J.1 (X o (by simp)),zD];rw[zjT ops frags J.2 I (λx A=>X x (by simp[A])) U _ _ (by have:=Z ops;have:=W frags;simp only[Al5];omega)];simp
 | nil =>
  cases frags with
  | nil=>simp at Y
  | cons f frags =>simp only[List.all_cons,Al0]at I;simp only[List.flatMap_nil,Z6,List.flatMap_cons,zki _ f I.1 (U f (by simp)),zD];have:=zjT [] frags rfl I.2 (λx A=>by cases A) (λx A=>U x (by simp[A])) ⟨[],[f]⟩ ((frags.flatMap tF).length+1) (by have:=W frags;simp only[Al3];omega);simp only[List.flatMap_nil,Z6,List.append_nil]at this;rw[this];simp
structure FldD where
 nm:List UInt8
 ps:List VarD
 t:TyD
 dirs:List DirD
structure DefD where
 k:Int
 nm:List UInt8
 faces:List (List UInt8)
 flds:List FldD
 parts:List (List UInt8)
 ps:List VarD
structure SchD where
 defs:List DefD
 q:List UInt8
 m:List UInt8
def cL(x:FldD):List AV:=[.str x.nm,.sl .no 10 (cWs x.ps),.str x.t.nm,.int .i64 x.t.lists,.int .i64 x.t.musts,.sl .no 2 (cDs x.dirs)]
def cLs(l:List FldD):List (List AV):=l.map cL
def cE(x:DefD):List AV:=[.int .i64 x.k,.str x.nm,.sl .no 1 (cT x.faces),.sl .no 6 (cLs x.flds),.sl .no 1 (cT x.parts),.sl .no 10 (cWs x.ps)]
def cEs(l:List DefD):List (List AV):=l.map cE
def zm(s:SchD):List AV:=[.sl .no 6 (cEs s.defs),.str s.q,.str s.m]
def zbd(l:List FldD):(cLs l).length=l.length:=by simp[cLs]
def zgn(l:List DefD):(cEs l).length=l.length:=by simp[cEs]
def ze6{l a:List FldD}{x:FldD}{b:List FldD}(h:l=a++x::b):(cLs l).getD a.length []=cL x:=yz h
def zgS{l a:List DefD}{x:DefD}{b:List DefD}(h:l=a++x::b):(cEs l).getD a.length []=cE x:=yz h
def zaM(nm:List UInt8)(ps:List VarD)(I:List UInt8)(tl A:Int)(dirs:List DirD):cL ⟨nm,ps,⟨I,tl,A⟩,dirs⟩=[.str nm,.sl .no 10 (cWs ps),.str I,.int .i64 tl,.int .i64 A,.sl .no 2 (cDs dirs)]:=rfl
def yf(k:Int)(nm:List UInt8)(faces:List (List UInt8))(flds:List FldD)(parts:List (List UInt8))(ps:List VarD):cE ⟨k,nm,faces,flds,parts,ps⟩=[.int .i64 k,.str nm,.sl .no 1 (cT faces),.sl .no 6 (cLs flds),.sl .no 1 (cT parts),.sl .no 10 (cWs ps)]:=rfl
def bT(l:List (List UInt8)):Nat:=(l.map λs=>1+s.length).sum
def bL(x:FldD):Nat:=1+x.nm.length+bWs x.ps+x.t.nm.length+bDs x.dirs
def bLs(l:List FldD):Nat:=(l.map bL).sum
def bE(x:DefD):Nat:=1+x.nm.length+bT x.faces+bLs x.flds+bT x.parts+bWs x.ps
def bEs(l:List DefD):Nat:=(l.map bE).sum
def zJ(s:SchD):Nat:=bEs s.defs+s.q.length+s.m.length
def ZK(l:List (List UInt8)):l.length<=bT l:=zaF (λx=>by omega) l
def zaf(l:List FldD):l.length<=bLs l:=zaF (λx=>by simp only[bL];omega) l
def zf6(l:List DefD):l.length<=bEs l:=zaF (λx=>by simp only[bE];omega) l
def zn7(a:List (List UInt8))(x:List UInt8)(b:List (List UInt8)):bT (a++x::b)=bT a+(1+x.length)+bT b:=zc9 ..
def zp0(a:List FldD)(x:FldD)(b:List FldD):bLs (a++x::b)=bLs a+bL x+bLs b:=zc9 ..
def zph(a:List DefD)(x:DefD)(b:List DefD):bEs (a++x::b)=bEs a+bE x+bEs b:=zc9 ..
def wfL(x:FldD):Prop:=(∀y∈x.ps,wfW y)/\inR x.t.lists/\inR x.t.musts/\zlK x.dirs
def wfE(x:DefD):Prop:=(∀y∈x.flds,wfL y)/\∀y∈x.ps,wfW y
def zdu(s:SchD):Prop:=∀x∈s.defs,wfE x
def tPa(x:VarD):List Tok:=wk x.nm::pk [58]::(tTy x.t++tDf x.has x.d)
def tPb(l:List VarD):List Tok:=if l.length=0 then []else pk [40]::(l.flatMap tPa++[pk [41]])
def tL(x:FldD):List Tok:=wk x.nm::(tPb x.ps++pk [58]::(tTy x.t++tDs x.dirs))
def tNs(m:List UInt8):List (List UInt8)->List Tok
 | []=>[]
 | s::r=>wk s::r.flatMap λs=>[pk m,wk s]
def tE(x:DefD):List Tok :=
 if x.k=1∨x.k=2 then wk (if x.k=1 then [116,121,112,101]else [105,110,116,101,114,102,97,99,101])::wk x.nm::((if x.faces.length=0 then []else wk [105,109,112,108,101,109,101,110,116,115]::tNs [38] x.faces)++(pk [123]::(x.flds.flatMap tL++[pk [125]])))
 else if x.k=3 then wk [117,110,105,111,110]::wk x.nm::pk [61]::tNs [124] x.parts
 else if x.k=4 then wk [101,110,117,109]::wk x.nm::pk [123]::(x.parts.map wk++[pk [125]])
 else wk [105,110,112,117,116]::wk x.nm::pk [123]::(x.ps.flatMap tPa++[pk [125]])
def tRt(q m:List UInt8):List Tok:=wk [115,99,104,101,109,97]::pk [123]::wk [113,117,101,114,121]::pk [58]::wk q::((if m=[]then []else [wk [109,117,116,97,116,105,111,110],pk [58],wk m])++[pk [125]])
noncomputable def zhe(x:FldD):Bool:=zL x.nm&&(x.ps.all zbz&&(zM x.t&&Zj 0 true x.dirs))
def zhI(s:List UInt8):Bool:=decide (s≠[116,114,117,101])&&(decide (s≠[102,97,108,115,101])&&decide (s≠[110,117,108,108]))
noncomputable def zbO(x:DefD):Bool :=
 zL x.nm&&(if x.k=1∨x.k=2 then x.faces.all zL&&(x.flds.all zhe&&(decide (x.flds.length≠0)&&(decide (x.parts.length=0)&&decide (x.ps.length=0))))
 else if x.k=3 then x.parts.all zL&&(decide (x.parts.length≠0)&&(decide (x.faces.length=0)&&(decide (x.flds.length=0)&&decide (x.ps.length=0))))
 else if x.k=4 then (x.parts.all zL&&x.parts.all zhI)&&(decide (x.parts.length≠0)&&(decide (x.faces.length=0)&&(decide (x.flds.length=0)&&decide (x.ps.length=0))))
 else if x.k=5 then x.ps.all zbz&&(decide (x.ps.length≠0)&&(decide (x.faces.length=0)&&(decide (x.flds.length=0)&&decide (x.parts.length=0))))
 else false)
noncomputable def zd7(s:SchD):Bool:=s.defs.all zbO&&(zL s.q&&(decide (s.m=[])||zL s.m))
def zbV{α:Type}(p:α->Bool):List α->Int->Int
 | [],_=>-1
 | x::r,i=>if p x=true then i else zbV p r (i+1)
abbrev At(r:AV)(H:zb):AEnd->zb->Prop:=λe H'=>∃v,e=.ret v/\v=r/\H'=H
def zm6{α:Type}(p:α->Bool):∀(l:List α) (i:Int),0<=i->decide (0<=zbV p l i)=l.any p
 | [],i,_=>by simp[zbV]
 | x::r,i,hi=>by
  by_cases h:p x=true
  ·simp[zbV,h];omega
  ·simp only[zbV,h,if_false,List.any_cons,Bool.false_or];exact zm6 p r (i+1) (by omega)
def zax{α:Type}(p:α->Bool):∀(l:List α) (i:Int),(∃a x r,l=a++x::r/\p x=true/\l.find? p=some x/\zbV p l i=i+a.length)∨(l.find? p=none/\zbV p l i=-1)
 | [],i=>.inr ⟨rfl,rfl⟩
 | x::l,i=>by
  by_cases h:p x=true
  ·exact .inl ⟨[],x,l,rfl,h,by simp[h],by simp[zbV,h]⟩
  ·rcases zax p l (i+1)with ⟨a,y,r,A,I,J,U⟩|⟨A,I⟩
   ·exact .inl ⟨x::a,y,r,by simp[A],I,by simp[h,J],by simp[zbV,h,U];omega⟩
   ·exact .inr ⟨by simp[h,A],by simp[zbV,h,I]⟩
def ixF(sz:Nat)(ag:Bool):AFn:=⟨19,2,[.t 4],.seq (.reg [] [⟨some 4,none,.mv (.k (.int .i64 0)),[]⟩])
 (.seq (.seq (.reg [] [⟨some 6,none,.mv (.t 0),[]⟩,⟨some 7,none,.len (.t 6),[]⟩,⟨some 8,none,.mv (.k (.int .i64 0)),[]⟩])
 (.block 0 (.loop [0,1,7,8] (.seq (.reg [] [⟨some 9,none,.bi .lss .i64 (.t 8) (.t 7),[]⟩])
  (.seq (.cond (.t 9) (.skip) (.exit 0))
  (.seq (.block 1 (.seq (.reg [] [⟨some 10,none,.mv (.t 8),[]⟩,⟨some 5,none,.mv (.t 10),[]⟩])
   (.seq (.reg [] [⟨some 11,none,.mv (.t 1),[]⟩,⟨some 12,none,.mv (.t 0),[]⟩,⟨some 13,none,.mv (.t 5),[]⟩,⟨some 14,none,.ia sz (.t 12) (.t 13),[]⟩,⟨some 15,none,.ld sz ag (.t 14),[]⟩,⟨some 16,none,.callv (.t 11) [(.t 15)],[]⟩])
   (.cond (.t 16) (.seq (.reg [] [⟨some 17,none,.mv (.t 5),[]⟩,⟨some 4,none,.mv (.t 17),[]⟩]) (.ret)) (.skip)))))
  (.reg [] [⟨some 18,none,.bi .add .i64 (.t 8) (.k (.int .i64 1)),[]⟩,⟨some 8,none,.mv (.t 18),[]⟩])))))))
 (.seq (.reg [] [⟨some 4,none,.mv (.k (.int .i64 (-1))),[]⟩])
 (.ret)))⟩
def ctF(g:FuncId):AFn:=⟨9,2,[.t 4],.seq (.reg [] [⟨some 4,none,.mv (.k (.bool false)),[]⟩])
 (.seq (.reg [] [⟨some 5,none,.mv (.t 0),[]⟩,⟨some 6,none,.mv (.t 1),[]⟩,⟨some 7,none,.call g [(.t 5),(.t 6)],[]⟩,⟨some 8,none,.bi .geq .i64 (.t 7) (.k (.int .i64 0)),[]⟩,⟨some 4,none,.mv (.t 8),[]⟩])
 (.ret))⟩
def zac{P:Program}{f:FuncId}{args:List AV}{r:AV}(h:zd P f args zb.emp (At r zb.emp)):ze P f args r:=h.mono λe H' ⟨v,A,I,J⟩=>by subst I;exact⟨A,J⟩
def Yh{P:Program}{f:FuncId}{args:List AV}{r:AV}(h:ze P f args r)(H:zb):zd P f args H (At r H) :=
 (h.use (K:=λv H'=>v=r/\H'=H) (KP:=λ_ _=>False) ⟨rfl,rfl⟩).mono λe H' A=>by
  cases e with
  | ret v=>exact⟨v,rfl,A.1,A.2⟩
  | pan v=>exact A.elim
abbrev ByH{α:Type}(l:List α)(v:α->AV)(f:FuncId)(caps:List AV)(p:α->Bool)(H:zb):Prop:=∀x∈l,zd Tryz.prog f (v x::caps) H (At (.bool (p x)) H)
abbrev ByP{α:Type}(l:List α)(v:α->AV)(f:FuncId)(caps:List AV)(p:α->Bool):Prop:=∀x∈l,ze Tryz.prog f (v x::caps) (.bool (p x))
def YR{α:Type}{sz:Nat}{I:Bool}{g:FuncId}(ac:zfk Tryz.prog g (ixF sz I)=true)(c:α->List AV)(v:α->AV)(Y:∀x,(c x).length=sz)(ah:∀x,mk I (c x)=v x)(l:List α)(f:FuncId)(caps:List AV)(p:α->Bool)(H:zb)(af:l.length<=Lim)(ad:Program.callable Tryz.prog f=true)(ab:ByH l v f caps p H):
  zd Tryz.prog g [.sl .no sz (l.map c),.clo f [] caps] H (At (.int .i64 (zbV p l 0)) H):=by
 refine zd.go (ixF sz I) ac (Al4 _) λKP Q W=>?_;have J:(l.map c).length=l.length:=List.length_map ..;simp only[Lim]at af;simp(disch:=omega) only[ixF,J,go_sem];refine zf l 8 (λ_:Unit=>[]) (λdone rest n H1=>zbV p rest done.length=zbV p l 0/\H1=H) () (by simp(disch:=omega) only[go_sem]) ⟨by simp,rfl⟩ ?_ ?_
 ·rintro n _ Z ⟨A,rfl⟩ U;simp only[zbV]at A;simp(disch:=omega) only[J,U,go_sem];exact W _ _ _ _ _ nofun rfl (Low.refl _) ⟨by simp[<-A],rfl⟩
 ·rintro done x rest n _ Z X U _ ⟨A,rfl⟩ aa;have ae:(l.map c).getD done.length []=c x:=yz X;have ag:List.take sz (c x)=c x:=List.take_of_length_le (by rw[Y x];exact Al4 _);have ai:=ah x;simp(disch:=omega) only[J,U,ae,Y x,ag,Al4,ai,ZO,steps,st2,pev,rev,oev,zdI,zfD,zuD,ztu,bound,zdx,mm2,ZO,AV.cells,AV.boxable,AV.one,AV.strip1,AV.strip2,zdB,zb8,Nat.reduceEqDiff,reduceCtorEq,↓reduceIte,Nat.reduceAdd,Int.reduceNeg,Nat.reduceLeDiff,Int.reduceToNat,Int.reduceEq,Int.reduceLT,Int.reduceLE,Int.reduceAdd];refine⟨ad,zQ (ab x (by rw[X];simp)) ?_⟩;rintro _ _ ⟨_,rfl,rfl,rfl⟩;by_cases h:p x=true
  ·simp(disch:=omega) only[ZT,h,go_sem];rw[zbV,if_pos h]at A;exact W _ _ _ _ _ nofun rfl (Low.refl _) ⟨by simp[<-A],rfl⟩
  ·rw[zbV,if_neg h]at A;have h':p x=false:=by simpa using h
   simp(disch:=omega) only[ZT,h',go_sem];exact goJ (aa () _ ⟨by rw[<-A];simp,rfl⟩) (by simp(disch:=omega) only[wrap64,go_sem])
def zbJ{α:Type}{g A:FuncId}(J:zfk Tryz.prog A (ctF g)=true){xs v:AV}{l:List α}{p:α->Bool}{H:zb}(hi:zd Tryz.prog g [xs,v] H (At (.int .i64 (zbV p l 0)) H)):zd Tryz.prog A [xs,v] H (At (.bool (l.any p)) H):=by refine zd.go (ctF g) J (Al4 _) λKP Q I=>?_;simp(disch:=omega) only[ctF,go_sem];refine zQ hi ?_;rintro _ _ ⟨_,rfl,rfl,rfl⟩;simp(disch:=omega) only[ZT,go_sem];have:=zm6 p l 0 (by omega);exact I _ _ _ _ _ nofun rfl (Low.refl _) ⟨by simp[this],rfl⟩
def zwc{α:Type}(c:α->List AV)(U:∀x,(c x).length=6)(l:List α)(f:FuncId)(caps:List AV)(p:α->Bool)(H:zb)(J:l.length<=Lim)(I:Program.callable Tryz.prog f=true)(A:ByH l (λx=>.agg (c x)) f caps p H):zd Tryz.prog 287 [.sl .no 6 (l.map c),.clo f [] caps] H (At (.bool (l.any p)) H):=zbJ ir287.2 (YR ir322.2 c (λx=>.agg (c x)) U (λ_=>rfl) l f caps p H J I A)
def zvr{α:Type}(c:α->List AV)(U:∀x,(c x).length=6)(l:List α)(f:FuncId)(caps:List AV)(p:α->Bool)(H:zb)(J:l.length<=Lim)(I:Program.callable Tryz.prog f=true)(A:ByH l (λx=>.agg (c x)) f caps p H):zd Tryz.prog 235 [.sl .no 6 (l.map c),.clo f [] caps] H (At (.int .i64 (zbV p l 0)) H):=YR ir235.2 c (λx=>.agg (c x)) U (λ_=>rfl) l f caps p H J I A
def zlp{α:Type}(c:α->List AV)(U:∀x,(c x).length=6)(l:List α)(f:FuncId)(caps:List AV)(p:α->Bool)(H:zb)(J:l.length<=Lim)(I:Program.callable Tryz.prog f=true)(A:ByH l (λx=>.agg (c x)) f caps p H):zd Tryz.prog 208 [.sl .no 6 (l.map c),.clo f [] caps] H (At (.bool (l.any p)) H):=zbJ ir208.2 (YR ir235.2 c (λx=>.agg (c x)) U (λ_=>rfl) l f caps p H J I A)
def zxQ{α:Type}(c:α->List AV)(W:∀x,(c x).length=6)(l:List α)(f:FuncId)(caps:List AV)(p:α->Bool)(J:l.length<=Lim)(I:Program.callable Tryz.prog f=true)(A:ByP l (λx=>.agg (c x)) f caps p):ze Tryz.prog 235 [.sl .no 6 (l.map c),.clo f [] caps] (.int .i64 (zbV p l 0)):=zac (YR ir235.2 c (λx=>.agg (c x)) W (λ_=>rfl) l f caps p _ J I λx U=>Yh (A x U) _)
def anyOp{α:Type}(c:α->List AV)(W:∀x,(c x).length=5)(l:List α)(f:FuncId)(caps:List AV)(p:α->Bool)(J:l.length<=Lim)(I:Program.callable Tryz.prog f=true)(A:ByP l (λx=>.agg (c x)) f caps p):ze Tryz.prog 56 [.sl .no 5 (l.map c),.clo f [] caps] (.bool (l.any p)):=zac (zbJ ir56.2 (YR ir123.2 c (λx=>.agg (c x)) W (λ_=>rfl) l f caps p _ J I λx U=>Yh (A x U) _))
def zsz{α:Type}(c:α->List AV)(U:∀x,(c x).length=4)(l:List α)(f:FuncId)(caps:List AV)(p:α->Bool)(H:zb)(J:l.length<=Lim)(I:Program.callable Tryz.prog f=true)(A:ByH l (λx=>.agg (c x)) f caps p H):zd Tryz.prog 124 [.sl .no 4 (l.map c),.clo f [] caps] H (At (.bool (l.any p)) H):=zbJ ir124.2 (YR ir229.2 c (λx=>.agg (c x)) U (λ_=>rfl) l f caps p H J I A)
def zwC{α:Type}(c:α->List AV)(W:∀x,(c x).length=4)(l:List α)(f:FuncId)(caps:List AV)(p:α->Bool)(J:l.length<=Lim)(I:Program.callable Tryz.prog f=true)(A:ByP l (λx=>.agg (c x)) f caps p):ze Tryz.prog 229 [.sl .no 4 (l.map c),.clo f [] caps] (.int .i64 (zbV p l 0)):=zac (YR ir229.2 c (λx=>.agg (c x)) W (λ_=>rfl) l f caps p _ J I λx U=>Yh (A x U) _)
def zpO{α:Type}(c:α->List AV)(W:∀x,(c x).length=4)(l:List α)(f:FuncId)(caps:List AV)(p:α->Bool)(J:l.length<=Lim)(I:Program.callable Tryz.prog f=true)(A:ByP l (λx=>.agg (c x)) f caps p):ze Tryz.prog 124 [.sl .no 4 (l.map c),.clo f [] caps] (.bool (l.any p)):=zac (zbJ ir124.2 (YR ir229.2 c (λx=>.agg (c x)) W (λ_=>rfl) l f caps p _ J I λx U=>Yh (A x U) _))
def zvh{α:Type}(c:α->List AV)(U:∀x,(c x).length=10)(l:List α)(f:FuncId)(caps:List AV)(p:α->Bool)(H:zb)(J:l.length<=Lim)(I:Program.callable Tryz.prog f=true)(A:ByH l (λx=>.agg (c x)) f caps p H):zd Tryz.prog 226 [.sl .no 10 (l.map c),.clo f [] caps] H (At (.bool (l.any p)) H):=zbJ ir226.2 (YR ir238.2 c (λx=>.agg (c x)) U (λ_=>rfl) l f caps p H J I A)
def zyE{α:Type}(c:α->List AV)(W:∀x,(c x).length=10)(l:List α)(f:FuncId)(caps:List AV)(p:α->Bool)(J:l.length<=Lim)(I:Program.callable Tryz.prog f=true)(A:ByP l (λx=>.agg (c x)) f caps p):ze Tryz.prog 238 [.sl .no 10 (l.map c),.clo f [] caps] (.int .i64 (zbV p l 0)):=zac (YR ir238.2 c (λx=>.agg (c x)) W (λ_=>rfl) l f caps p _ J I λx U=>Yh (A x U) _)
def zsG{α:Type}(c:α->List AV)(W:∀x,(c x).length=10)(l:List α)(f:FuncId)(caps:List AV)(p:α->Bool)(J:l.length<=Lim)(I:Program.callable Tryz.prog f=true)(A:ByP l (λx=>.agg (c x)) f caps p):ze Tryz.prog 226 [.sl .no 10 (l.map c),.clo f [] caps] (.bool (l.any p)):=zac (zbJ ir226.2 (YR ir238.2 c (λx=>.agg (c x)) W (λ_=>rfl) l f caps p _ J I λx U=>Yh (A x U) _))
def zi7{α:Type}(c:α->List AV)(U:∀x,(c x).length=10)(l:List α)(f:FuncId)(caps:List AV)(p:α->Bool)(H:zb)(J:l.length<=Lim)(I:Program.callable Tryz.prog f=true)(A:ByH l (λx=>.agg (c x)) f caps p H):zd Tryz.prog 154 [.sl .no 10 (l.map c),.clo f [] caps] H (At (.bool (l.any p)) H):=zbJ ir154.2 (YR ir242.2 c (λx=>.agg (c x)) U (λ_=>rfl) l f caps p H J I A)
def zrO{α:Type}(c:α->List AV)(W:∀x,(c x).length=10)(l:List α)(f:FuncId)(caps:List AV)(p:α->Bool)(J:l.length<=Lim)(I:Program.callable Tryz.prog f=true)(A:ByP l (λx=>.agg (c x)) f caps p):ze Tryz.prog 242 [.sl .no 10 (l.map c),.clo f [] caps] (.int .i64 (zbV p l 0)):=zac (YR ir242.2 c (λx=>.agg (c x)) W (λ_=>rfl) l f caps p _ J I λx U=>Yh (A x U) _)
def zrk{α:Type}(c:α->List AV)(W:∀x,(c x).length=10)(l:List α)(f:FuncId)(caps:List AV)(p:α->Bool)(J:l.length<=Lim)(I:Program.callable Tryz.prog f=true)(A:ByP l (λx=>.agg (c x)) f caps p):ze Tryz.prog 154 [.sl .no 10 (l.map c),.clo f [] caps] (.bool (l.any p)):=zac (zbJ ir154.2 (YR ir242.2 c (λx=>.agg (c x)) W (λ_=>rfl) l f caps p _ J I λx U=>Yh (A x U) _))
def zxK{α:Type}(c:α->List AV)(W:∀x,(c x).length=7)(l:List α)(f:FuncId)(caps:List AV)(p:α->Bool)(J:l.length<=Lim)(I:Program.callable Tryz.prog f=true)(A:ByP l (λx=>.agg (c x)) f caps p):ze Tryz.prog 231 [.sl .no 7 (l.map c),.clo f [] caps] (.bool (l.any p)):=zac (zbJ ir231.2 (YR ir296.2 c (λx=>.agg (c x)) W (λ_=>rfl) l f caps p _ J I λx U=>Yh (A x U) _))
def zuK{α:Type}(c:α->List AV)(U:∀x,(c x).length=6)(l:List α)(f:FuncId)(caps:List AV)(p:α->Bool)(H:zb)(J:l.length<=Lim)(I:Program.callable Tryz.prog f=true)(A:ByH l (λx=>.agg (c x)) f caps p H):zd Tryz.prog 343 [.sl .no 6 (l.map c),.clo f [] caps] H (At (.bool (l.any p)) H):=zbJ ir343.2 (YR ir357.2 c (λx=>.agg (c x)) U (λ_=>rfl) l f caps p H J I A)
def zf9{α:Type}(c:α->AV)(l:List α)(f:FuncId)(caps:List AV)(p:α->Bool)(H:zb)(J:l.length<=Lim)(I:Program.callable Tryz.prog f=true)(A:ByH l c f caps p H):zd Tryz.prog 132 [.sl .no 1 (l.map (λx=>[c x])),.clo f [] caps] H (At (.bool (l.any p)) H):=zbJ ir132.2 (YR ir233.2 (λx=>[c x]) c (λ_=>rfl) (λ_=>rfl) l f caps p H J I A)
def zoy{α:Type}(c:α->AV)(l:List α)(f:FuncId)(caps:List AV)(p:α->Bool)(J:l.length<=Lim)(I:Program.callable Tryz.prog f=true)(A:ByP l c f caps p):ze Tryz.prog 132 [.sl .no 1 (l.map (λx=>[c x])),.clo f [] caps] (.bool (l.any p)):=zac (zbJ ir132.2 (YR ir233.2 (λx=>[c x]) c (λ_=>rfl) (λ_=>rfl) l f caps p _ J I λx U=>Yh (A x U) _))
def zty{α:Type}(c:α->AV)(l:List α)(f:FuncId)(caps:List AV)(p:α->Bool)(H:zb)(J:l.length<=Lim)(I:Program.callable Tryz.prog f=true)(A:ByH l c f caps p H):zd Tryz.prog 127 [.sl .no 1 (l.map (λx=>[c x])),.clo f [] caps] H (At (.bool (l.any p)) H):=zbJ ir127.2 (YR ir230.2 (λx=>[c x]) c (λ_=>rfl) (λ_=>rfl) l f caps p H J I A)
def zwQ{α:Type}(c:α->AV)(l:List α)(f:FuncId)(caps:List AV)(p:α->Bool)(J:l.length<=Lim)(I:Program.callable Tryz.prog f=true)(A:ByP l c f caps p):ze Tryz.prog 127 [.sl .no 1 (l.map (λx=>[c x])),.clo f [] caps] (.bool (l.any p)):=zac (zbJ ir127.2 (YR ir230.2 (λx=>[c x]) c (λ_=>rfl) (λ_=>rfl) l f caps p _ J I λx U=>Yh (A x U) _))
def Y8(n:List UInt8):Bool:=decide (n=[73,110,116])||decide (n=[83,116,114,105,110,103])||decide (n=[66,111,111,108,101,97,110])||decide (n=[73,68])
def zwy(n:List UInt8):ze Tryz.prog 290 [.str n] (.bool (Y8 n)):=by
 refine ze.go ir290.1 ir290.2 (Al4 _) λKP Q A=>?_;by_cases I:n=[73,110,116]
 ·have e:Y8 n=true:=by simp[Y8,I]
  have W:=eq_true I;rw[e]at A;simp(disch:=omega) only[ir290,W,go_sem];exact A _ _ _ _ nofun rfl (by simp )
 by_cases J:n=[83,116,114,105,110,103]
 ·have e:Y8 n=true:=by simp[Y8,J]
  have X:=eq_true J;rw[e]at A;simp(disch:=omega) only[ir290,I,X,go_sem];exact A _ _ _ _ nofun rfl (by simp )
 by_cases U:n=[66,111,111,108,101,97,110]
 ·have e:Y8 n=true:=by simp[Y8,U]
  have Y:=eq_true U;rw[e]at A;simp(disch:=omega) only[ir290,I,J,Y,go_sem];exact A _ _ _ _ nofun rfl (by simp )
 have e:Y8 n=decide (n=[73,68]):=by simp[Y8,I,J,U]
 rw[e]at A;simp(disch:=omega) only[ir290,I,J,U,go_sem];exact A _ _ _ _ nofun rfl (by simp )
def zE:DefD:=⟨0,[],[],[],[],[]⟩
def scE(n:List UInt8):DefD:=⟨0,n,[],[],[],[]⟩
def nmE(n:List UInt8)(d:DefD):Bool:=decide (d.nm=n)
def yB(s:SchD)(n:List UInt8):Option DefD:=if Y8 n=true then some (scE n)else s.defs.find? (nmE n)
def yc{s:SchD}(h:zJ s<=Lim):s.defs.length<=Lim:=by have:=zf6 s.defs;simp only[zJ]at h;omega
def zgy(s:SchD)(n:List UInt8)(ai:s.defs.length<=Lim):ze Tryz.prog 215 [.agg (zm s),.str n] (.tup [.agg (cE ((yB s n).getD zE)),.bool (yB s n).isSome]):=by
 refine ze.go ir215.1 ir215.2 (Al4 _) λKP Q A=>?_;obtain⟨defs,q,m⟩:=s;have X:=zgn defs;simp only[Lim]at ai;simp(disch:=omega) only[ir215,zm,go_sem];refine zc λZ al=>?_;simp(disch:=omega) only[zm,go_sem];refine za (zwy n) ?_;cases ad:Y8 n
 case true =>
  have e:yB ⟨defs,q,m⟩ n=some (scE n):=by simp[yB,ad]
  rw[e]at A;simp(disch:=omega) only[zm,go_sem];exact A _ _ _ [.agg [.int .i64 0,.str n,.sl .nil 1 [],.sl .nil 6 [],.sl .nil 1 [],.sl .nil 10 []],.bool true] nofun (by simp(disch:=omega) only[ir215,zo,z8,go_sem]) rfl
 have e:yB ⟨defs,q,m⟩ n=defs.find? (nmE n):=by simp[yB,ad]
 rw[e]at A;simp(disch:=omega) only[zm,X,go_sem];refine zf defs 15 (λ_:Unit=>[]) (λdone rest am H=>H Z=some (.cells [.int .i64 0,.str [],.sl .nil 1 [],.sl .nil 6 [],.sl .nil 1 [],.sl .nil 10 []])/\rest.find? (nmE n)=defs.find? (nmE n)) () (by simp(disch:=omega) only[go_sem]) ⟨upd_same ..,rfl⟩ ?_ ?_
 ·rintro _ H af ⟨I,U⟩ Y;rw[<-U]at A;simp(disch:=omega) only[X,Y,I,go_sem];exact A _ _ _ [.agg [.int .i64 0,.str [],.sl .nil 1 [],.sl .nil 6 [],.sl .nil 1 [],.sl .nil 10 []],.bool false] nofun (by simp(disch:=omega) only[ir215,zo,z8,go_sem]) rfl
 ·rintro done x rest _ H af aj Y _ ⟨I,U⟩ ah;have ak:=zgS aj;simp(disch:=omega) only[X,Y,ak,go_sem];refine zc λag ac=>?_;have J:Z≠ag:=λe=>by subst e;rw[I]at ac;cases ac
  by_cases h:x.nm=n
  ·have W:defs.find? (nmE n)=some x:=by rw[<-U];simp[nmE,h]
   rw[W]at A;obtain⟨k,nm,ab,aa,ps,ae⟩:=x;simp only at h;simp(disch:=omega) only[yf,I,J,Ne.symm J,h,go_sem];exact A _ _ _ [.agg (cE ⟨k,nm,ab,aa,ps,ae⟩),.bool true] nofun (by simp(disch:=omega) only[ir215,zo,z8,yf,h,go_sem]) rfl
  ·have W:rest.find? (nmE n)=defs.find? (nmE n):=by rw[<-U];simp[nmE,h]
   obtain⟨k,nm,ab,aa,ps,ae⟩:=x;simp only at h;simp(disch:=omega) only[yf,I,J,Ne.symm J,h,go_sem];exact goJ (ah () _ ⟨by simp(disch:=omega) only[I,J,Ne.symm J,go_sem],W⟩) (by simp(disch:=omega) only[wrap64,go_sem])
def cI(k:Int):List AV:=[.int .i64 k]
def zlf(x:Int):List Int->Int->Int
 | [],_=>-1
 | y::r,i=>if x=y then i else zlf x r (i+1)
def zq6(l:List Int)(x:Int):Bool:=l.any λy=>decide (x=y)
def znu(x:Int):∀l (i:Int),0<=i->decide (0<=zlf x l i)=zq6 l x
 | [],i,_=>by simp[zlf,zq6]
 | y::r,i,hi=>by
  have:=znu x r (i+1) (by omega);simp only[zlf,zq6,List.any_cons]at this ⊢;by_cases h:x=y
  ·simp[h];omega
  ·simp only[h,if_false,decide_false,Bool.false_or];exact this
def zu0(l:List Int)(x:Int)(ab:l.length<=Lim):ze Tryz.prog 321 [.sl .no 1 (l.map cI),.int .i64 x] (.int .i64 (zlf x l 0)):=by
 refine ze.go ir321.1 ir321.2 (Al4 _) λKP Q W=>?_;have I:(l.map cI).length=l.length:=List.length_map ..;simp only[Lim]at ab;simp(disch:=omega) only[ir321,I,go_sem];refine zf l 8 (λ_:Unit=>[]) (λdone rest n H=>zlf x rest done.length=zlf x l 0) () (by simp(disch:=omega) only[go_sem]) rfl ?_ ?_
 ·rintro n H Y A J;simp(disch:=omega) only[I,J,go_sem];simp only[zlf]at A;exact W _ _ _ _ nofun rfl (by simp[<-A])
 ·rintro done y rest n H Y aa J _ A Z;have X:(l.map cI).getD done.length []=[.int .i64 y]:=yz aa;simp only[zlf]at A;by_cases U:x=y
  ·subst U;simp only[if_true]at A;simp(disch:=omega) only[I,J,X,go_sem];exact W _ _ _ _ nofun rfl (by simp[<-A])
  ·simp only[U,if_false]at A;simp(disch:=omega) only[I,J,X,U,go_sem];exact goJ (Z () _ (by simpa using A)) (by simp(disch:=omega) only[wrap64,go_sem])
def zom(l:List Int)(x:Int)(I:l.length<=Lim):ze Tryz.prog 286 [.sl .no 1 (l.map cI),.int .i64 x] (.bool (zq6 l x)):=by refine ze.go ir286.1 ir286.2 (Al4 _) λKP Q A=>?_;simp(disch:=omega) only[ir286,go_sem];refine za (zu0 l x I) ?_;simp(disch:=omega) only[go_sem];have:=znu x l 0 (by omega);exact A _ _ _ _ nofun rfl (by simp[this])
def Za(s:SchD)(n:List UInt8)(ks:List Int):Bool:=(yB s n).any λd=>zq6 ks d.k
def zdA(s:SchD)(n:List UInt8)(A:List Int)(X:s.defs.length<=Lim)(Z:A.length<=Lim):ze Tryz.prog 200 [.agg (zm s),.str n,.sl .no 1 (A.map cI)] (.bool (Za s n A)):=by
 refine ze.go ir200.1 ir200.2 (Al4 _) λKP Q I=>?_;have J:=zgy s n X;obtain⟨defs,q,m⟩:=s;simp only[Za]at I;simp only[zm]at J;simp(disch:=omega) only[ir200,zm,go_sem];refine za J ?_;cases U:yB ⟨defs,q,m⟩ n with
 | none =>simp(disch:=omega) only[Option.getD,Option.isSome,zE,yf,go_sem];refine zc λW Y=>?_;simp(disch:=omega) only[yf,go_sem];exact I _ _ _ _ nofun rfl (by simp[U])
 | some d =>obtain⟨k,nm,ab,aa,ps,ac⟩:=d;simp(disch:=omega) only[Option.getD,Option.isSome,yf,go_sem];refine zc λW Y=>?_;simp(disch:=omega) only[yf,go_sem];refine za (zom A k Z) ?_;simp(disch:=omega) only[go_sem];exact I _ _ _ _ nofun rfl (by simp[U])
def zaT(s:SchD)(n:List UInt8):Bool:=Za s n [0,4]
def Z4(s:SchD)(n:List UInt8):Bool:=Za s n [1,2,3]
def zci(s:SchD)(n:List UInt8):Bool:=Za s n [0,4,5]
def zm1(s:SchD)(n:List UInt8)(J:s.defs.length<=Lim):ze Tryz.prog 142 [.agg (zm s),.str n] (.bool (zaT s n)):=by refine ze.go ir142.1 ir142.2 (Al4 _) λKP Q I=>?_;have A:=zdA s n [0,4] J (by decide);obtain⟨defs,q,m⟩:=s;simp only[zm,List.map,cI]at A;simp(disch:=omega) only[ir142,zm,go_sem];refine za (ze.low A) ?_;simp(disch:=omega) only[go_sem];exact I _ _ _ _ nofun rfl (by simp[zaT])
def zie(s:SchD)(n:List UInt8)(J:s.defs.length<=Lim):ze Tryz.prog 126 [.agg (zm s),.str n] (.bool (Z4 s n)):=by refine ze.go ir126.1 ir126.2 (Al4 _) λKP Q I=>?_;have A:=zdA s n [1,2,3] J (by decide);obtain⟨defs,q,m⟩:=s;simp only[zm,List.map,cI]at A;simp(disch:=omega) only[ir126,zm,go_sem];refine za (ze.low A) ?_;simp(disch:=omega) only[go_sem];exact I _ _ _ _ nofun rfl (by simp[Z4])
def zut(s:SchD)(n:List UInt8)(J:s.defs.length<=Lim):ze Tryz.prog 156 [.agg (zm s),.str n] (.bool (zci s n)):=by refine ze.go ir156.1 ir156.2 (Al4 _) λKP Q I=>?_;have A:=zdA s n [0,4,5] J (by decide);obtain⟨defs,q,m⟩:=s;simp only[zm,List.map,cI]at A;simp(disch:=omega) only[ir156,zm,go_sem];refine za (ze.low A) ?_;simp(disch:=omega) only[go_sem];exact I _ _ _ _ nofun rfl (by simp[zci])
def tnB:List UInt8:=[95,95,116,121,112,101,110,97,109,101]
def zF:FldD:=⟨[],[],⟨[],0,0⟩,[]⟩
def tnF:FldD:=⟨tnB,[],⟨[83,116,114,105,110,103],0,1⟩,[]⟩
def nmF(n:List UInt8)(f:FldD):Bool:=decide (f.nm=n)
def yH(s:SchD)(typ nm:List UInt8):Option FldD :=
 if nm=tnB/\Z4 s typ=true then some tnF else match yB s typ with
  | none=>none
  | some d=>if d.k=1∨d.k=2 then d.flds.find? (nmF nm)else none
def zk9{d:DefD}:∀ {l:List DefD},d∈l->bE d<=bEs l
 | x::l,h=>by
  rcases List.mem_cons.1 h with rfl|h
  ·simp only[bEs,List.map_cons,List.sum_cons];omega
  ·have:=zk9 h;simp only[bEs,List.map_cons,List.sum_cons]at this ⊢;omega
def YF{s:SchD}{n:List UInt8}{d:DefD}(h:yB s n=some d):bLs d.flds<=zJ s/\bT d.faces<=zJ s/\bT d.parts<=zJ s/\bWs d.ps<=zJ s:=by
 unfold yB at h;split at h
 ·cases h;simp[scE,bLs,bT,bWs]
 ·have:=zk9 (List.mem_of_find?_eq_some h);simp only[bE,zJ]at this ⊢;omega
def zv4(f:FldD)(n:List UInt8):ze Tryz.prog 236 [.agg (cL f),.view [.str n]] (.bool (nmF n f)):=by obtain⟨nm,ps,⟨a,b,c⟩,ds⟩:=f;refine ze.go ir236.1 ir236.2 (Al4 _) λKP Q A=>?_;simp(disch:=omega) only[ir236,zaM,go_sem];exact A _ _ _ _ nofun rfl (by simp[nmF])
def zhk(s:SchD)(typ nm:List UInt8)(ag:zJ s<=Lim):ze Tryz.prog 140 [.agg (zm s),.str typ,.str nm] (.tup [.agg (cL ((yH s typ nm).getD zF)),.bool (yH s typ nm).isSome]):=by
 refine ze.go ir140.1 ir140.2 (Al4 _) λKP Q au=>?_;have aj:=yc ag;have aa:=zie s typ aj;have ai:=zgy s typ aj;have a0:=@YF s typ;have a6:zJ s<=1099511627776:=ag;have a9:∀b,(zP [AV.agg [.str [],.sl .nil 10 [],.str [],.int .i64 0,.int .i64 0,.sl .nil 2 []],.bool b]).strip=.tup [.agg (cL zF),.bool b]:=λ_=>rfl;have a8:∀x b,(zP [AV.agg (cL x),.bool b]).strip=.tup [.agg (cL x),.bool b]:=λ_ _=>rfl;obtain⟨ak,al,sm⟩:=s;generalize av:(⟨ak,al,sm⟩:SchD)=s at *
 have aw:zm s=[.sl .no 6 (cEs ak),.str al,.str sm]:=by rw[<-av];rfl
 rw[aw]at aa ai ⊢;have fin:∀o,yH s typ nm=o->∀ρ H vs,zo ρ H ir140.1.res=some vs->(zP vs).strip=.tup [.agg (cL (o.getD zF)),.bool o.isSome]->Q .ret ρ H:=λo e ρ H vs W U=>au _ ρ H vs nofun W (by rw[U,e]);have am:¬ (nm=tnB/\Z4 s typ=true)->yH s typ nm=match yB s typ with|none=>none|some d=>if d.k=1∨d.k=2 then d.flds.find? (nmF nm)else none:=λh=>by simp only[yH,h,if_false]
 have three:(nm=tnB/\Z4 s typ=true)∨(nm=tnB/\Z4 s typ=false)∨nm≠tnB:=by cases Z4 s typ<;>by_cases h:nm=tnB<;>simp[h]
 rcases three with ⟨X,ac⟩|U
 ·have ab:(nm=[95,95,116,121,112,101,110,97,109,101])=True:=eq_true X;rw[ac]at aa;simp(disch:=omega) only[ir140,go_sem];refine zc λae ah=>?_;simp(disch:=omega) only[ab,go_sem];refine za aa ?_;simp(disch:=omega) only[go_sem];exact fin (some tnF) (by simp[yH,X,ac]) _ _ [.agg [.str tnB,.sl .nil 10 [],.str [83,116,114,105,110,103],.int .i64 0,.int .i64 1,.sl .nil 2 []],.bool true] (by simp(disch:=omega) only[ir140,zo,z8,tnB,go_sem]) rfl
 have I:=am (by rcases U with ⟨_,h⟩|h<;>simp[h]);rcases U with ⟨X,ac⟩|X
 case' inl =>have ab:(nm=[95,95,116,121,112,101,110,97,109,101])=True:=eq_true X;rw[ac]at aa;simp(disch:=omega) only[ir140,go_sem];refine zc λae ah=>?_;simp(disch:=omega) only[ab,go_sem];refine za aa ?_;simp(disch:=omega) only[go_sem]
 case' inr =>have ab:¬ nm=[95,95,116,121,112,101,110,97,109,101]:=X;simp(disch:=omega) only[ir140,go_sem];refine zc λae ah=>?_;simp(disch:=omega) only[ab,go_sem]
 all_goals
  refine za ai ?_;cases ad:yB s typ with
  | none =>rw[ad]at I;simp(disch:=omega) only[Option.getD,Option.isSome,zE,yf,go_sem];refine zc λaf Z=>?_;have A:=yS Z;simp(disch:=omega) only[yf,A,Ne.symm A,go_sem];exact fin none I _ _ [.agg [.str [],.sl .nil 10 [],.str [],.int .i64 0,.int .i64 0,.sl .nil 2 []],.bool false] (by simp(disch:=omega) only[ir140,zo,z8,A,Ne.symm A,go_sem]) rfl
  | some d =>
   rw[ad]at I;have a1:=(a0 ad).1;obtain⟨k,a3,a4,Y,ps,a7⟩:=d;simp only at I a1;have a5:=zaf Y;by_cases J:k=1∨k=2
   case neg =>rw[if_neg J]at I;have ay:¬ k=1:=λh=>J (.inl h);have az:¬ k=2:=λh=>J (.inr h);simp(disch:=omega) only[Option.getD,Option.isSome,yf,go_sem];refine zc λaf Z=>?_;have A:=yS Z;simp(disch:=omega) only[yf,A,Ne.symm A,ay,az,go_sem];exact fin none I _ _ [.agg [.str [],.sl .nil 10 [],.str [],.int .i64 0,.int .i64 0,.sl .nil 2 []],.bool false] (by simp(disch:=omega) only[ir140,zo,z8,A,Ne.symm A,go_sem]) rfl
   rw[if_pos J]at I;have a2:=zxQ cL (λ_=>rfl) Y 236 [.view [.str nm]] (nmF nm) (by simp only[Lim];omega) (by kernel_rfl) λx _=>zv4 x nm;rcases J with J|J
   all_goals
    subst J;simp(disch:=omega) only[Option.getD,Option.isSome,yf,go_sem];refine zc λaf Z=>?_;have A:=yS Z;simp(disch:=omega) only[yf,A,Ne.symm A,go_sem];refine za a2 ?_;rcases zax (nmF nm) Y 0 with ⟨a,x,r,W,U,an,ao⟩|⟨W,U⟩
    ·rw[ao,Int.zero_add];rw[an]at I;have ax:=ze6 W;have aq:=zbd Y;have ap:(a.length:Int)<Y.length:=by rw[W,Al5,Al2];omega
     have ar:¬ ((a.length:Int)<0):=by omega
     simp(disch:=omega) only[A,Ne.symm A,ax,aq,ap,ar,cL,go_sem];refine fin (some x) I _ _ [.agg (cL x),.bool true] ?_ rfl;simp(disch:=omega) only[ir140,zo,z8,A,Ne.symm A,cL,go_sem]
    ·rw[U];rw[W]at I;simp(disch:=omega) only[A,Ne.symm A,go_sem];exact fin none I _ _ [.agg [.str [],.sl .nil 10 [],.str [],.int .i64 0,.int .i64 0,.sl .nil 2 []],.bool false] (by simp(disch:=omega) only[ir140,zo,z8,A,Ne.symm A,go_sem]) rfl
def zcv(l:List (List UInt8))(n:List UInt8):List (List UInt8):=if yo n l=true then l else l++[n]
def zpw(l:List (List UInt8))(n:List UInt8):(zcv l n).length<=l.length+1:=by unfold zcv;split<;>simp
def zA9(l:List (List UInt8))(n:List UInt8)(o:Own)(H:zb)(U:l.length+1<=Lim)(ho:zA H o l.length 1):YG Tryz.prog 297 [.sl o 1 (cT l),.str n] H o 1 (cT (zcv l n)):=by
 have I:=zG l;have W:=U;simp only[Lim]at W;refine zd.goO ir297.1 ir297.2 (Al4 _) λKP Q J Y=>?_;simp(disch:=omega) only[ir297,go_sem];refine za (ze.low (yD l n (by simp only[Lim];omega))) ?_;cases A:yo n l with
 | true =>
  simp(disch:=omega) only[A,go_sem];refine J _ _ H H _ nofun rfl (Low.refl _) ⟨o,?_,?_⟩
  ·simp[zP,Zb,zcv,A]
  ·simpa[zcv,A,I]using OwnS.refl ho
 | false =>
  simp(disch:=omega) only[A,go_sem];refine zj (by rw[I];exact ho) ?_ ?_ λo' H' X=>?_
  ·simp only[I,Al2,Al3];omega
  ·simp only[I,Al2,Al3,maxLen];omega
  simp(disch:=omega) only[go_sem];refine J _ _ H' H' _ nofun rfl (Low.refl _) ⟨o',?_,?_⟩
  ·simp[zP,Zb,zcv,A,cT,AV.strip1]
  ·simpa[zcv,A,I,zG]using X
def zb3(s:SchD)(n:List UInt8):List (List UInt8):=match yB s n with
 | none=>[]
 | some d=>if d.k=1 then [n]else if d.k=2 then s.defs.foldl (λl x=>if x.k=1/\yo n x.faces=true then zcv l x.nm else l) []else if d.k=3 then d.parts.foldl (λl p=>if Za s p [1]=true then zcv l p else l) []else []
end Go.Proofs.YtnemcnegfkjpeaaGreatDoor
