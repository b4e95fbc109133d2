import Derived.Shelf.Strings.IndexAnyAll
import Derived.Shelf.Small.Utf8
import Derived.Laws.RangeAny
import Derived.Laws.Runes
import Derived.WalkMore
import Derived.Shelf.RegionOpenPlain
import Derived.BigQuiet
import Derived.Test.YticbbfbpeimkbaaGreatDoorRows
import Derived.Test.YticbbfbpeimkbaaGreatDoorM1
import Derived.Test.YticbbfbpeimkbaaGreatDoorM2
import Derived.Test.YticbbfbpeimkbaaGreatDoorM3
import Derived.Test.YticbbfbpeimkbaaGreatDoorM4
import Derived.Test.YticbbfbpeimkbaaGreatDoorM5
import Derived.Test.YticbbfbpeimkbaaGreatDoorM6
import Derived.Test.YticbbfbpeimkbaaGreatDoorM7
set_option maxRecDepth 100000
set_option linter.all false
namespace Go.Proofs.YticbbfbpeimkbaaGreatDoor
open Go.Ab Go.Lib
def AtR (cells:List AV) (off:Nat) (cur:List (List UInt8)):Prop:=∃ pre post,cells=pre++(ZS cur++post)∧pre.length=off
theorem AtR.get {cells:List AV} {off:Nat} {cur a:List (List UInt8)} {x:List UInt8} {r:List (List UInt8)} (h:AtR cells off cur) (hc:cur=a++x::r):(cells.drop (off+a.length*1)).take 1=[.str x]∧off+a.length*1+1≤cells.length:=by
 obtain⟨pre,post,rfl,rfl⟩:=h
 subst hc
 refine⟨?_,by simp[ZS];omega⟩
 rw[Nat.mul_one,← List.drop_drop,List.drop_left]
 simp[ZS]
theorem AtR.le {cells:List AV} {off:Nat} {cur:List (List UInt8)} (h:AtR cells off cur):off+cur.length≤cells.length:=by
 obtain⟨pre,post,rfl,rfl⟩:=h
 simp[ZS]
theorem AtR.front {cells:List AV} {b off cap:Nat} {x:List UInt8} {r:List (List UInt8)} (h:AtR cells off (x::r)) (hc:r.length+1≤cap) :
  ∃ off2,zey 1 b off (r.length+1) cap (some 1) (some ((r.length+1:Nat):Int))=some (.ms b off2 r.length (cap-1))∧AtR cells off2 r:=by
 obtain⟨pre,post,rfl,rfl⟩:=h
 have e:(((r.length+1:Nat):Int)).toNat-(1:Int).toNat=r.length:=by omega
 by_cases h1:cap=1
 ·obtain rfl:r=[]:=List.length_eq_zero_iff.1 (by omega)
  exact⟨pre.length,by simp[zey,h1],pre,.str x::post,by simp[ZS],rfl⟩
 ·refine⟨pre.length+1,?_,pre++[.str x],post,by simp[ZS],by simp⟩
  unfold zey
  simp only
  rw[if_pos (by omega),if_neg (by simpa using h1),e]
  simp
theorem zgo {b off cap len k:Nat} (h:k≤len):zey 1 b off len cap (some 0) (some (k:Int))=some (.ms b off k cap):=by
 unfold zey
 simp only
 rw[if_pos (by omega)]
 simp
theorem AtR.back {cells:List AV} {off:Nat} {x:List UInt8} {r:List (List UInt8)} (h:AtR cells off (r++[x])):AtR cells off r:=by
 obtain⟨pre,post,rfl,rfl⟩:=h
 exact⟨pre,.str x::post,by simp[ZS],rfl⟩
theorem ziN:∀(cur:List (List UInt8)) (post:List AV),zam 1 cur.length (ZS cur++post)=cT cur
 | [],_=>rfl
 | x::r,post=>by
  have:=ziN r post
  simp only[ZS] at this
  simp[zam,ZS,cT,AV.strip1,this]
theorem AtR.rows {cells:List AV} {off:Nat} {cur:List (List UInt8)} (h:AtR cells off cur):zam 1 cur.length (cells.drop off)=cT cur:=by
 obtain⟨pre,post,rfl,rfl⟩:=h
 rw[List.drop_left,ziN]
def wL (l:List (List UInt8)):Nat:=(l.map fun x=>x.length+1).sum
theorem zeS {l:List (List UInt8)} {x:List UInt8} (h:x∈l):x.length+1≤wL l:=zry h
theorem zfg:∀ l:List (List UInt8),l.length≤wL l
 | []=>by simp
 | x::r=>by have:=zfg r;simp only[wL,List.map_cons,List.sum_cons,Al2] at this ⊢;omega
theorem zmy (a b:List (List UInt8)):wL (a++b)=wL a+wL b:=by simp[wL]
theorem Yq (x:List UInt8) (b:List (List UInt8)):wL (x::b)=x.length+1+wL b:=by simp[wL]
theorem zjD (n:Nat):∀ l:List (List UInt8),wL (l.map fun s=>s.drop n)≤wL l
 | []=>by simp[wL]
 | x::r=>by have:=zjD n r;simp only[List.map_cons,Yq,List.length_drop];omega
theorem zgk:∀ l:List (List UInt8),(Lib.join l [10]).length≤wL l
 | []=>by simp[Lib.join]
 | [x]=>by simp[Lib.join,wL]
 | x::y::r=>by
  have:=zgk (y::r)
  have e:Lib.join (x::y::r) [10]=x++10::Lib.join (y::r) [10]:=by simp[Lib.join]
  rw[e,Yq]
  simp only[Al5,Al2];omega
theorem zbM (r:List (List UInt8)) (x:List UInt8):zeH (r++[x])=if yQ x then zeH r else r++[x]:=by
 unfold zeH
 rw[List.reverse_append,List.reverse_singleton,List.singleton_append,List.dropWhile_cons]
 split
 ·rfl
 ·simp
theorem znJ {α:Type} {l:List α} (h:l≠[]):∃ r x,l=r++[x]:=⟨l.dropLast,l.getLast h,(List.dropLast_concat_getLast h).symm⟩
theorem zqb (a:List (List UInt8)) (x y:List UInt8) (r:List (List UInt8)) (tl:List AV):splice (ZS (a++x::r)++tl) (0+a.length*1) [.str y]=ZS (a++y::r)++tl:=by
 have e:ZS (a++x::r)++tl=ZS a++(.str x::(ZS r++tl)):=by simp[ZS]
 rw[e]
 simp only[splice,Al2,Al3,Nat.zero_add,Nat.mul_one]
 rw[List.take_left' (Yw a),List.drop_append,List.drop_eq_nil_of_le (by rw[Yw];omega),Yw,Nat.add_sub_cancel_left]
 simp[ZS]
theorem zq5 (raw:List UInt8) (hs:raw.length≤1099511600000):zq Tryz.prog 280 [.str raw] (.str (Zw raw)):=by
 refine zq.go ir280 ck280 (Al4 _) fun KP Q hQ=>?_
 have hw0:wL (yo raw)≤raw.length+1:=by have:=zdf raw [];simpa[wL,yo] using this
 obtain⟨x0,T,hL⟩:∃ x T,yo raw=x::T:=by
  cases hx:yo raw with
  | nil=>exact absurd hx (zkA raw [])
  | cons x T=>exact⟨x,T,rfl⟩
 have hLl:=zfg (yo raw)
 simp(disch:=first|omega|assumption) only[ir280,go_sem]
 refine zI (zr3 raw (by simp only[Lim];omega)) fun v H1 ⟨b,cap,hv,hm⟩=>?_
 subst hv
 have hm0:=hm
 obtain⟨tl,hb,hcap⟩:=hm
 simp(disch:=first|omega|assumption) only[go_sem]
 refine zI (zql hm0 (fun s hsm=>by have:=zeS hsm;simp only[Lim];omega) (by simp only[Lim];omega)) fun v H2 ⟨hv,hH⟩=>?_
 subst hv;subst hH
 by_cases hn:0<indM (yo raw)
 case neg =>
  have hn0:(indM (yo raw)).toNat=0:=by omega
  obtain⟨D,hDd⟩:∃ D,D=yo raw:=⟨_,rfl⟩
  have hDM:zdA (yo raw)=D:=by
   rw[hDd]
   conv=>lhs;rw[hL]
   simp only[zdA]
   rw[← hL,hn0]
   simp[hL]
  have hDl:D.length=(yo raw).length:=by rw[hDd]
  have hbX:H2 b=some (.cells (ZS D++tl)):=by rw[hDd];exact hb
  obtain⟨cells,hcells⟩:∃ cells,cells=ZS D++tl:=⟨_,rfl⟩
  rw[← hcells] at hbX
  have hwD:wL D≤1099511627777:=by rw[hDd];omega
  rw[← hDd] at hcap
  simp(disch:=first|omega|assumption) only[hn,go_sem]
  refine yB (fun x:Nat×Nat×List (List UInt8)=>[(3,.ms b x.1 x.2.2.length x.2.1)]) (fun x H'=>H'=H2∧AtR cells x.1 x.2.2∧x.2.2.length≤x.2.1∧x.2.2.dropWhile yQ=D.dropWhile yQ∧wL x.2.2≤wL D) (fun x=>x.2.2.length) (0,cap,D) (by simp(disch:=first|omega|assumption) only[hDl,go_sem]) ⟨rfl,⟨[],tl,by rw[hcells,Zy],rfl⟩,by simp only;omega,rfl,Al4 _⟩ ?_
  rintro⟨off,cp,cur⟩ H3 J ⟨rfl,ha,hcp,hdw,hw⟩ hJ
  simp only at ha hcp hdw hw
  have stage2:∀ K:Unit,cur=D.dropWhile yQ→True:=fun _ _=>trivial
  by_cases hcur:cur=[]
  case pos =>
   subst hcur
   have hD:D.dropWhile yQ=[]:=by rw[← hdw];rfl
   simp(disch:=first|omega|assumption) only[Al3,go_sem]
   refine yB (fun x:Unit=>[]) (fun x H'=>H'=H3) (fun x=>0) () (by simp(disch:=first|omega|assumption) only[Al3,go_sem]) rfl ?_
   rintro⟨⟩ H4 J4 rfl hJ4
   simp(disch:=first|omega|assumption) only[Al3,go_sem]
   refine ze2 hbX (by decide) (by have:=ha.le;simpa using this) ?_
   have hr:=ha.rows
   simp only[Al3] at hr
   simp(disch:=first|omega|assumption) only[hr,go_sem]
   refine zb (zaP [] [10] (by simp[Lib.join]) (by simp)) ?_
   have e:Zw raw=Lib.join [] [10]:=by
    unfold Zw;rw[hDM,hD];rfl
   simp(disch:=first|omega|assumption) only[go_sem]
   exact hQ _ _ _ _ nofun rfl (by simp[zc,zd,AV.strip,AV.strip1,e])
  obtain⟨x,r,hxr⟩:∃ x r,cur=x::r:=by cases cur with|nil=>exact absurd rfl hcur|cons x r=>exact⟨x,r,rfl⟩
  have hxl:x.length≤Lim:=by have:=zeS (l:=cur) (x:=x) (by rw[hxr];simp);simp only[Lim];omega
  obtain⟨hg,hle⟩:=ha.get (a:=[]) (x:=x) (r:=r) hxr
  simp only[Al3,Nat.zero_mul,Nat.add_zero] at hg hle
  have hcl:cur.length=r.length+1:=by rw[hxr];rfl
  have hpos:((0:Int)<(cur.length:Int))=True:=eq_true (by omega)
  have h1l:((1:Int)≤(cur.length:Int))=True:=eq_true (by omega)
  cases hbr:yQ x with
  | true =>
   obtain⟨off2,hcut,hat⟩:=AtR.front (b:=b) (cap:=cp) (by rw[← hxr];exact ha) (by omega)
   rw[← hcl] at hcut
   simp(disch:=first|omega|assumption) only[hpos,hbX,hg,hle,Nat.zero_mul,Nat.add_zero,go_sem]
   refine zb (zcH x hxl) ?_
   simp(disch:=first|omega|assumption) only[hbr,hpos,h1l,hcut,go_sem]
   refine goJ (hJ (off2,cp-1,r) H3 (by simp only;omega) ⟨rfl,hat,by simp only;omega,by rw[← hdw,hxr];simp[hbr],by rw[hxr,Yq] at hw;simp only;omega⟩) (by simp(disch:=first|omega|assumption) only[go_sem])
  | false =>
   have hDc:D.dropWhile yQ=cur:=by rw[← hdw,hxr];simp[hbr]
   simp(disch:=first|omega|assumption) only[hpos,hbX,hg,hle,Nat.zero_mul,Nat.add_zero,go_sem]
   refine zb (zcH x hxl) ?_
   simp(disch:=first|omega|assumption) only[hbr,go_sem]
   refine yB (fun x:List (List UInt8)=>[(3,.ms b off x.length cp)]) (fun x H'=>H'=H3∧AtR cells off x∧zeH x=zeH cur∧wL x≤wL D∧x.length≤cp) (fun x=>x.length) cur (by simp(disch:=first|omega|assumption) only[go_sem]) ⟨rfl,ha,rfl,hw,hcp⟩ ?_
   rintro u H4 J4 ⟨rfl,ha4,ht4,hw4,hc4⟩ hJ4
   by_cases hu:u=[]
   ·subst hu
    simp(disch:=first|omega|assumption) only[Al3,go_sem]
    refine ze2 hbX (by decide) (by have:=ha4.le;simpa using this) ?_
    have hr:=ha4.rows
    simp only[Al3] at hr
    simp(disch:=first|omega|assumption) only[hr,go_sem]
    refine zb (zaP [] [10] (by simp[Lib.join]) (by simp)) ?_
    have e:Zw raw=Lib.join [] [10]:=by
     unfold Zw;rw[hDM,hDc,← ht4];rfl
    simp(disch:=first|omega|assumption) only[go_sem]
    exact hQ _ _ _ _ nofun rfl (by simp[zc,zd,AV.strip,AV.strip1,e])
   obtain⟨q,y,hqy⟩:=znJ hu
   have hyl:y.length≤Lim:=by have:=zeS (l:=u) (x:=y) (by rw[hqy];simp);simp only[Lim];omega
   obtain⟨hg4,hle4⟩:=ha4.get (a:=q) (x:=y) (r:=[]) hqy
   have hul:u.length=q.length+1:=by rw[hqy];simp
   have hpos4:((0:Int)<(u.length:Int))=True:=eq_true (by omega)
   have wq:IntKind.wrap .i64 ((u.length:Int)-1)=(q.length:Int):=by rw[wrap64 (by omega) (by have:=zfg u;omega)];omega
   have h1q:((q.length:Int)<(u.length:Int))=True:=eq_true (by omega)
   have h2q:((q.length:Int)≤(u.length:Int))=True:=eq_true (by omega)
   cases hby:yQ y with
   | true =>
    simp(disch:=first|omega|assumption) only[hpos4,wq,h1q,hbX,hg4,hle4,go_sem]
    refine zb (zcH y hyl) ?_
    have hcut:=zgo (b:=b) (off:=off) (cap:=cp) (show q.length≤u.length by omega)
    simp(disch:=first|omega|assumption) only[hby,wq,h1q,h2q,hcut,go_sem]
    refine goJ (hJ4 q H4 (by omega) ⟨rfl,AtR.back (x:=y) (by rw[← hqy];exact ha4),by rw[← ht4,hqy,zbM,hby];rfl,by rw[hqy,zmy] at hw4;omega,by omega⟩) (by simp(disch:=first|omega|assumption) only[go_sem])
   | false =>
    have hlen:=zfg u
    simp(disch:=first|omega|assumption) only[hpos4,wq,h1q,hbX,hg4,hle4,go_sem]
    refine zb (zcH y hyl) ?_
    simp(disch:=first|omega|assumption) only[hby,go_sem]
    refine ze2 hbX (by decide) (by have:=ha4.le;omega) ?_
    have hr:=ha4.rows
    have hj:=zgk u
    simp(disch:=first|omega|assumption) only[hr,go_sem]
    refine zb (zaP u [10] (by omega) (by omega)) ?_
    have e:Zw raw=Lib.join u [10]:=by
     unfold Zw;rw[hDM,hDc,← ht4,hqy,zbM,hby];rfl
    simp(disch:=first|omega|assumption) only[go_sem]
    exact hQ _ _ _ _ nofun rfl (by simp[zc,zd,AV.strip,AV.strip1,e])
 case pos =>
  obtain⟨n,hne⟩:∃ n:Nat,indM (yo raw)=n:=⟨(indM (yo raw)).toNat,by omega⟩
  have hnl:n≤1099511627777:=by
   by_cases hall:∀ s∈(yo raw).tail,yQ s=true
   ·have:∀(l:List (List UInt8)),(∀ s∈l,yQ s=true)→zdO l (-1)=-1:=by
     intro l
     induction l with
     | nil=>intro _;rfl
     | cons a l ih=>intro h;simp only[zdO,h a (.head _),if_true];exact ih fun s hs=>h s (.tail _ hs)
    have:=this _ hall
    have e:indM (yo raw)=zdO (yo raw).tail (-1):=rfl
    omega
   ·obtain⟨s,hs⟩:=Classical.not_forall.1 hall
    obtain⟨hs,hb2⟩:=Classical.not_imp.1 hs
    have h1:=(znz (yo raw).tail (-1)).2 s hs (by simpa using hb2)
    have h2:=zeS (List.mem_of_mem_tail hs)
    have h3:zaR s≤s.length:=(List.takeWhile_sublist _).length_le
    have e:indM (yo raw)=zdO (yo raw).tail (-1):=rfl
    omega
  have hL2:=hL
  rw[hL] at hLl hw0
  have hcap0:=hcap
  rw[hL] at hb hcap0
  have hn':((0:Int)<(n:Int))=True:=eq_true (by omega)
  rw[hne]
  simp(disch:=first|omega|assumption) only[hn',go_sem]
  refine yB (fun x:List (List UInt8)×List (List UInt8)=>[(5,.int .i64 ((x.1.length:Int)+1))]) (fun x H'=>T=x.1++x.2∧H' b=some (.cells (ZS (x0::(x.1.map (fun s=>s.drop n)++x.2))++tl))) (fun x=>x.2.length) ([],T) (by simp(disch:=first|omega|assumption) only[Al3,go_sem]) ⟨rfl,by simpa using hb⟩ ?_
  rintro⟨dn,rest⟩ H3 J3 ⟨hT,hb3⟩ hJ3
  simp only at hT hb3
  have hll:(yo raw).length=dn.length+rest.length+1:=by rw[hL,hT];simp
  cases rest with
  | nil =>
   have hlt:¬ ((dn.length:Int)+1<((yo raw).length:Int)):=by simp at hll;omega
   obtain⟨D,hDd⟩:∃ D,D=x0::T.map fun s=>s.drop n:=⟨_,rfl⟩
   have hDM:zdA (yo raw)=D:=by
    conv=>lhs;rw[hL]
    simp only[zdA]
    rw[← hL,hne,hDd];rfl
   have hDl:D.length=(yo raw).length:=by rw[hDd,hL];simp
   have hbX:H3 b=some (.cells (ZS D++tl)):=by
    rw[hb3,hDd,hT];simp
   obtain⟨cells,hcells⟩:∃ cells,cells=ZS D++tl:=⟨_,rfl⟩
   rw[← hcells] at hbX
   have hwD:wL D≤1099511627777:=by
    have:=zjD n T
    rw[hDd,Yq];rw[Yq] at hw0;omega
   have hcap:D.length+tl.length=cap:=by rw[hDl];exact hcap
   clear hJ3 hb3
   simp(disch:=first|omega|assumption) only[hlt,go_sem]
   refine yB (fun x:Nat×Nat×List (List UInt8)=>[(3,.ms b x.1 x.2.2.length x.2.1)]) (fun x H'=>H'=H3∧AtR cells x.1 x.2.2∧x.2.2.length≤x.2.1∧x.2.2.dropWhile yQ=D.dropWhile yQ∧wL x.2.2≤wL D) (fun x=>x.2.2.length) (0,cap,D) (by simp(disch:=first|omega|assumption) only[hDl,go_sem]) ⟨rfl,⟨[],tl,by rw[hcells,Zy],rfl⟩,by simp only;omega,rfl,Al4 _⟩ ?_
   rintro⟨off,cp,cur⟩ H5 J5 ⟨rfl,ha,hcp,hdw,hw⟩ hJ5
   simp only at ha hcp hdw hw
   have stage2:∀ K:Unit,cur=D.dropWhile yQ→True:=fun _ _=>trivial
   by_cases hcur:cur=[]
   case pos =>
    subst hcur
    have hD:D.dropWhile yQ=[]:=by rw[← hdw];rfl
    simp(disch:=first|omega|assumption) only[Al3,go_sem]
    refine yB (fun x:Unit=>[]) (fun x H'=>H'=H5) (fun x=>0) () (by simp(disch:=first|omega|assumption) only[Al3,go_sem]) rfl ?_
    rintro⟨⟩ H4 J4 rfl hJ4
    simp(disch:=first|omega|assumption) only[Al3,go_sem]
    refine ze2 hbX (by decide) (by have:=ha.le;simpa using this) ?_
    have hr:=ha.rows
    simp only[Al3] at hr
    simp(disch:=first|omega|assumption) only[hr,go_sem]
    refine zb (zaP [] [10] (by simp[Lib.join]) (by simp)) ?_
    have e:Zw raw=Lib.join [] [10]:=by
     unfold Zw;rw[hDM,hD];rfl
    simp(disch:=first|omega|assumption) only[go_sem]
    exact hQ _ _ _ _ nofun rfl (by simp[zc,zd,AV.strip,AV.strip1,e])
   obtain⟨x,r,hxr⟩:∃ x r,cur=x::r:=by cases cur with|nil=>exact absurd rfl hcur|cons x r=>exact⟨x,r,rfl⟩
   have hxl:x.length≤Lim:=by have:=zeS (l:=cur) (x:=x) (by rw[hxr];simp);simp only[Lim];omega
   obtain⟨hg,hle⟩:=ha.get (a:=[]) (x:=x) (r:=r) hxr
   simp only[Al3,Nat.zero_mul,Nat.add_zero] at hg hle
   have hcl:cur.length=r.length+1:=by rw[hxr];rfl
   have hpos:((0:Int)<(cur.length:Int))=True:=eq_true (by omega)
   have h1l:((1:Int)≤(cur.length:Int))=True:=eq_true (by omega)
   cases hbr:yQ x with
   | true =>
    obtain⟨off2,hcut,hat⟩:=AtR.front (b:=b) (cap:=cp) (by rw[← hxr];exact ha) (by omega)
    rw[← hcl] at hcut
    simp(disch:=first|omega|assumption) only[hpos,hbX,hg,hle,Nat.zero_mul,Nat.add_zero,go_sem]
    refine zb (zcH x hxl) ?_
    simp(disch:=first|omega|assumption) only[hbr,hpos,h1l,hcut,go_sem]
    refine goJ (hJ5 (off2,cp-1,r) H5 (by simp only;omega) ⟨rfl,hat,by simp only;omega,by rw[← hdw,hxr];simp[hbr],by rw[hxr,Yq] at hw;simp only;omega⟩) (by simp(disch:=first|omega|assumption) only[go_sem])
   | false =>
    have hDc:D.dropWhile yQ=cur:=by rw[← hdw,hxr];simp[hbr]
    simp(disch:=first|omega|assumption) only[hpos,hbX,hg,hle,Nat.zero_mul,Nat.add_zero,go_sem]
    refine zb (zcH x hxl) ?_
    simp(disch:=first|omega|assumption) only[hbr,go_sem]
    refine yB (fun x:List (List UInt8)=>[(3,.ms b off x.length cp)]) (fun x H'=>H'=H5∧AtR cells off x∧zeH x=zeH cur∧wL x≤wL D∧x.length≤cp) (fun x=>x.length) cur (by simp(disch:=first|omega|assumption) only[go_sem]) ⟨rfl,ha,rfl,hw,hcp⟩ ?_
    rintro u H4 J4 ⟨rfl,ha4,ht4,hw4,hc4⟩ hJ4
    by_cases hu:u=[]
    ·subst hu
     simp(disch:=first|omega|assumption) only[Al3,go_sem]
     refine ze2 hbX (by decide) (by have:=ha4.le;simpa using this) ?_
     have hr:=ha4.rows
     simp only[Al3] at hr
     simp(disch:=first|omega|assumption) only[hr,go_sem]
     refine zb (zaP [] [10] (by simp[Lib.join]) (by simp)) ?_
     have e:Zw raw=Lib.join [] [10]:=by
      unfold Zw;rw[hDM,hDc,← ht4];rfl
     simp(disch:=first|omega|assumption) only[go_sem]
     exact hQ _ _ _ _ nofun rfl (by simp[zc,zd,AV.strip,AV.strip1,e])
    obtain⟨q,y,hqy⟩:=znJ hu
    have hyl:y.length≤Lim:=by have:=zeS (l:=u) (x:=y) (by rw[hqy];simp);simp only[Lim];omega
    obtain⟨hg4,hle4⟩:=ha4.get (a:=q) (x:=y) (r:=[]) hqy
    have hul:u.length=q.length+1:=by rw[hqy];simp
    have hpos4:((0:Int)<(u.length:Int))=True:=eq_true (by omega)
    have wq:IntKind.wrap .i64 ((u.length:Int)-1)=(q.length:Int):=by rw[wrap64 (by omega) (by have:=zfg u;omega)];omega
    have h1q:((q.length:Int)<(u.length:Int))=True:=eq_true (by omega)
    have h2q:((q.length:Int)≤(u.length:Int))=True:=eq_true (by omega)
    cases hby:yQ y with
    | true =>
     simp(disch:=first|omega|assumption) only[hpos4,wq,h1q,hbX,hg4,hle4,go_sem]
     refine zb (zcH y hyl) ?_
     have hcut:=zgo (b:=b) (off:=off) (cap:=cp) (show q.length≤u.length by omega)
     simp(disch:=first|omega|assumption) only[hby,wq,h1q,h2q,hcut,go_sem]
     refine goJ (hJ4 q H4 (by omega) ⟨rfl,AtR.back (x:=y) (by rw[← hqy];exact ha4),by rw[← ht4,hqy,zbM,hby];rfl,by rw[hqy,zmy] at hw4;omega,by omega⟩) (by simp(disch:=first|omega|assumption) only[go_sem])
    | false =>
     have hlen:=zfg u
     simp(disch:=first|omega|assumption) only[hpos4,wq,h1q,hbX,hg4,hle4,go_sem]
     refine zb (zcH y hyl) ?_
     simp(disch:=first|omega|assumption) only[hby,go_sem]
     refine ze2 hbX (by decide) (by have:=ha4.le;omega) ?_
     have hr:=ha4.rows
     have hj:=zgk u
     simp(disch:=first|omega|assumption) only[hr,go_sem]
     refine zb (zaP u [10] (by omega) (by omega)) ?_
     have e:Zw raw=Lib.join u [10]:=by
      unfold Zw;rw[hDM,hDc,← ht4,hqy,zbM,hby];rfl
     simp(disch:=first|omega|assumption) only[go_sem]
     exact hQ _ _ _ _ nofun rfl (by simp[zc,zd,AV.strip,AV.strip1,e])
  | cons y r =>
   have hlt:((dn.length:Int)+1<((yo raw).length:Int))=True:=eq_true (by simp at hll;omega)
   have hcur:x0::(dn.map (fun s=>s.drop n)++y::r)=(x0::dn.map (fun s=>s.drop n))++y::r:=rfl
   have hg:=zk6 hcur tl
   have hle:=znH hcur tl
   have hal:(x0::dn.map (fun s=>s.drop n)).length=dn.length+1:=by simp
   have hst:∀ z,splice (ZS (x0::(dn.map (fun s=>s.drop n)++y::r))++tl) (0+(dn.length+1)*1) [.str z]=ZS (x0::(dn.map (fun s=>s.drop n)++z::r))++tl:=fun z=>by
    have:=zqb (x0::dn.map (fun s=>s.drop n)) y z r tl
    rw[hal] at this
    exact this
   rw[hal] at hg hle
   have h1:((dn.length:Int)+1).toNat=dn.length+1:=by omega
   have hy0:((0:Int)≤(y.length:Int))=True:=eq_true (by omega)
   have hln:dn.length≤1099511627777:=by omega
   by_cases hmin:(y.length:Int)<(n:Int)
   ·have hdr:y.drop y.length=y.drop n:=by rw[List.drop_length,List.drop_eq_nil_of_le (by omega)]
    simp(disch:=first|omega|assumption) only[hlt,h1,hb3,hg,hle,hst,hmin,hy0,List.drop_length,go_sem]
    refine goJ (hJ3 (dn++[y],r) _ (by simp) ⟨by rw[hT];simp,?_⟩) (by simp(disch:=first|omega|assumption) only[wrap64,Al5,Al2,Al3,Int.natCast_add,go_sem])
    rw[upd_same]
    simp[List.drop_eq_nil_of_le (show y.length≤n by omega)]
   ·have hny:((n:Int)≤(y.length:Int))=True:=eq_true (by omega)
    have hn0:((0:Int)≤(n:Int))=True:=eq_true (by omega)
    simp(disch:=first|omega|assumption) only[hlt,h1,hb3,hg,hle,hst,hmin,hny,hn0,go_sem]
    refine goJ (hJ3 (dn++[y],r) _ (by simp) ⟨by rw[hT];simp,?_⟩) (by simp(disch:=first|omega|assumption) only[wrap64,Al5,Al2,Al3,Int.natCast_add,go_sem])
    rw[upd_same]
    simp
end Go.Proofs.YticbbfbpeimkbaaGreatDoor
set_option maxRecDepth 1000000
namespace Go.Proofs.YticbbfbpeimkbaaGreatDoor
open Go.Shelf Go.RowKit Go.Lib
section
variable {P:Program} {ρ:Ren}
def eol:ByteArray:=⟨#[13,10]⟩
theorem zkN (w:World) (k:Nat) (s:ByteArray) (pos:Nat) (ty:TypeId) (hk:w.heap[k]?=some (.stringIter s pos)) (h:pos<s.size) :
  (Instr.next (.pointer (some ⟨k,0,none⟩)) true ty).run P w =
   .ok (.tuple #[.bool true,.int .i64 pos,.int .i32 (Utf8.decode s pos).1]) { w with heap:=w.heap.setIfInBounds k (.stringIter s (pos+(Utf8.decode s pos).2)) }:=by
 simp only[Instr.next,getObj,setObj,Sem.run_bind,Sem.run,hk,Result.andThen,h,if_true]
 simp[goInt]
theorem zhK (w:World) (k:Nat) (s:ByteArray) (pos:Nat) (ty:TypeId) (hk:w.heap[k]?=some (.stringIter s pos)) (h:¬ pos<s.size) :
  (Instr.next (.pointer (some ⟨k,0,none⟩)) true ty).run P w=.ok (.tuple #[.bool false]) w:=by
 simp[Instr.next,getObj,Sem.run,hk,h]
set_option maxHeartbeats 4000000 in
theorem zjS (L:Lays.n152 P ρ) (w:World) :
  Calls P (ρ.f 152) #[.string eol,.int .i32 65533] w fun e w'=>e=.returned (.int .i64 (-1))∧Below w.heap.size w w':=by
 have t3:=L.t3;have a3:=L.a3;have z3:=L.z3;have v3:=L.v3
 have t4:=L.t4;have a4:=L.a4;have z4:=L.z4;have v4:=L.v4
 have t5:=L.t5;have a5:=L.a5;have z5:=L.z5;have v5:=L.v5
 have t9:=L.t9;have a9:=L.a9;have z9:=L.z9;have v9:=L.v9
 have t21:=L.t21;have a21:=L.a21;have z21:=L.z21;have v21:=L.v21
 have hsz:eol.size=2:=rfl
 go_enter L.f152,Body.n152_ntmps ρ
 go_wp2
 go_loopg [5,6] 2 (fun g _ _ wx=>∃ i:Nat,i+g=2∧wx=w.iter eol i)
 case atStart=>exact⟨0,by omega,rfl⟩
 case round =>
  obtain⟨i,hig,rfl⟩:=hrel
  cases gk with
  | zero =>
   obtain rfl:i=2:=by omega
   have hnx:=fun ty=>run_next_end (P:=P) w eol 2 ty (by decide)
   go_wp2
   go_ret
   exact⟨rfl,(Below.refl _ _).alloc (Al4 _) _⟩
  | succ g =>
   obtain⟨x,hx⟩:∃ x:UInt8,eol[i]'(by rw[hsz];omega)=x:=⟨_,rfl⟩
   have hxl:x.toNat=13∨x.toNat=10:=by
    rcases(by omega:i=0∨i=1) with rfl|rfl
    ·left;rw[← hx];rfl
    ·right;rw[← hx];rfl
   have hnx:=fun ty=>run_next_ascii (P:=P) w eol i ty (by rw[hsz];omega) (by rw[hx];omega)
   rw[hx] at hnx
   have hne:¬ ((x.toNat:Int)=65533):=by omega
   clear hx hxl
   go_wp2
   go_roundg g
   case measure=>omega
   case rel=>exact⟨i+1,by omega,rfl⟩
set_option maxHeartbeats 8000000 in
theorem zhB (L:Lays.n152 P ρ) (r:Int) (h0:128≤r) (h1:r≠65533) (w:World) :
  Calls P (ρ.f 152) #[.string eol,.int .i32 r] w fun e w'=>e=.returned (.int .i64 (-1))∧Below w.heap.size w w':=by
 have t3:=L.t3;have a3:=L.a3;have z3:=L.z3;have v3:=L.v3
 have t4:=L.t4;have a4:=L.a4;have z4:=L.z4;have v4:=L.v4
 have t5:=L.t5;have a5:=L.a5;have z5:=L.z5;have v5:=L.v5
 have t9:=L.t9;have a9:=L.a9;have z9:=L.z9;have v9:=L.v9
 have t21:=L.t21;have a21:=L.a21;have z21:=L.z21;have v21:=L.v21
 have hsz:eol.size=2:=rfl
 have mixed:=L.mixed
 have u21:=run_underlying L.t21;have u9:=run_underlying L.t9
 have e137:∀ args w,(callFunc (ρ.f 137) args).run P w=.ok (.enter (ρ.f 137) args) w:=enters_of L.f137 (by kernel_rfl) rfl
 have e119:∀ args w,(callFunc (ρ.f 119) args).run P w=.ok (.enter (ρ.f 119) args) w:=enters_of L.f119 (by kernel_rfl) rfl
 have hr1:¬ (r<128):=by omega
 cases hv:Lib.validRune r with
 | false =>
  go_enter L.f152,Body.n152_ntmps ρ
  go_wp2_with (go_at_fn (ρ.f 119);refine(Any.utf8_ValidRune { L with } _ _).mono ?_;rintro e w' ⟨rfl,hw⟩;rw[hw,hv])
  go_ret
  exact⟨rfl,Below.refl _ _⟩
 | true =>
  have hv':Utf8.valid r=true:=by
   unfold Lib.validRune at hv
   unfold Utf8.valid
   simp only[Bool.or_eq_true,Al0,decide_eq_true_eq] at hv ⊢
   omega
  obtain⟨f1,f2,f3⟩:=encode_facts r hv' h0
  clear hv'
  obtain⟨rs,hrs⟩:∃ rs,Utf8.encode r=rs:=⟨_,rfl⟩
  rw[hrs] at f1 f2 f3
  have hconv:∀ w,(convert (ρ.t 21) (ρ.t 9) (.int .i32 r)).run P w=.ok (.string rs) w:=fun w=>by
   rw[run_convert_int_string w _ _ _ _ (by rw[t21];rfl) t9,hrs]
  have hlast:IntKind.i64.wrap ((rs.size:Int)-1)=(rs.size:Int)-1:=wrap_small _ (by omega) (by omega)
  clear hrs
  by_cases h2:rs.size=2
  ·obtain⟨b0,b1,rfl⟩:∃ b0 b1,rs=⟨#[b0,b1]⟩:=by
    obtain⟨⟨l⟩⟩:=rs
    match l,h2 with
    | [x,y],_=>exact⟨x,y,rfl⟩
   have hb:128≤b1.toNat:=f3 (by show 1<2;decide)
   have hz:(⟨#[b0,b1]⟩:ByteArray).size=2:=rfl
   have hne:¬ ((10:Int)=(b1.toNat:Int)):=by omega
   clear f1 f2 f3 h2
   rw[hz] at hlast
   go_enter L.f152,Body.n152_ntmps ρ
   go_wp2_with (go_at_fn (ρ.f 119);refine(Any.utf8_ValidRune { L with } _ _).mono ?_;rintro e w' ⟨rfl,hw⟩;rw[hw,hv])
   go_step3
   go_wp2
   go_loopg [9,10] 0 (fun g s9 s10 wx=>s9=.int .i64 1∧s10=.int .i64 0∧wx=w)
   case atStart=>exact⟨rfl,rfl,rfl⟩
   case round =>
    obtain⟨rfl,rfl,rfl⟩:=hrel
    go_wp2
    go_step3
    have hx:eol[1]'(by decide)=10:=rfl
    have hy:(⟨#[b0,b1]⟩:ByteArray)[1]'(by show 1<2;decide)=b1:=rfl
    go_wp2
    go_quiet_o (fail)
    go_wp2
    have hsl:∀ w,(Instr.slice (ρ.t 9) (.string eol) (some (.int .i64 2)) none none).run P w=.ok (.string ⟨#[]⟩) w:=fun w=>by
     rw[run_slice_string_from_if w _ eol .i64 2 t9]
     rfl
    generalize hW:World.drewN _ _=W
    have HW:Aside (∃ n,W=wr.drewN n):=⟨_,hW.symm⟩
    clear hW
    have hw2:IntKind.i64.wrap 2=2:=by decide
    go_quiet_o (first|(go_at_fn (ρ.f 137);refine Calls.quiet_of_same (Any.strings_IndexByte { L with } _ _ _)))
    go_wp2
    rw[Exit.noGoto_ret]
    go_wp2
    (try rw[Exit.noGoto_ret])
    (try go_wp2)
    go_ret
    obtain⟨n,rfl⟩:=HW.out
    exact⟨rfl,⟨rfl,rfl,rfl,Al4 _,fun _ _=>rfl⟩⟩
  ·have hlt:¬ ((rs.size:Int)-1<2):=by omega
   go_enter L.f152,Body.n152_ntmps ρ
   go_wp2_with (go_at_fn (ρ.f 119);refine(Any.utf8_ValidRune { L with } _ _).mono ?_;rintro e w' ⟨rfl,hw⟩;rw[hw,hv])
   go_step3
   go_wp2
   go_loopg [9,10] 0 (fun g s9 s10 wx=>s9=.int .i64 ((rs.size:Int)-1)∧s10=.int .i64 0∧wx=w)
   case atStart=>exact⟨rfl,rfl,rfl⟩
   case round =>
    obtain⟨rfl,rfl,rfl⟩:=hrel
    go_wp2
    rw[Exit.noGoto_ret];go_wp2
    go_ret
    exact⟨rfl,Below.refl _ _⟩
theorem zj8 (s:ByteArray) (i:Nat) (h:i<s.size):s.data.toList[i]?=some (s.get! i):=by
 rw[Lib.data_getElem? s i h]
 simp[ByteArray.get!,getElem!_pos,h]
 rfl
theorem zfi (s:ByteArray) (pos:Nat) (h:pos<s.size) (ha:128≤(s.get! pos).toNat) :
  128≤(Utf8.decode s pos).1∧1≤(Utf8.decode s pos).2∧pos+(Utf8.decode s pos).2≤s.size∧∀ j,j<(Utf8.decode s pos).2→128≤(s.get! (pos+j)).toNat:=by
 have hn:¬ (s.get! (pos+0)).toNat<128:=by simpa using ha
 have h1:∀(c:Nat),128≤c→128≤(c,1).1∧1≤(c,1).2∧pos+(c,1).2≤s.size∧∀ j,j<(c,1).2→128≤(s.get! (pos+j)).toNat:=fun c hc =>
  ⟨hc,Al4 _,by show pos+1≤s.size;omega,fun j hj=>by
   have hj:j<1:=hj
   obtain rfl:j=0:=by omega
   simpa using ha⟩
 have hb:∀ k,(s.get! (pos+k)).toNat / 64=2→128≤(s.get! (pos+k)).toNat:=fun k hk=>by omega
 simp only[Utf8.decode,hn,if_false,Utf8.runeError]
 split
 ·rename_i hc
  simp only[Al0,beq_iff_eq,decide_eq_true_eq] at hc
  split
  ·rename_i h2
   refine⟨h2,by show 1≤2;omega,by show pos+2≤s.size;omega,fun j hj=>?_⟩
   have hj:j<2:=hj
   rcases(by omega:j=0∨j=1) with rfl|rfl
   ·simpa using ha
   ·exact hb 1 hc.2.2
  ·exact h1 _ (by decide)
 split
 ·rename_i hc
  simp only[Al0,beq_iff_eq,decide_eq_true_eq] at hc
  split
  ·rename_i h2
   simp only[Al0,decide_eq_true_eq] at h2
   refine⟨by have:=h2.1;show 128≤_;simp only;omega,by show 1≤3;omega,by show pos+3≤s.size;omega,fun j hj=>?_⟩
   have hj:j<3:=hj
   rcases(by omega:j=0∨j=1∨j=2) with rfl|rfl|rfl
   ·simpa using ha
   ·exact hb 1 hc.1.2.2
   ·exact hb 2 hc.2.2
  ·exact h1 _ (by decide)
 split
 ·rename_i hc
  simp only[Al0,beq_iff_eq,decide_eq_true_eq] at hc
  split
  ·rename_i h2
   simp only[Al0,decide_eq_true_eq] at h2
   refine⟨by have:=h2.1;show 128≤_;simp only;omega,by show 1≤4;omega,by show pos+4≤s.size;omega,fun j hj=>?_⟩
   have hj:j<4:=hj
   rcases(by omega:j=0∨j=1∨j=2∨j=3) with rfl|rfl|rfl|rfl
   ·simpa using ha
   ·exact hb 1 hc.1.1.2.2
   ·exact hb 2 hc.1.2.2
   ·exact hb 3 hc.2.2
  ·exact h1 _ (by decide)
 ·exact h1 _ (by decide)
theorem zq3 {s:ByteArray} {i k:Nat} (h:NoAny s.data.toList eol.data.toList i) (hk:i+k≤s.size) (hb:∀ j,j<k→128≤(s.get! (i+j)).toNat):NoAny s.data.toList eol.data.toList (i+k):=fun j b hj hjb=>by
 by_cases hlt:j<i
 ·exact h j b hlt hjb
 ·have h1:=hb (j-i) (by omega)
  rw[show i+(j-i)=j by omega] at h1
  rw[zj8 s j (by omega)] at hjb
  cases hjb
  show ([13,10]:List UInt8).contains _=false
  simp only[List.contains_cons,List.contains_nil,Bool.or_false,Bool.or_eq_false_iff,beq_eq_false_iff_ne]
  refine⟨fun e=>?_,fun e=>?_⟩<;>(rw[e] at h1;simp at h1)
set_option maxHeartbeats 8000000 in
theorem zd6 (L:Lays.n153 P ρ) (s:ByteArray) (w:World) (h8:s.size≤8) :
  Calls P (ρ.f 153) #[.string s,.string eol] w fun e w'=>e=.returned (.int .i64 (Lib.indexAny s.data.toList eol.data.toList))∧Below w.heap.size w w':=by
 have hemp:eol.toList.isEmpty=false:=by rw[Lib.toList_data];rfl
 have hn0:(eol.size:Int)=2:=rfl
 have hn1:((eol.size:Int)==1)=false:=rfl
 have h8z:decide ((8:Int)<(s.size:Int))=false:=decide_eq_false (by omega)
 have t3:=L.t3;have a3:=L.a3;have z3:=L.z3;have v3:=L.v3
 have t4:=L.t4;have a4:=L.a4;have z4:=L.z4;have v4:=L.v4
 have t5:=L.t5;have a5:=L.a5;have z5:=L.z5;have v5:=L.v5
 have t9:=L.t9;have a9:=L.a9;have z9:=L.z9;have v9:=L.v9
 have t21:=L.t21;have a21:=L.a21;have z21:=L.z21;have v21:=L.v21
 have e152:∀ args w,(callFunc (ρ.f 152) args).run P w=.ok (.enter (ρ.f 152) args) w:=enters_of L.f152 (by kernel_rfl) rfl
 have e226:∀ args w,(callFunc (ρ.f 226) args).run P w=.ok (.enter (ρ.f 226) args) w:=enters_of L.f226 (by kernel_rfl) rfl
 go_enter L.f153,Body.n153_ntmps ρ
 go_wp2_with (go_at_fn (ρ.f 226);refine(Any.strings_shouldUseASCIISet { L with } _ _).mono ?_;rintro e w' ⟨rfl,hw⟩;rw[hw,h8z])
 go_loopg [9,10] s.size (fun g _ _ wx=>∃ i:Nat,i+g=s.size∧(wx.heap[w.heap.size]?=some (.stringIter s i)∧Below w.heap.size w wx)∧Lib.NoAny s.data.toList eol.data.toList i)
 case atStart=>exact⟨0,by omega,⟨World.iter_heap w s 0,(Below.refl _ _).alloc (Al4 _) _⟩,Lib.NoAny.zero _ _⟩
 case round =>
  obtain⟨i,hig,hst,hno⟩:=hrel
  obtain⟨hit,hbe⟩:=hst
  have HN:Aside (Lib.NoAny s.data.toList eol.data.toList i∧Below w.heap.size w wr):=⟨hno,hbe⟩
  clear hno hbe
  cases gk with
  | zero =>
   obtain rfl:i=s.size:=by omega
   have hnx:=fun ty=>zhK (P:=P) wr w.heap.size s s.size ty hit (by omega)
   go_wp2
   go_ret
   exact⟨by rw[Lib.indexAny_none (by rw[← Lib.size_eq];exact HN.out.1)];rfl,HN.out.2⟩
  | succ g =>
   have hi:i<s.size:=by omega
   have hnx:=fun ty=>zkN (P:=P) wr w.heap.size s i ty hit hi
   have hwlt:w.heap.size<wr.heap.size:=(Array.getElem?_eq_some_iff.1 hit).1
   have hst2:∀ k,({ wr with heap:=wr.heap.setIfInBounds w.heap.size (.stringIter s k) }:World).heap[w.heap.size]?=some (.stringIter s k):=fun k=>by
    show (wr.heap.setIfInBounds w.heap.size (.stringIter s k))[w.heap.size]?=_
    simp[hwlt]
   have hbl2:∀ k,Below w.heap.size w ({ wr with heap:=wr.heap.setIfInBounds w.heap.size (.stringIter s k) }:World):=fun k=>by
    have hb:=HN.out.2
    refine⟨hb.os,hb.tape,hb.output,by simpa using hb.size,fun n hn=>?_⟩
    show (wr.heap.setIfInBounds w.heap.size (.stringIter s k))[n]?=_
    rw[Array.getElem?_setIfInBounds_ne (by omega)]
    exact hb.block n hn
   have HB:Aside ((∀ k,({ wr with heap:=wr.heap.setIfInBounds w.heap.size (.stringIter s k) }:World).heap[w.heap.size]?=some (.stringIter s k))∧(∀ k,Below w.heap.size w ({ wr with heap:=wr.heap.setIfInBounds w.heap.size (.stringIter s k) }:World))∧w.heap.size<wr.heap.size):=⟨hst2,hbl2,hwlt⟩
   clear hst2 hbl2 hwlt hit
   by_cases ha:128≤(s.get! i).toNat
   ·obtain⟨d1,d2,d3,d4⟩:=zfi s i hi ha
    have HD:Aside (1≤(Utf8.decode s i).2∧i+(Utf8.decode s i).2≤s.size∧∀ j,j<(Utf8.decode s i).2→128≤(s.get! (i+j)).toNat):=⟨d2,d3,d4⟩
    clear d2 d3 d4 ha
    generalize hr:(Utf8.decode s i).1=r at hnx d1
    generalize hk:(Utf8.decode s i).2=k at hnx HD
    clear hr hk
    generalize hW:({ wr with heap:=wr.heap.setIfInBounds w.heap.size (.stringIter s (i+k)) }:World)=W at hnx
    have HW:Aside (W.heap[w.heap.size]?=some (.stringIter s (i+k))∧Below w.heap.size w W):=⟨by rw[← hW];exact HB.out.1 _,by rw[← hW];exact HB.out.2.1 _⟩
    clear hW
    have hru:Calls P (ρ.f 152) #[.string eol,.int .i32 (r:Int)] W fun e w'=>e=.returned (.int .i64 (-1))∧Below W.heap.size W w':=by
     by_cases he:(r:Int)=65533
     ·rw[he];exact zjS { L with } W
     ·exact zhB { L with } _ (by omega) he W
    go_wp2_with (go_at_fn (ρ.f 152);refine hru.mono ?_;rintro e w' ⟨rfl,hw⟩)
    go_roundg (s.size-(i+k))
    case measure=>have:=HD.out.1;omega
    case rel =>
     obtain⟨g1,g2⟩:=HW.out
     obtain⟨f1,f2,f3⟩:=HD.out
     have hlt:w.heap.size<W.heap.size:=(Array.getElem?_eq_some_iff.1 g1).1
     exact⟨i+k,by omega,⟨by rw[hw.block _ hlt];exact g1,g2.trans (hw.mono (by omega))⟩,zq3 HN.out.1 f2 f3⟩
   ·have hx128:(s[i]'hi).toNat<128:=by
     have e:s.get! i=s[i]'hi:=get_at s i hi
     rw[← e];omega
    have hde:Utf8.decode s i=((s[i]'hi).toNat,1):=decode_ascii s i hi hx128
    obtain⟨x,hx⟩:∃ x:UInt8,s[i]'hi=x:=⟨_,rfl⟩
    have hxl:s.data.toList[i]?=some x:=by rw[← hx];exact Lib.data_getElem? s i hi
    have Hx:Aside (s.data.toList[i]?=some x):=hxl
    rw[hde,hx] at hnx
    rw[hx] at hx128
    clear hxl hx ha hde
    have hcon:=Lib.contains_iff_indexByte eol.data.toList x
    have hback:((x.toNat:Int)).toNat.toUInt8=x:=by simp
    generalize hW:({ wr with heap:=wr.heap.setIfInBounds w.heap.size (.stringIter s (i+1)) }:World)=W at hnx
    have HW:Aside (W.heap[w.heap.size]?=some (.stringIter s (i+1))∧Below w.heap.size w W):=⟨by rw[← hW];exact HB.out.1 _,by rw[← hW];exact HB.out.2.1 _⟩
    clear hW
    cases hin:eol.data.toList.contains x
    ·rw[hin] at hcon
     have hlt:¬ ((0:Int)≤Lib.indexByte eol.data.toList x):=of_decide_eq_false hcon.symm
     clear hcon
     go_wp2_with (go_at_fn (ρ.f 152);refine(Any.strings_IndexRune_ascii { L with } _ _ _ (by omega) (by omega)).mono ?_;rintro e w' ⟨rfl,hw⟩;rw[hw,hback])
     go_roundg g
     case measure=>omega
     case rel=>exact⟨i+1,by omega,HW.out,HN.out.1.succ Hx.out hin⟩
    ·rw[hin] at hcon
     have hge:(0:Int)≤Lib.indexByte eol.data.toList x:=of_decide_eq_true hcon.symm
     clear hcon
     go_wp2_with (go_at_fn (ρ.f 152);refine(Any.strings_IndexRune_ascii { L with } _ _ _ (by omega) (by omega)).mono ?_;rintro e w' ⟨rfl,hw⟩;rw[hw,hback])
     go_ret
     exact⟨by rw[Lib.indexAny_hit HN.out.1 Hx.out hin];rfl,HW.out.2⟩
end
end Go.Proofs.YticbbfbpeimkbaaGreatDoor
namespace Go.Proofs.YticbbfbpeimkbaaGreatDoor
open Go.Ab Go.Lib
theorem zrm (s:List UInt8) (hs:s.length≤4294967000):zq Tryz.prog 218 [.str s,.str [13,10]] (.int .i64 (Lib.indexAny s [13,10])):=by
 refine zq.of_below fun γ w vs ht hv=>?_
 obtain⟨hlv,hr⟩:=hv
 match vs,hlv with
 | [v,u],_ =>
  cases hr 0 _ _ rfl rfl
  cases hr 1 _ _ rfl rfl
  by_cases h8:s.length≤8
  ·exact(zd6 (P:=Tryz.prog) Tryz.lays153 ⟨s.toArray⟩ w (by simpa[ByteArray.size] using h8)).mono fun e w' ⟨he,hw⟩=>⟨hw,_,he,.int _ _⟩
  ·refine(Tryz.strings_IndexAny_long (zero_of_info (n:=256) (by kernel_rfl)).1 ⟨s.toArray⟩ ⟨#[13,10]⟩ w (by decide) (by simp only[ByteArray.size,List.size_toArray];omega) (by simp only[ByteArray.size,List.size_toArray];omega) (by decide) (fun j b hj=>?_)).mono fun e w' ⟨he,hw⟩=>⟨?_,_,he,.int _ _⟩
   ·have hj:([13,10]:List UInt8)[j]?=some b:=hj
    match j,hj with
    | 0,hj=>cases hj;decide
    | 1,hj=>cases hj;decide
    | j+2,hj=>simp at hj
   ·rw[hw]
    exact((Go.RowKit.Below.refl _ _).alloc (Al4 _) _).alloc (by simp) _
theorem zqC (r:List UInt8):Lib.indexAny r [13,10]=if r.all ZJ then -1 else ((r.takeWhile ZJ).length:Int):=by
 induction r with
 | nil=>rfl
 | cons c r ih =>
  rw[Lib.indexAny,ih]
  by_cases hc:ZJ c=true
  ·have h1:([13,10]:List UInt8).contains c=false:=by
    unfold ZJ at hc
    simp at hc
    simp[hc.1,hc.2]
   rw[h1]
   by_cases ha:r.all ZJ=true
   ·simp[ha,hc]
   ·have h2:¬ (((r.takeWhile ZJ).length:Int)=-1):=by omega
    simp[ha,hc,h2]
  ·have h1:([13,10]:List UInt8).contains c=true:=by
    unfold ZJ at hc
    simp at hc
    simp
    rcases Classical.em (c=13) with h|h
    ·exact .inl h
    ·exact .inr (Classical.byContradiction fun h10=>h (hc h10))
   rw[h1]
   simp[hc]
theorem zln {p:UInt8→Bool}:∀ r:List UInt8,r.all p=true→r.takeWhile p=r
 | [],_=>rfl
 | c::r,h=>by
  simp only[List.all_cons,Al0] at h
  rw[List.takeWhile_cons,if_pos h.1,zln r h.2]
theorem zdd (c:UInt8) (r:List UInt8):Ym (c::r)=if c=9∨c=10∨c=13∨c=32∨c=44 then 1 else if zju.isPrefixOf (c::r) then 3 else if c=35 then 1+(r.takeWhile ZJ).length else 0:=rfl
theorem zvD (c:UInt8) (r:List UInt8) (hs:(c::r).length≤1000000):zq Tryz.prog 123 [.str (c::r)] (.int .i64 (Ym (c::r))):=by
 refine zq.go ir123 ck123 (Al4 _) fun KP Q hQ=>?_
 have hl:((0:Int)<((c::r).length:Int))=True:=eq_true (by simp only[Al2];omega)
 by_cases hw:c=9∨c=10∨c=13∨c=32∨c=44
 ·have e:Ym (c::r)=1:=by rw[zdd,if_pos hw]
  rw[e] at hQ
  rcases hw with rfl|rfl|rfl|rfl|rfl
  ·have hc:((9:UInt8).toNat:Int)=9:=rfl
   simp(disch:=first|omega|assumption) only[ir123,hl,List.getD_cons_zero,hc,go_sem]
   exact hQ _ _ _ _ nofun rfl (by simp[zc,zd,AV.strip,AV.strip1])
  ·have hc:((10:UInt8).toNat:Int)=10:=rfl
   simp(disch:=first|omega|assumption) only[ir123,hl,List.getD_cons_zero,hc,go_sem]
   exact hQ _ _ _ _ nofun rfl (by simp[zc,zd,AV.strip,AV.strip1])
  ·have hc:((13:UInt8).toNat:Int)=13:=rfl
   simp(disch:=first|omega|assumption) only[ir123,hl,List.getD_cons_zero,hc,go_sem]
   exact hQ _ _ _ _ nofun rfl (by simp[zc,zd,AV.strip,AV.strip1])
  ·have hc:((32:UInt8).toNat:Int)=32:=rfl
   simp(disch:=first|omega|assumption) only[ir123,hl,List.getD_cons_zero,hc,go_sem]
   exact hQ _ _ _ _ nofun rfl (by simp[zc,zd,AV.strip,AV.strip1])
  ·have hc:((44:UInt8).toNat:Int)=44:=rfl
   simp(disch:=first|omega|assumption) only[ir123,hl,List.getD_cons_zero,hc,go_sem]
   exact hQ _ _ _ _ nofun rfl (by simp[zc,zd,AV.strip,AV.strip1])
 have nat:∀ k:Nat,(c.toNat:Int)=k→k<256→c=UInt8.ofNat k:=fun k h hk=>UInt8.toNat_inj.1 (by rw[UInt8.toNat_ofNat'];omega)
 have g9:¬ ((c.toNat:Int)=9):=fun e=>hw (.inl (nat 9 e (by decide)))
 have g10:¬ ((c.toNat:Int)=10):=fun e=>hw (.inr (.inl (nat 10 e (by decide))))
 have g13:¬ ((c.toNat:Int)=13):=fun e=>hw (.inr (.inr (.inl (nat 13 e (by decide)))))
 have g32:¬ ((c.toNat:Int)=32):=fun e=>hw (.inr (.inr (.inr (.inl (nat 32 e (by decide))))))
 have g44:¬ ((c.toNat:Int)=44):=fun e=>hw (.inr (.inr (.inr (.inr (nat 44 e (by decide))))))
 simp(disch:=first|omega|assumption) only[ir123,hl,List.getD_cons_zero,g9,g10,g13,g32,g44,go_sem]
 refine zb (za0 (c::r) [239,187,191]) ?_
 by_cases hb:([239,187,191]:List UInt8).isPrefixOf (c::r)=true
 ·have e:Ym (c::r)=3:=by rw[zdd,if_neg hw];exact if_pos hb
  rw[e] at hQ
  simp(disch:=first|omega|assumption) only[hb,go_sem]
  exact hQ _ _ _ _ nofun rfl (by simp[zc,zd,AV.strip,AV.strip1])
 have hb':([239,187,191]:List UInt8).isPrefixOf (c::r)=false:=Bool.eq_false_iff.2 hb
 by_cases h35:c=35
 ·subst h35
  have e:Ym (35::r)=1+(r.takeWhile ZJ).length:=by rw[zdd,if_neg hw,if_neg (show ¬ (zju.isPrefixOf _=true) from hb),if_pos rfl]
  rw[e] at hQ
  have hc:((35:UInt8).toNat:Int)=35:=rfl
  simp(disch:=first|omega|assumption) only[hb',hc,go_sem]
  have hp:=zrm (35::r) (by omega)
  rw[zqC] at hp
  have n35:ZJ 35=true:=rfl
  by_cases ha:r.all ZJ=true
  ·have e2:=zln r ha
   have e3:(35::r).all ZJ=true:=by rw[List.all_cons,n35,ha];rfl
   rw[if_pos e3] at hp
   refine zb hp ?_
   have h0:¬ ((0:Int)≤-1):=by decide
   simp(disch:=first|omega|assumption) only[h0,go_sem]
   exact hQ _ _ _ _ nofun rfl (by simp[zc,zd,AV.strip,AV.strip1,e2,Int.add_comm])
  ·have e3:¬ ((35::r).all ZJ=true):=by rw[List.all_cons,n35,Bool.true_and];exact ha
   have e2:((35::r).takeWhile ZJ).length=1+(r.takeWhile ZJ).length:=by rw[List.takeWhile_cons,if_pos n35];simp;omega
   rw[if_neg e3,e2] at hp
   refine zb hp ?_
   have h0:((0:Int)≤((1+(r.takeWhile ZJ).length:Nat):Int))=True:=eq_true (by omega)
   simp(disch:=first|omega|assumption) only[h0,go_sem]
   exact hQ _ _ _ _ nofun rfl (by simp[zc,zd,AV.strip,AV.strip1])
 ·have e:Ym (c::r)=0:=by rw[zdd,if_neg hw,if_neg (show ¬ (zju.isPrefixOf _=true) from hb),if_neg h35]
  rw[e] at hQ
  have g35:¬ ((c.toNat:Int)=35):=fun e=>h35 (nat 35 e (by decide))
  simp(disch:=first|omega|assumption) only[hb',g35,go_sem]
  exact hQ _ _ _ _ nofun rfl (by simp[zc,zd,AV.strip,AV.strip1])
theorem zlN (c:UInt8) (r:List UInt8):Zc (c::r)=if (isL c||isD c)=true then 1+Zc r else 0:=by
 unfold Zc
 rw[List.takeWhile_cons]
 split
 ·simp;omega
 ·rfl
theorem zt2 (s:List UInt8) (hs:s.length≤Lim) (h0:isL (s.getD 0 0)=true):zq Tryz.prog 224 [.str s] (.int .i64 (Zc s)):=by
 refine zq.go ir224 ck224 (Al4 _) fun KP Q hQ=>?_
 simp only[Lim] at hs
 have hr1:=zhv s
 simp(disch:=first|omega|assumption) only[ir224,go_sem]
 refine yB (fun n:Nat=>[(3,.int .i64 n)]) (fun n H=>Zc s=n+Zc (s.drop n)∧n≤s.length) (fun n=>s.length-n) 0 (by simp(disch:=first|omega|assumption) only[go_sem]) ⟨by simp,by omega⟩ ?_
 rintro n H J ⟨hn,hle⟩ hJ
 rcases zd3 s n with ⟨h1,h2⟩|⟨h1,h2⟩
 ·have hlt:¬ ((n:Int)<s.length):=by omega
  rw[h1] at hn
  simp only[Zc,List.takeWhile_nil,Al3,Nat.add_zero] at hn
  simp(disch:=first|omega|assumption) only[hlt,go_sem]
  exact hQ _ _ _ _ nofun rfl (by simp[zc,zd,AV.strip,AV.strip1,Zc,hn])
 ·have hlt:((n:Int)<s.length):=by omega
  rw[h2,zlN] at hn
  simp(disch:=first|omega|assumption) only[hlt,go_sem]
  refine zb (zgf (s.getD n 0)) ?_
  cases hl:isL (s.getD n 0) with
  | true =>
   simp only[hl,Bool.true_or,if_true] at hn
   simp(disch:=first|omega|assumption) only[hl,go_sem]
   exact goJ (hJ (n+1) _ (by omega) ⟨by omega,by omega⟩) (by simp(disch:=first|omega|assumption) only[wrap64,Int.natCast_add,Int.natCast_one,go_sem])
  | false =>
   have hn0:((0:Int)<(n:Int))=True:=eq_true (by
    rcases Nat.eq_zero_or_pos n with e|e
    ·subst e;rw[h0] at hl;cases hl
    ·omega)
   simp(disch:=first|omega|assumption) only[hl,hn0,hlt,go_sem]
   refine zb (zjY (s.getD n 0)) ?_
   cases hd:isD (s.getD n 0) with
   | true =>
    simp only[hl,hd,Bool.or_true,if_true] at hn
    simp(disch:=first|omega|assumption) only[hd,go_sem]
    exact goJ (hJ (n+1) _ (by omega) ⟨by omega,by omega⟩) (by simp(disch:=first|omega|assumption) only[wrap64,Int.natCast_add,Int.natCast_one,go_sem])
   | false =>
    simp only[hl,hd,Bool.or_false,Al7,if_false,Nat.add_zero] at hn
    simp(disch:=first|omega|assumption) only[hd,go_sem]
    exact hQ _ _ _ _ nofun rfl (by simp[zc,zd,AV.strip,AV.strip1,hn])
def zqD (n:Nat) (x:Option (List UInt8×List UInt8)):AV:=match x with
 | some (raw,t)=>.tup [.str (Zw raw),.int .i64 ((n-t.length:Nat):Int)]
 | none=>.tup [.str [],.int .i64 0]
theorem zdg:∀(n m:Nat) (raw t:List UInt8),t.length<n→t.length<m→Yg n raw t=Yg m raw t
 | 0,_,_,_,h,_=>absurd h (Nat.not_lt_zero _)
 | _,0,_,_,_,h=>absurd h (Nat.not_lt_zero _)
 | n+1,m+1,raw,[],_,_=>rfl
 | n+1,m+1,raw,c::r,h1,h2=>by
  simp only[Al2] at h1 h2
  simp only[Yg]
  rw[zdg n m (raw++yA) (r.drop 3) (by simp;omega) (by simp;omega),zdg n m (raw++[c]) r (by omega) (by omega)]
theorem zgS:∀(n:Nat) (raw t b t':List UInt8),Yg n raw t=some (b,t')→b.length+t'.length≤raw.length+t.length∧t'.length≤t.length
 | 0,_,_,_,_,h=>by cases h
 | n+1,raw,[],_,_,h=>by cases h
 | n+1,raw,c::r,b,t',h=>by
  simp only[Yg] at h
  split at h
  ·cases h;simp;omega
  split at h
  ·rename_i h2
   have hl:=Yd _ _ h2
   simp only[zkn,Al2,Al3] at hl
   have:=zgS n _ _ _ _ h
   simp[yA] at this ⊢;omega
  ·have:=zgS n _ _ _ _ h
   simp at this ⊢;omega
theorem zpM (s:List UInt8) (h3:3≤s.length) (hs:s.length≤zb8):zq Tryz.prog 219 [.str s] (zqD s.length (Yg (s.length-2) [] (s.drop 3))):=by
 refine zq.go ir219 ck219 (Al4 _) fun KP Q hQ=>?_
 simp only[zb8] at hs
 obtain⟨R,hR⟩:∃ R,Yg (s.length-2) [] (s.drop 3)=R:=⟨_,rfl⟩
 rw[hR] at hQ
 simp(disch:=first|omega|assumption) only[ir219,go_sem]
 refine yB (fun x:Own×List UInt8×Nat=>[(4,.sl x.1 1 (bytesOf x.2.1)),(5,.int .i64 x.2.2)]) (fun x H=>3≤x.2.2∧x.2.2≤s.length∧x.2.1.length+3≤x.2.2∧Yg ((s.drop x.2.2).length+1) x.2.1 (s.drop x.2.2)=R∧yg H x.1 x.2.1.length 1) (fun x=>s.length-x.2.2) (.nil,[],3) (by simp(disch:=first|omega|assumption) only[bytesOf,go_sem]) ⟨Al4 _,h3,Al4 _,by rw[← hR];simp only[List.length_drop];rw[show s.length-3+1=s.length-2 by omega],rfl⟩ ?_
 rintro⟨o,raw,i⟩ H J ⟨hi3,hi,hrl,hrw,ho⟩ hJ
 simp only at hi3 hi hrl hrw ho
 have hbl:=z7 raw
 by_cases hge:s.length≤i
 ·obtain rfl:i=s.length:=by omega
  rw[List.drop_length] at hrw
  have e:R=none:=by rw[← hrw];rfl
  have h1:((s.length:Int)≤(s.length:Int))=True:=eq_true (Int.le_refl _)
  simp(disch:=first|omega|assumption) only[h1,go_sem]
  exact hQ _ _ _ _ nofun rfl (by simp[zc,zd,AV.strip,AV.strip1,zqD,e])
 have hge':¬ ((s.length:Int)≤(i:Int)):=by omega
 have hle:((i:Int)≤(s.length:Int))=True:=eq_true (by omega)
 have hlt:((i:Int)<(s.length:Int))=True:=eq_true (by omega)
 obtain⟨c,r,hd⟩:∃ c r,s.drop i=c::r:=by
  cases hx:s.drop i with
  | nil=>have:=congrArg List.length hx;simp at this;omega
  | cons c r=>exact⟨c,r,rfl⟩
 have hc:s.getD i 0=c:=by
  have:(s.drop i).getD 0 0=c:=by rw[hd];rfl
  simpa[List.getD_eq_getElem?_getD] using this
 have hdl:s.length=i+(r.length+1):=by have:=congrArg List.length hd;simp at this;omega
 rw[hd] at hrw
 simp only[Yg] at hrw
 simp(disch:=first|omega|assumption) only[hge',hle,go_sem]
 refine zb (za0 (s.drop i) [34,34,34]) ?_
 rw[hd]
 by_cases p1:yA.isPrefixOf (c::r)=true
 ·have p1':([34,34,34]:List UInt8).isPrefixOf (c::r)=true:=p1
  have hl3:=Yd _ _ p1
  simp only[yA,Al2,Al3] at hl3
  rw[if_pos p1] at hrw
  simp(disch:=first|omega|assumption) only[p1',zf7,go_sem]
  refine zb (zq5 raw (by omega)) ?_
  have e:((s.length-(r.length-2):Nat):Int)=(i:Int)+3:=by omega
  simp(disch:=first|omega|assumption) only[wrap64,go_sem]
  exact hQ _ _ _ _ nofun rfl (by simp[zc,zd,AV.strip,AV.strip1,zqD,← hrw,e])
 have p1':([34,34,34]:List UInt8).isPrefixOf (c::r)=false:=Bool.eq_false_iff.2 p1
 rw[if_neg p1] at hrw
 simp(disch:=first|omega|assumption) only[p1',hle,go_sem]
 refine zb (za0 (s.drop i) [92,34,34,34]) ?_
 rw[hd]
 by_cases p2:zkn.isPrefixOf (c::r)=true
 ·have p2':([92,34,34,34]:List UInt8).isPrefixOf (c::r)=true:=p2
  have hl4:=Yd _ _ p2
  simp only[zkn,Al2,Al3] at hl4
  rw[if_pos p2] at hrw
  simp(disch:=first|omega|assumption) only[p2',go_sem]
  refine zv (by rw[hbl];exact ho) (by simp[hbl,bytesOf];omega) (by simp[hbl,bytesOf,maxLen];omega) fun o' H' hs2=>?_
  have hdr:s.drop (i+4)=r.drop 3:=by rw[← List.drop_drop,hd];rfl
  simp(disch:=first|omega|assumption) only[wrap64,go_sem]
  refine goJ (hJ (o',raw++yA,i+4) _ (by simp only;omega) ⟨by simp only;omega,by simp only;omega,by simp[yA];omega,?_,?_⟩) (by simp(disch:=first|omega|assumption) only[← yV,Int.natCast_add,yA,ZH,go_sem])
  ·simp only
   rw[hdr,← hrw]
   exact zdg _ _ _ _ (Nat.lt_succ_self _) (by simp;omega)
  ·have h:=hs2.own
   simpa[hbl,bytesOf,yA] using h
 ·have p2':([92,34,34,34]:List UInt8).isPrefixOf (c::r)=false:=Bool.eq_false_iff.2 p2
  rw[if_neg p2] at hrw
  simp(disch:=first|omega|assumption) only[p2',hlt,hc,go_sem]
  refine zv (by rw[hbl];exact ho) (by simp[hbl];omega) (by simp[hbl,maxLen];omega) fun o' H' hs2=>?_
  have hdr:s.drop (i+1)=r:=by rw[← List.drop_drop,hd];rfl
  simp(disch:=first|omega|assumption) only[wrap64,go_sem]
  refine goJ (hJ (o',raw++[c],i+1) _ (by simp only;omega) ⟨by simp only;omega,by simp only;omega,by simp;omega,?_,?_⟩) (by simp(disch:=first|omega|assumption) only[← za6,Int.natCast_add,go_sem])
  ·simp only
   rw[hdr,← hrw]
   rfl
  ·have h:=hs2.own
   simpa[hbl] using h
theorem ztb (c:UInt8):zq Tryz.prog 221 [.int .u8 (c.toNat:Int)] (.bool (Zd c)):=by
 refine zq.go ir221 ck221 (Al4 _) fun KP Q hQ=>?_
 by_cases h10:c=10
 ·subst h10
  have hc:((10:UInt8).toNat:Int)=10:=rfl
  simp(disch:=first|omega|assumption) only[ir221,hc,go_sem]
  exact hQ _ _ _ _ nofun rfl (by simp[zc,zd,AV.strip,AV.strip1,Zd])
 have g10:¬ ((c.toNat:Int)=10):=fun e=>h10 (UInt8.toNat_inj.1 (by show c.toNat=10;omega))
 by_cases h13:c=13
 ·subst h13
  have hc:((13:UInt8).toNat:Int)=13:=rfl
  simp(disch:=first|omega|assumption) only[ir221,hc,go_sem]
  exact hQ _ _ _ _ nofun rfl (by simp[zc,zd,AV.strip,AV.strip1,Zd])
 have g13:¬ ((c.toNat:Int)=13):=fun e=>h13 (UInt8.toNat_inj.1 (by show c.toNat=13;omega))
 simp(disch:=first|omega|assumption) only[ir221,g10,g13,go_sem]
 exact hQ _ _ _ _ nofun rfl (by simp[zc,zd,AV.strip,AV.strip1,Zd,h10,h13])
theorem ziI (c:UInt8) (r:List UInt8):ZB (c::r)=if yA.isPrefixOf (c::r) then (Yg (r.length+1) [] (r.drop 2)).map fun x=>(⟨5,Zw x.1⟩,x.2)
  else if c=34 then (Y7 Zd r).map fun x=>(⟨5,x.1⟩,x.2)
  else if Z7.isPrefixOf (c::r) then some (⟨1,Z7⟩,r.drop 2)
  else if 0≤Lib.indexByte zcB c then some (⟨1,[c]⟩,r)
  else if isL c then some (⟨2,(c::r).take (Zc (c::r))⟩,(c::r).drop (Zc (c::r)))
  else if (y5 (c::r)).1=0 then none
  else if ((c::r).drop (y5 (c::r)).1).head?.any fun d=>isL d||isD d||decide (d=46) then none
  else some (⟨(y5 (c::r)).2,(c::r).take (y5 (c::r)).1⟩,(c::r).drop (y5 (c::r)).1):=rfl
def zkm (s:List UInt8):AV:=match ZB s with
 | some (x,t)=>.tup [Yf x,.int .i64 ((s.length-t.length:Nat):Int)]
 | none=>.tup [Yf ⟨if s.head?=some 34 then 5 else 0,[]⟩,.int .i64 0]
theorem YN {s t:List UInt8} {x:Tok} (h:ZB s=some (x,t)):zkm s=.tup [Yf x,.int .i64 ((s.length-t.length:Nat):Int)]:=by unfold zkm;rw[h]
theorem zby {s:List UInt8} (h:ZB s=none):zkm s=.tup [Yf ⟨if s.head?=some 34 then 5 else 0,[]⟩,.int .i64 0]:=by unfold zkm;rw[h]
theorem zvM (c:UInt8) (r:List UInt8) (hs:(c::r).length≤zb8):zq Tryz.prog 124 [.str (c::r)] (zkm (c::r)):=by
 have hcl:(c::r).length=r.length+1:=rfl
 have hg0:(c::r).getD 0 0=c:=rfl
 have ht1:(c::r).take 1=[c]:=rfl
 have ed:(c::r).drop 3=r.drop 2:=rfl
 have hhd:(c::r).head?=some c:=rfl
 have hquo:=fun h34:c=34=>(by rw[h34];exact zra 221 (by decide +kernel) Zd ztb 34 r (by simpa[h34] using hs):zq Tryz.prog 220 [.str (c::r),.clo 221 [] []] (zj3 Zd r))
 have ot:=ziI c r
 have hpl3:yA.isPrefixOf (c::r)=true→c=34:=fun p1=>by
  simp only[yA,List.isPrefixOf,Al0,beq_iff_eq] at p1
  exact p1.1.symm
 generalize hsc:c::r=s at *
 refine zq.go ir124 ck124 (Al4 _) fun KP Q hQ=>?_
 have hsq:=hs
 simp only[zb8] at hs
 have hsl:s.length≤Lim:=by simp only[Lim];omega
 have hl:((0:Int)<(s.length:Int))=True:=eq_true (by omega)
 have hl1:((1:Int)≤(s.length:Int))=True:=eq_true (by omega)
 simp(disch:=first|omega|assumption) only[ir124,go_sem]
 refine zl fun b0 hb0=>?_
 simp(disch:=first|omega|assumption) only[hl,hg0,go_sem]
 refine zb (za0 s [34,34,34]) ?_
 by_cases p1:yA.isPrefixOf s=true
 ·have p1':([34,34,34]:List UInt8).isPrefixOf s=true:=p1
  have hl3:=Yd _ _ p1
  simp only[yA,Al2,Al3] at hl3
  have h34:c=34:=hpl3 p1
  simp(disch:=first|omega|assumption) only[p1',go_sem]
  refine zb (zpM s hl3 hsq) ?_
  have ef:Yg (s.length-2) [] (r.drop 2)=Yg (r.length+1) [] (r.drop 2):=zdg _ _ _ _ (by rw[List.length_drop];omega) (by rw[List.length_drop];omega)
  rw[ed,ef]
  have e1:ZB s=(Yg (r.length+1) [] (r.drop 2)).map fun x=>(⟨5,Zw x.1⟩,x.2):=by
   rw[ot,if_pos p1]
  cases hx:Yg (r.length+1) [] (r.drop 2) with
  | none =>
   rw[hx] at e1
   have e:=zby e1
   rw[if_pos (by rw[hhd,h34])] at e
   simp(disch:=first|omega|assumption) only[zqD,go_sem]
   exact hQ _ _ _ [.agg [.int .i64 5,.str []],.int .i64 0] nofun (by simp(disch:=first|omega|assumption) only[ir124,zK,yK,go_sem]) (by simp[zc,AV.strip,AV.strip1,e,Yf])
  | some x =>
   obtain⟨raw,t⟩:=x
   rw[hx] at e1
   have e:=YN e1
   simp(disch:=first|omega|assumption) only[zqD,go_sem]
   exact hQ _ _ _ [.agg [.int .i64 5,.str (Zw raw)],.int .i64 (((s.length-t.length:Nat)):Int)] nofun (by simp(disch:=first|omega|assumption) only[ir124,zK,yK,go_sem]) (by simp[zc,AV.strip,AV.strip1,e,Yf])
 have p1':([34,34,34]:List UInt8).isPrefixOf s=false:=Bool.eq_false_iff.2 p1
 by_cases c34:c=34
 ·have hc:(c.toNat:Int)=34:=by rw[c34];rfl
  simp(disch:=first|omega|assumption) only[p1',hc,go_sem]
  refine zb (hquo c34) ?_
  have e1:ZB s=(Y7 Zd r).map fun x=>(⟨5,x.1⟩,x.2):=by
   rw[ot,if_neg p1,if_pos c34]
  cases hx:Y7 Zd r with
  | none =>
   rw[hx] at e1
   have e:=zby e1
   rw[if_pos (by rw[hhd,c34])] at e
   simp(disch:=first|omega|assumption) only[zj3,hx,go_sem]
   exact hQ _ _ _ [.agg [.int .i64 5,.str []],.int .i64 0] nofun (by simp(disch:=first|omega|assumption) only[ir124,zK,yK,go_sem]) (by simp[zc,AV.strip,AV.strip1,e,Yf])
  | some x =>
   obtain⟨b,t⟩:=x
   rw[hx] at e1
   have e:=YN e1
   rw[hcl] at e
   simp(disch:=first|omega|assumption) only[zj3,hx,go_sem]
   exact hQ _ _ _ [.agg [.int .i64 5,.str b],.int .i64 (((r.length+1-t.length:Nat)):Int)] nofun (by simp(disch:=first|omega|assumption) only[ir124,zK,yK,go_sem]) (by simp[zc,AV.strip,AV.strip1,e,Yf])
 have g34:¬ ((c.toNat:Int)=34):=fun e=>c34 (UInt8.toNat_inj.1 (by show c.toNat=34;omega))
 have hno:¬ (s.head?=some 34):=by rw[hhd];simpa using c34
 simp(disch:=first|omega|assumption) only[p1',g34,go_sem]
 refine zb (za0 s [46,46,46]) ?_
 by_cases p2:Z7.isPrefixOf s=true
 ·have p2':([46,46,46]:List UInt8).isPrefixOf s=true:=p2
  have hl3:=Yd _ _ p2
  have hd3:Z7.length=3:=rfl
  rw[hd3] at hl3
  have e1:ZB s=some (⟨1,Z7⟩,r.drop 2):=by
   rw[ot,if_neg p1,if_neg c34,if_pos p2]
  have e:=YN e1
  have e2:s.length-(r.drop 2).length=3:=by rw[List.length_drop];omega
  rw[e2] at e
  have e3:Z7=[46,46,46]:=rfl
  simp(disch:=first|omega|assumption) only[p2',go_sem]
  exact hQ _ _ _ [.agg [.int .i64 1,.str [46,46,46]],.int .i64 3] nofun (by simp(disch:=first|omega|assumption) only[ir124,zK,yK,go_sem]) (by simp[zc,AV.strip,AV.strip1,e,Yf,e3])
 have p2':([46,46,46]:List UInt8).isPrefixOf s=false:=Bool.eq_false_iff.2 p2
 simp(disch:=first|omega|assumption) only[p2',go_sem]
 refine zb (zgL zcB c) ?_
 by_cases hm:0≤Lib.indexByte zcB c
 ·have e1:ZB s=some (⟨1,[c]⟩,r):=by
   rw[ot,if_neg p1,if_neg c34,if_neg p2,if_pos hm]
  have e:=YN e1
  have e2:s.length-r.length=1:=by omega
  rw[e2] at e
  have e3:=ht1
  simp(disch:=first|omega|assumption) only[hm,hl1,e3,go_sem]
  exact hQ _ _ _ [.agg [.int .i64 1,.str [c]],.int .i64 1] nofun (by simp(disch:=first|omega|assumption) only[ir124,zK,yK,go_sem]) (by simp[zc,AV.strip,AV.strip1,e,Yf])
 simp(disch:=first|omega|assumption) only[hm,go_sem]
 refine zb (zgf c) ?_
 by_cases hL:isL c=true
 ·have e1:ZB s=some (⟨2,s.take (Zc s)⟩,s.drop (Zc s)):=by
   rw[ot,if_neg p1,if_neg c34,if_neg p2,if_neg hm,if_pos hL]
  have e:=YN e1
  have hwl:=zhv s
  have e2:s.length-(s.drop (Zc s)).length=Zc s:=by rw[List.length_drop];omega
  rw[e2] at e
  have h2:((Zc s:Int)≤(s.length:Int))=True:=eq_true (by omega)
  simp(disch:=first|omega|assumption) only[hL,go_sem]
  refine zb (zt2 s hsl (by rw[hg0];exact hL)) ?_
  simp(disch:=first|omega|assumption) only[h2,go_sem]
  exact hQ _ _ _ [.agg [.int .i64 2,.str (s.take (Zc s))],.int .i64 (Zc s:Int)] nofun (by simp(disch:=first|omega|assumption) only[ir124,zK,yK,go_sem]) (by simp[zc,AV.strip,AV.strip1,e,Yf])
 have hL':isL c=false:=by simpa using hL
 simp(disch:=first|omega|assumption) only[hL',go_sem]
 refine zb (znK s hsl) ?_
 have hnl:=zkQ s
 have hn2:(y5 s).1=0→(y5 s).2=0:=fun h=>by
  unfold y5 at h ⊢
  split at h
  ·rename_i h0;rw[if_pos h0]
  ·rename_i h0;simp only at h;omega
 have e0:ZB s=if (y5 s).1=0 then none
   else if (s.drop (y5 s).1).head?.any fun d=>isL d||isD d||decide (d=46) then none
   else some (⟨(y5 s).2,s.take (y5 s).1⟩,s.drop (y5 s).1):=by
  rw[ot,if_neg p1,if_neg c34,if_neg p2,if_neg hm,if_neg hL]
 generalize hnn:(y5 s).1=n at *
 generalize hkk:(y5 s).2=k at *
 have hnle:((n:Int)≤(s.length:Int))=True:=eq_true (by omega)
 have fin:(n≠0→ZB s=some (⟨k,s.take n⟩,s.drop n))→zkm s=.tup [Yf ⟨k,s.take n⟩,.int .i64 (n:Int)]:=fun h=>by
  by_cases hz:n=0
  ·rw[if_pos hz] at e0
   rw[zby e0,if_neg hno,hz,hn2 hz];rfl
  ·rw[YN (h hz)]
   have e2:s.length-(s.drop n).length=n:=by rw[List.length_drop];omega
   rw[e2]
 have bad:(s.drop n).head?.any (fun d=>isL d||isD d||decide (d=46))=true→zkm s=.tup [Yf ⟨0,[]⟩,.int .i64 0]:=fun h=>by
  have:ZB s=none:=by
   rw[e0]
   split
   ·rfl
   ·first|rfl|exact if_pos h
  rw[zby this,if_neg hno]
 rcases zd3 s n with ⟨h1,h2⟩|⟨h1,h2⟩
 ·have hlt:¬ ((n:Int)<(s.length:Int)):=by omega
  have e:=fin fun hz=>by rw[e0,if_neg hz,h1];rfl
  simp(disch:=first|omega|assumption) only[hlt,hnle,go_sem]
  exact hQ _ _ _ [.agg [.int .i64 k,.str (s.take n)],.int .i64 (n:Int)] nofun (by simp(disch:=first|omega|assumption) only[ir124,zK,yK,go_sem]) (by simp[zc,AV.strip,AV.strip1,e,Yf])
 ·have hlt:((n:Int)<(s.length:Int))=True:=eq_true (by omega)
  generalize hdd:s.getD n 0=d at *
  have ha:(s.drop n).head?.any (fun d=>isL d||isD d||decide (d=46))=(isL d||isD d||decide (d=46)):=by rw[h2];rfl
  rw[ha] at bad
  simp(disch:=first|omega|assumption) only[hlt,hdd,go_sem]
  refine zb (zgf d) ?_
  cases hld:isL d with
  | true =>
   have e:=bad (by rw[hld];rfl)
   simp(disch:=first|omega|assumption) only[hld,go_sem]
   exact hQ _ _ _ [.agg [.int .i64 0,.str []],.int .i64 0] nofun (by simp(disch:=first|omega|assumption) only[ir124,zK,yK,go_sem]) (by simp[zc,AV.strip,AV.strip1,e,Yf])
  | false =>
   simp(disch:=first|omega|assumption) only[hld,hlt,hdd,go_sem]
   refine zb (zjY d) ?_
   cases hdg:isD d with
   | true =>
    have e:=bad (by rw[hdg];simp)
    simp(disch:=first|omega|assumption) only[hdg,go_sem]
    exact hQ _ _ _ [.agg [.int .i64 0,.str []],.int .i64 0] nofun (by simp(disch:=first|omega|assumption) only[ir124,zK,yK,go_sem]) (by simp[zc,AV.strip,AV.strip1,e,Yf])
   | false =>
    by_cases h46:d=46
    ·have e:=bad (by rw[h46];simp)
     have g46:(d.toNat:Int)=46:=by rw[h46];rfl
     simp(disch:=first|omega|assumption) only[hdg,hlt,hdd,g46,go_sem]
     exact hQ _ _ _ [.agg [.int .i64 0,.str []],.int .i64 0] nofun (by simp(disch:=first|omega|assumption) only[ir124,zK,yK,go_sem]) (by simp[zc,AV.strip,AV.strip1,e,Yf])
    ·have g46:¬ ((d.toNat:Int)=46):=fun e=>h46 (UInt8.toNat_inj.1 (by show d.toNat=46;omega))
     have e:=fin fun hz=>by rw[e0,if_neg hz,ha,hld,hdg];simp[h46]
     simp(disch:=first|omega|assumption) only[hdg,hlt,hdd,g46,hnle,go_sem]
     exact hQ _ _ _ [.agg [.int .i64 k,.str (s.take n)],.int .i64 (n:Int)] nofun (by simp(disch:=first|omega|assumption) only[ir124,zK,yK,go_sem]) (by simp[zc,AV.strip,AV.strip1,e,Yf])
theorem zsb {l:List UInt8} (hne:l≠[]):(zH l).2≤l.length∧(zH l).1≤1114111:=by
 by_cases h:(zH l).2=0
 ·refine⟨by omega,?_⟩
  unfold zH at h ⊢
  split at h
  ·rename_i h0;rw[if_pos h0];decide
  ·split at h
   ·rename_i h0 h1;rw[if_neg h0,if_pos h1];decide
   ·rename_i h0 h1
    have:=zmo h0 h1
    have:=this.pos
    omega
 ·obtain⟨e,h1⟩:=zeX hne h
  have hd:=zmo hne h1
  rw[e]
  refine⟨?_,hd.le⟩
  have hl:=hd.len
  exact hl
theorem zrw (s:List UInt8) (hs:s.length≤Lim):zq Tryz.prog 122 [.str s] (.bool (zfm s)):=by
 refine zq.go ir122 ck122 (Al4 _) fun KP Q hQ=>?_
 have hs':=hs
 simp only[Lim] at hs
 simp(disch:=first|omega|assumption) only[ir122,go_sem]
 refine yB (fun i:Nat=>[(3,.int .i64 i)]) (fun i H=>zfm s=zfm (s.drop i)∧i≤s.length) (fun i=>s.length-i) 0 (by simp(disch:=first|omega|assumption) only[go_sem]) ⟨by simp,by omega⟩ ?_
 rintro i H J ⟨hn,hle⟩ hJ
 by_cases hlt:i<s.length
 case neg =>
  have hlt':¬ ((i:Int)<s.length):=by omega
  rw[List.drop_of_length_le (by omega)] at hn
  simp(disch:=first|omega|assumption) only[hlt',go_sem]
  exact hQ _ _ _ _ nofun rfl (by simp[zc,zd,AV.strip,AV.strip1,hn,zlw])
 have hlt':((i:Int)<s.length)=True:=eq_true (by omega)
 have hne:s.drop i≠[]:=fun e=>by have:=congrArg List.length e;simp at this;omega
 obtain⟨hk,hcm⟩:=zsb hne
 rw[List.length_drop] at hk
 simp(disch:=first|omega|assumption) only[hlt',go_sem]
 refine zb (zpb s i hlt hs') ?_
 rw[zff hne,List.drop_drop] at hn
 generalize (zH (s.drop i)).1=c at *
 generalize (zH (s.drop i)).2=k at *
 by_cases hk0:0<k
 ·have hk0':((0:Int)<(k:Int))=True:=eq_true (by omega)
  simp(disch:=first|omega|assumption) only[hk0',go_sem]
  refine zb (zuy c hcm) ?_
  cases hsg:za2 c with
  | true =>
   rw[hsg] at hn
   simp only[hk0,decide_true,Bool.true_and] at hn
   simp(disch:=first|omega|assumption) only[wrap64,go_sem]
   exact goJ (hJ (i+k) _ (by omega) ⟨hn,by omega⟩) (by simp(disch:=first|omega|assumption) only[Int.natCast_add,go_sem])
  | false =>
   rw[hsg] at hn
   simp only[Bool.false_and,Bool.and_false] at hn
   simp(disch:=first|omega|assumption) only[go_sem]
   exact hQ _ _ _ _ nofun rfl (by simp[zc,zd,AV.strip,AV.strip1,hn])
 ·have hk0':¬ ((0:Int)<(k:Int)):=by omega
  simp only[hk0,decide_false,Bool.false_and] at hn
  simp(disch:=first|omega|assumption) only[hk0',go_sem]
  exact hQ _ _ _ _ nofun rfl (by simp[zc,zd,AV.strip,AV.strip1,hn])
def readA:Except Int (List Tok)→AV
 | .ok l=>.tup [.sl .no 2 (cKs l),.int .i64 0]
 | .error e=>.tup [.sl .no 2 [],.int .i64 e]
def zbA (l:List Tok) (t:List UInt8):Except Int (List Tok):=Z3 (t.length+1) l t
theorem zou (l:List Tok):zbA l []=.ok l:=rfl
theorem zoE {l:List Tok} {t:List UInt8} (hne:t≠[]) (h:Ym t≠0):zbA l t=zbA l (t.drop (Ym t)):=by
 have h1:=zjJ t
 have h2:0<t.length:=List.length_pos_iff.2 hne
 unfold zbA
 conv=>lhs;unfold Z3
 rw[if_neg hne,if_pos h]
 exact zb2 _ _ _ _ (by simp;omega) (Nat.lt_succ_self _)
theorem zlH {l:List Tok} {t:List UInt8} (hne:t≠[]) (h:Ym t=0) (h1:ZB t=none):zbA l t=.error 2:=by
 unfold zbA
 conv=>lhs;unfold Z3
 rw[if_neg hne,if_neg (by omega),h1]
theorem zma {l:List Tok} {t t':List UInt8} {x:Tok} (hne:t≠[]) (h:Ym t=0) (h1:ZB t=some (x,t')):zbA l t=zbA (l++[x]) t':=by
 have h2:=zew h1
 unfold zbA
 conv=>lhs;unfold Z3
 rw[if_neg hne,if_neg (by omega),h1]
 exact zb2 _ _ _ _ (by omega) (Nat.lt_succ_self _)
theorem zhf:∀(n:Nat) (raw t b t':List UInt8),Yg n raw t=some (b,t')→t' <:+ t
 | 0,_,_,_,_,h=>by cases h
 | n+1,raw,[],_,_,h=>by cases h
 | n+1,raw,c::r,b,t',h=>by
  simp only[Yg] at h
  split at h
  ·cases h;exact(List.drop_suffix _ _).trans (List.suffix_cons ..)
  split at h
  ·exact(zhf n _ _ _ _ h).trans ((List.drop_suffix _ _).trans (List.suffix_cons ..))
  ·exact(zhf n _ _ _ _ h).trans (List.suffix_cons ..)
theorem zkL {s t:List UInt8} {x:Tok} (h:ZB s=some (x,t)):t <:+ s:=by
 cases s with
 | nil=>cases h
 | cons c r =>
  simp only[ZB] at h
  split at h
  ·cases hr:Yg (r.length+1) [] (r.drop 2) with
   | none=>rw[hr] at h;cases h
   | some y =>
    rw[hr] at h
    simp only[zas,Al1,Al8] at h
    obtain⟨_,rfl⟩:=h
    exact(zhf _ _ _ _ _ (show Yg _ _ _=some (y.1,y.2) from hr)).trans ((List.drop_suffix _ _).trans (List.suffix_cons ..))
  split at h
  ·cases hr:Y7 Zd r with
   | none=>rw[hr] at h;cases h
   | some y =>
    rw[hr] at h
    simp only[zas,Al1,Al8] at h
    obtain⟨_,rfl⟩:=h
    exact(zkl (t':=y.2) (b:=y.1) hr).1.trans (List.suffix_cons ..)
  split at h
  ·cases h;exact(List.drop_suffix _ _).trans (List.suffix_cons ..)
  split at h
  ·cases h;exact List.suffix_cons ..
  split at h
  ·cases h;exact List.drop_suffix _ _
  split at h
  ·cases h
  split at h
  ·cases h
  ·cases h;exact List.drop_suffix _ _
theorem zo4 {s t:List UInt8} {x:Tok} (h:ZB s=some (x,t)):s.drop (s.length-t.length)=t:=by
 obtain⟨p,hp⟩:=zkL h
 rw[← hp];simp
theorem zvL {u:List UInt8} (hne:u≠[]) (hs:u.length≤1000000):zq Tryz.prog 123 [.str u] (.int .i64 (Ym u)):=by
 cases u with
 | nil=>exact absurd rfl hne
 | cons c r=>exact zvD c r hs
theorem zvB {u:List UInt8} (hne:u≠[]) (hs:u.length≤zb8):zq Tryz.prog 124 [.str u] (zkm u):=by
 cases u with
 | nil=>exact absurd rfl hne
 | cons c r=>exact zvM c r hs
theorem ztj (s:List UInt8) (hs:s.length≤zb8):zq Tryz.prog 57 [.str s] (readA (YE s)):=by
 refine zq.go ir57 ck57 (Al4 _) fun KP Q hQ=>?_
 have hsq:=hs
 simp only[zb8] at hs
 by_cases h8:8192<s.length
 ·have g8:((8192:Int)<(s.length:Int))=True:=eq_true (by omega)
  simp(disch:=first|omega|assumption) only[ir57,g8,go_sem]
  exact hQ _ _ _ _ nofun rfl (by simp[zc,zd,AV.strip,AV.strip1,YE,h8,readA])
 have g8:¬ ((8192:Int)<(s.length:Int)):=by omega
 simp(disch:=first|omega|assumption) only[ir57,g8,go_sem]
 refine zb (zrw s (by simp only[Lim];omega)) ?_
 cases hsb:zfm s with
 | false =>
  simp(disch:=first|omega|assumption) only[go_sem]
  exact hQ _ _ _ _ nofun rfl (by simp[zc,zd,AV.strip,AV.strip1,YE,h8,hsb,readA])
 | true =>
  have e0:YE s=zbA [] s:=by unfold YE zbA;rw[if_neg h8,if_pos hsb]
  rw[e0] at hQ
  simp(disch:=first|omega|assumption) only[go_sem]
  refine yB (fun x:Own×List Tok×Nat=>[(4,.sl x.1 2 (cKs x.2.1)),(5,.int .i64 x.2.2)]) (fun x H=>x.2.2≤s.length∧x.2.1.length≤x.2.2∧zbA [] s=zbA x.2.1 (s.drop x.2.2)∧OwnS za.emp .nil H x.1 x.2.1.length 2) (fun x=>s.length-x.2.2) (.nil,[],0) (by simp(disch:=first|omega|assumption) only[cKs,List.map_nil,go_sem]) ⟨Nat.zero_le _,Al4 _,rfl,OwnS.refl rfl⟩ ?_
  rintro⟨o,l,i⟩ H J ⟨hi,hll,hr,hso⟩ hJ
  simp only at hi hll hr hso
  have hcl:=yF l
  by_cases hlt:i<s.length
  case neg =>
   have hlt':¬ ((i:Int)<s.length):=by omega
   rw[List.drop_of_length_le (by omega),zou] at hr
   simp(disch:=first|omega|assumption) only[hlt',go_sem]
   exact hQ _ _ _ _ nofun rfl (by simp[zc,zd,AV.strip,AV.strip1,hr,readA,zaF])
  have hlt':((i:Int)<s.length)=True:=eq_true (by omega)
  have hle':((i:Int)≤s.length)=True:=eq_true (by omega)
  obtain⟨u,hd⟩:∃ u,s.drop i=u:=⟨_,rfl⟩
  have hdl:s.length=i+u.length:=by have:=congrArg List.length hd;rw[List.length_drop] at this;omega
  have hne:u≠[]:=fun e=>by rw[e] at hdl;simp at hdl;omega
  rw[hd] at hr
  simp(disch:=first|omega|assumption) only[hlt',hle',hd,go_sem]
  refine zb (zvL hne (by omega)) ?_
  have hgl:=zjJ u
  by_cases hg:Ym u=0
  case neg =>
   have hg':((0:Int)<(Ym u:Int))=True:=eq_true (by omega)
   simp(disch:=first|omega|assumption) only[hg',wrap64,go_sem]
   refine goJ (hJ (o,l,i+Ym u) _ (by simp only;omega) ⟨by simp only;omega,by simp only;omega,?_,hso⟩) (by simp(disch:=first|omega|assumption) only[Int.natCast_add,go_sem])
   simp only
   rw[hr,zoE hne hg,← List.drop_drop,hd]
  have hg':¬ ((0:Int)<(Ym u:Int)):=by omega
  simp(disch:=first|omega|assumption) only[hg',hle',hd,go_sem]
  refine zb (zvB hne (by simp only[zb8];omega)) ?_
  cases ho:ZB u with
  | none =>
   rw[zlH hne hg ho] at hr
   rw[zby ho]
   simp(disch:=first|omega|assumption) only[Yf,go_sem]
   refine zl fun b1 hb1=>?_
   simp(disch:=first|omega|assumption) only[go_sem]
   exact hQ _ _ _ _ nofun rfl (by simp[zc,zd,AV.strip,AV.strip1,hr,readA])
  | some x =>
   obtain⟨x,t⟩:=x
   have hlt2:=zew ho
   have hsf:=zo4 ho
   rw[zma hne hg ho] at hr
   rw[YN ho]
   have hz:¬ (((u.length-t.length:Nat):Int)=0):=by omega
   simp(disch:=first|omega|assumption) only[Yf,go_sem]
   refine zl fun b1 hb1=>?_
   simp(disch:=first|omega|assumption) only[hz,go_sem]
   refine zv (by rw[hcl];exact(hso.upd hb1).own) (by simp only[hcl,Al2,Al3];omega) (by simp only[hcl,Al2,Al3,maxLen];omega) fun o' H' hs2=>?_
   simp(disch:=first|omega|assumption) only[wrap64,go_sem]
   refine goJ (hJ (o',l++[x],i+(u.length-t.length)) H' (by simp only;omega) ⟨by simp only;omega,by simp;omega,?_,(hso.upd (x:=.cells [.int .i64 x.k,.str x.s]) hb1).trans (by simpa[hcl] using hs2)⟩) (by simp(disch:=first|omega|assumption) only[← za9,Int.natCast_add,go_sem])
   simp only
   rw[hr,← List.drop_drop,hd,hsf]
end Go.Proofs.YticbbfbpeimkbaaGreatDoor
namespace Go.Proofs.YticbbfbpeimkbaaGreatDoor
open Go.Ab
def sp89 : ASp := ⟨27, 2, 5, (.reg [] [⟨some 4, none, .alloc [.int .i64 0], []⟩]), (.seq (.reg [] [⟨some 13, none, .mv (.t 6), []⟩, ⟨some 14, none, .bi .neq .i64 (.t 13) (.k (.int .i64 0)), []⟩])
 (.cond (.t 14) (.seq (.reg [] [⟨some 15, none, .mv (.t 6), []⟩, ⟨none, none, .st 1 (.t 4) (.t 15), []⟩])
 (.ret)) (.skip))), [⟨some 16, none, .mkfn 159 [] [(.t 4)], []⟩], 16, (.seq (.reg [] [⟨some 17, none, .mv (.t 5), []⟩, ⟨some 18, none, .bld [.sl .nil 2 [], .int .i64 0, .int .i64 0] [(0, 1, (.t 17))], []⟩, ⟨some 19, none, .box (.t 18), []⟩, ⟨some 7, none, .mv (.t 19), []⟩])
 (.seq (.reg [] [⟨some 20, none, .mv (.t 1), []⟩, ⟨some 21, none, .mv (.t 7), []⟩, ⟨some 22, none, .callv (.t 20) [(.t 21)], []⟩])
 (.seq (.seq (.reg [] [⟨some 23, none, .mv (.t 7), []⟩, ⟨some 24, none, .call 92 [(.t 23)], []⟩])
 (.cond (.t 24) (.reg [] [⟨some 25, none, .mv (.t 7), []⟩, ⟨some 26, none, .call 160 [(.t 25), (.k (.int .i64 2))], []⟩]) (.skip)))
 (.seq (.reg [] [⟨none, none, .st 1 (.t 4) (.k (.int .i64 0)), []⟩])
 (.ret))))), [.c 4 1 false], some (.reg [] [⟨some 9, none, .mv (.t 0), []⟩, ⟨some 10, none, .call 57 [(.t 9)], []⟩, ⟨some 8, none, .mv (.t 10), []⟩, ⟨some 11, none, .ext (.t 8) 0, []⟩, ⟨some 12, none, .ext (.t 8) 1, []⟩, ⟨some 5, none, .mv (.t 11), []⟩, ⟨some 6, none, .mv (.t 12), []⟩])⟩
theorem ckS89:zoU Tryz.prog 89 sp89=true:=by kernel_rfl
def df159 : ADfn := ⟨16, 1, 4, [⟨some 1, none, .mv (.t 4), []⟩], (.seq (.reg [] [⟨some 6, none, .mv (.t 1), []⟩, ⟨some 7, none, .tas 186 (.agg [.int .i64 0]) (.t 6), []⟩, ⟨some 5, none, .mv (.t 7), []⟩, ⟨some 8, none, .ext (.t 5) 0, []⟩, ⟨some 9, none, .ext (.t 5) 1, []⟩, ⟨some 2, none, .alloc [.int .i64 0], []⟩, ⟨none, none, .st 1 (.t 2) (.t 8), []⟩, ⟨some 3, none, .mv (.t 9), []⟩])
 (.seq (.reg [] [⟨some 10, none, .mv (.t 3), []⟩])
 (.cond (.t 10) (.reg [] [⟨some 11, none, .fa 0 (.t 2), []⟩, ⟨some 12, none, .ld 1 false (.t 11), []⟩, ⟨none, none, .st 1 (.t 0) (.t 12), []⟩]) (.seq (.reg [] [⟨some 13, none, .mv (.t 1), []⟩, ⟨some 14, none, .ifnil true (.t 13), []⟩])
 (.cond (.t 14) (.reg [] [⟨some 15, none, .mv (.t 1), []⟩, ⟨none, none, .pan (.t 15), []⟩]) (.skip))))))⟩
theorem ckD159:zme Tryz.prog 159 df159=true:=by kernel_rfl
theorem ze5 {P:Program} {KP:AV→za→Prop} {items:List AItem} {ρ:Env} {H:za} {K:Env→za→Prop} (h:∀ Q:AExit→Env→za→Prop,(∀ ρ' H',K ρ' H'→Q .normal ρ' H')→goI P KP Q items items [] ρ H):yz P KP (Yr items) ρ H K :=
 h (fun e ρ H=>match e with|.normal=>K ρ H|_=>True) (fun _ _ h=>h)
theorem zbU {P:Program} {KP:AV→za→Prop} {c:AC} {ρ:Env} {H:za} {K:AExit→Env→za→Prop} (h:∀(KP':AV→za→Prop) (Q:AExit→Env→za→Prop),(∀ v H',KP v H'→KP' v H')→(∀ e ρ' H',K e ρ' H'→Q e ρ' H')→goC P KP' Q c [] ρ H):awp P KP c K ρ H :=
 h KP K (fun _ _ h=>h) (fun _ _ _ h=>h)
theorem ztI (H:za) (r:Nat) (n:Int):zj Tryz.prog 160 [.ptr r 0,.int .i64 n] H (fun e H'=>match e with|.ret v=>False|.pan v=>v=Ze n∧H'=H):=by
 refine zj.goO (R:=fun _ _=>False) (RP:=fun v H'=>v=Ze n∧H'=H) ir160 ck160 (Al4 _) fun KP Q hQ hP=>?_
 simp(disch:=first|omega|assumption) only[ir160,go_sem]
 exact hP _ _ H (Low.refl _) ⟨rfl,rfl⟩
theorem zvh {H:za} {b4:Nat} {Q:za→Prop} (hq:∀ b x,H b=none→Q (H.upd b x)):ZD Tryz.prog 159 [.ptr b4 0] none H Q:=by
 refine ZD.of_fn df159 ckD159 (Al4 _) (ze5 fun Q1 hQ1=>?_)
 simp(disch:=first|omega|assumption) only[df159,Option.getD_none,go_sem]
 refine hQ1 _ _ (zbU fun KP' Q2 hKP hQ2=>?_)
 simp(disch:=first|omega|assumption) only[df159,go_sem]
 refine zl fun b hb=>?_
 simp(disch:=first|omega|assumption) only[go_sem]
 exact hQ2 _ _ _ (hq _ _ hb)
theorem zs3 {H:za} {b4:Nat} {c4:List AV} {n:Int} {Q:za→Prop} (h4:H b4=some (.cells c4)) (l4:c4.length=1)
  (hq:∀ b x,H b=none→Q ((H.upd b x).upd b4 (.cells [.int .i64 n]))):ZD Tryz.prog 159 [.ptr b4 0] (some (Ze n)) H Q:=by
 refine ZD.of_fn df159 ckD159 (Al4 _) (ze5 fun Q1 hQ1=>?_)
 simp(disch:=first|omega|assumption) only[df159,Option.getD_some,Ze,go_sem]
 refine hQ1 _ _ (zbU fun KP' Q2 hKP hQ2=>?_)
 simp(disch:=first|omega|assumption) only[df159,go_sem]
 refine zl fun b hb=>?_
 have n1:b4≠b:=fun e=>by subst e;rw[hb] at h4;cases h4
 simp(disch:=first|omega|assumption) only[h4,n1,l4,go_sem]
 have e4:splice c4 0 [.int .i64 n]=[.int .i64 n]:=by
  unfold splice;simp only[List.take_zero,Zy,Al2,Al3];rw[List.drop_eq_nil_of_le (by rw[l4];decide),List.append_nil]
 rw[e4]
 exact hQ2 _ _ _ (hq _ _ hb)
theorem zfl:∀(n:Nat) (l:List Tok) (s:List UInt8) (e:Int),s.length<n→Z3 n l s=.error e→e=2
 | 0,_,_,_,h,_=>absurd h (Nat.not_lt_zero _)
 | n+1,l,s,e,h,hr=>by
  simp only[Z3] at hr
  split at hr
  ·cases hr
  split at hr
  ·rename_i hne hg
   have h1:=zjJ s
   have h2:0<s.length:=List.length_pos_iff.2 hne
   exact zfl n _ _ _ (by simp;omega) hr
  ·cases ho:ZB s with
   | none=>rw[ho] at hr;cases hr;rfl
   | some x =>
    rw[ho] at hr
    have:=zew (show ZB s=some (x.1,x.2) from ho)
    exact zfl n _ _ _ (by omega) hr
theorem zil {s:List UInt8} {e:Int} (h:YE s=.error e):e≠0:=by
 unfold YE at h
 split at h
 ·cases h;decide
 split at h
 ·rw[zfl _ _ _ _ (Nat.lt_succ_self _) h];decide
 ·cases h;decide
def ztv (Out:Int→za→Prop):AEnd→za→Prop:=fun e H'=>match e with|.ret v=>∃ n:Int,v=.int .i64 n∧Out n H'|.pan _=>False
theorem zdc {ρ:Env} {H:za} {b4:Nat} {e:Int} (r4:ρ 4=.ptr b4 0) (h4:H b4=some (.cells [.int .i64 e])):zK ρ H sp89.res=some [.int .i64 e]:=by
 simp(disch:=first|omega|assumption) only[sp89,zK,yK,r4,h4,go_sem]
theorem zu1 {s:List UInt8} {Hc:za} {clo:FuncId} {caps:List AV} (hl:s.length≤zb8) (hcal:Program.callable Tryz.prog clo=true) (Out:Int→za→Prop)
  (h1:∀ n,YE s=.error n→Out n Hc)
  (h2:∀ L,YE s=.ok L→∀ r,Hc r=none→zj Tryz.prog clo (.ptr r 0::caps) (Hc.upd r (prc L [] 0)) (fun e H'=>match e with
   | .ret _=>∃ p t dp,p++t=L∧H' r=some (prc L p dp)∧Out (if t=[] then 0 else 2) H'
   | .pan v=>∃ n,v=Ze n∧∀ H,Out n H)) :
  zj Tryz.prog 89 [.str s,.clo clo [] caps] Hc (ztv Out):=by
 refine zj.of_sp sp89 ckS89 (Al4 _) ?_
 unfold zvm
 refine zbU fun KP Q hKP hQ=>?_
 simp(disch:=first|omega|assumption) only[sp89,go_sem]
 refine zl fun b4 hb4=>?_
 simp(disch:=first|omega|assumption) only[go_sem]
 refine hQ _ _ _ (zbU fun KP1 Q1 hKP1 hQ1=>?_)
 simp(disch:=first|omega|assumption) only[sp89,go_sem]
 refine zb (zq.low (ztj s hl)) ?_
 cases hR:YE s with
 | error n =>
  have hn:¬ (n=0):=zil hR
  simp(disch:=first|omega|assumption) only[readA,go_sem]
  refine hQ1 _ _ _ (zbU fun KP2 Q2 hKP2 hQ2=>?_)
  simp(disch:=first|omega|assumption) only[sp89,hn,go_sem]
  refine hQ2 _ _ _ ?_
  show zdy sp89.res (ztv Out) .ret _ _
  simp only[zdy]
  rw[zdc (b4:=b4) (e:=n) rfl (upd_same ..)]
  exact⟨Hc,(Low.refl _).upd hb4,n,rfl,h1 n hR⟩
 | ok L =>
  simp(disch:=first|omega|assumption) only[readA,go_sem]
  refine hQ1 _ _ _ (zbU fun KP2 Q2 hKP2 hQ2=>?_)
  simp(disch:=first|omega|assumption) only[sp89,go_sem]
  refine hQ2 _ _ _ (ze5 fun Q3 hQ3=>?_)
  simp(disch:=first|omega|assumption) only[sp89,go_sem]
  refine hQ3 _ _ ⟨159,_,rfl,by decide +kernel,zbU fun KP4 Q4 hKP4 hQ4=>?_⟩
  have fin:∀(ρ1:Env) (H H2:za) (e:Int),ρ1 4=.ptr b4 0→H b4=some (.cells [.int .i64 e])→Low H2 H→Out e H2→zrS sp89 (ztv Out) ρ1 H:=by
   intro ρ1 H H2 e r4 g4 hlow ho
   refine⟨_,zdc (b4:=b4) (e:=e) ?_ g4,H2,hlow,e,rfl,ho⟩
   rw[zlm,if_pos (by decide)];exact r4
  have hpan:∀(n:Int) (H0 H':za) (c4:List AV),Low H0 H'→H0 b4=some (.cells c4)→c4.length=1→(∀ H,Out n H)→KP4 (Ze n) H':=by
   intro n H0 H' c4 hlow g4 l4 ho
   exact hKP4 _ _ ⟨H0,hlow,zs3 g4 l4 fun b x hb=>fin _ _ za.emp n rfl (upd_same ..) (Low.of_sub (zq2 _)) (ho _)⟩
  simp(disch:=first|omega|assumption) only[sp89,go_sem]
  refine zl fun br hbr=>?_
  have hbr4:br≠b4:=fun e=>by subst e;rw[upd_same] at hbr;cases hbr
  have hbrH:Hc br=none:=by rw[upd_ne hbr4] at hbr;exact hbr
  simp(disch:=first|omega|assumption) only[hcal,go_sem]
  obtain⟨x4,hx4⟩:∃ x4:AObj,x4=.cells [.int .i64 0]:=⟨_,rfl⟩
  have hun:(Hc.upd b4 (.cells [.int .i64 0])).upd br (.cells [.sl .no 2 (cKs L),.int .i64 0,.int .i64 0])=za.union (Hc.upd br (prc L [] 0)) (za.one b4 x4):=by
   funext c
   by_cases e1:c=br
   ·subst e1;rw[upd_same];simp[za.union,za.upd,prc]
   ·rw[upd_ne e1]
    by_cases e2:c=b4
    ·subst e2;rw[upd_same];simp[za.union,za.upd,za.one,e1,hb4,hx4]
    ·rw[upd_ne e2];simp[za.union,za.upd,za.one,e1,e2]
  have hd:za.Disj (Hc.upd br (prc L [] 0)) (za.one b4 x4):=fun c=>by
   by_cases e:c=b4
   ·subst e;exact .inl (by rw[upd_ne (Ne.symm hbr4)];exact hb4)
   ·exact .inr (by simp[za.one,e])
  have hc:=zj.frame hd (h2 L hR br hbrH)
  rw[hun]
  refine zda hc fun e H' ⟨A',hq,hd',hH'⟩=>?_
  subst hH'
  have hB4:za.one b4 x4 b4=some (.cells [.int .i64 0]):=by simp[za.one,hx4]
  have hA4:A' b4=none:=by
   rcases hd' b4 with h|h
   ·exact h
   ·rw[hB4] at h;cases h
  have g4:za.union A' (za.one b4 x4) b4=some (.cells [.int .i64 0]):=by simp[za.union,hA4,hB4]
  cases e with
  | pan v =>
   obtain⟨n,hv,ho⟩:=hq
   subst hv
   exact hpan n (za.one b4 x4) _ _ (Low.of_sub fun c x hc=>by
    rcases hd' c with h|h
    ·simp[za.union,h,hc]
    ·rw[hc] at h;cases h) hB4 rfl ho
  | ret v =>
   obtain⟨p,t,dp,hp,hr,ho⟩:=hq
   have gr:za.union A' (za.one b4 x4) br=some (prc L p dp):=by simp[za.union,hr]
   have lowA:∀ b x (Hx:za),(∀ c y,A' c=some y→Hx c=some y)→Hx b=none→Low A' ((Hx.upd b x).upd b4 (.cells [.int .i64 0]))∧Low A' ((Hx.upd b x).upd b4 (.cells [.int .i64 2])):=fun b x Hx hs hb=>by
    have sub:∀ z,∀ c y,A' c=some y→((Hx.upd b x).upd b4 z) c=some y:=fun z c y hcy=>by
     rw[upd_ne (fun e=>by rw[e,hA4] at hcy;cases hcy),upd_ne (fun e=>by rw[← e,hs _ _ hcy] at hb;cases hb)]
     exact hs _ _ hcy
    exact⟨Low.of_sub (sub _),Low.of_sub (sub _)⟩
   have subU:∀ c y,A' c=some y→za.union A' (za.one b4 x4) c=some y:=fun c y hc=>by simp[za.union,hc]
   show goR _ _ _ _ _ _ _ _ _
   simp(disch:=first|omega|assumption) only[go_sem]
   refine zI (zpZ hp gr) fun v5 H5 ⟨hv5,hH5⟩=>?_
   subst hv5;subst hH5
   cases t with
   | nil =>
    simp only[if_true] at ho
    simp(disch:=first|omega|assumption) only[g4,go_sem]
    refine hQ4 _ _ _ ⟨_,Low.refl _,zvh fun b y hb=>?_⟩
    have n4:b4≠b:=fun e=>by subst e;rw[upd_same] at hb;cases hb
    refine fin _ _ A' 0 rfl (by rw[upd_ne n4,upd_same]) ?_ ho
    refine Low.of_sub fun c z hcz=>?_
    have hc4:c≠b4:=fun e=>by rw[e,hA4] at hcz;cases hcz
    have hcb:c≠b:=fun e=>by rw[← e,upd_ne hc4,subU _ _ hcz] at hb;cases hb
    rw[upd_ne hcb,upd_ne hc4];exact subU _ _ hcz
   | cons a u =>
    rw[if_neg (by simp)] at ho
    simp(disch:=first|omega|assumption) only[go_sem]
    exact zp (ztI _ br 2) (fun _ _ h=>h.elim) fun v H6 ⟨h6,h7⟩=>by
     subst h6;subst h7
     exact hKP4 _ _ ⟨_,Low.refl _,zs3 g4 rfl fun b y hb=>fin _ _ A' 2 rfl (upd_same ..) (lowA b y _ subU hb).2 ho⟩
def zac {α:Type} (f:TS→PR α):Prop:=∀ t n,f t=.error n→n≠0
theorem z1 {α β:Type} {x:PR α} {f:α→TS→PR β} {e:Int} (h:pb x f=.error e) (hx:∀ n,x=.error n→n≠0) (hf:∀ a t,x=.ok (a,t)→f a t=.error e→e≠0):e≠0:=by
 rcases x with n|⟨a,t⟩
 ·cases h;exact hx _ rfl
 ·exact hf a t rfl h
theorem zco (m:List UInt8):zac (Z4 m):=fun t n h=>by
 unfold Z4 at h
 split at h
 ·cases h
 ·cases h;decide
theorem Zs:zac y0:=fun t n h=>by
 unfold y0 at h
 split at h
 ·cases h
 ·cases h;decide
theorem zgT (ty:TyD):zac (zcM ty):=fun t n h=>by
 unfold zcM at h
 split at h<;>cases h
theorem zej {α:Type} {m:List UInt8} {f:TS→PR α} (hf:zac f) (hl:∀ t a t',f t=.ok (a,t')→t'.length<t.length):∀(n:Nat) (l:List α) (t:TS) (e:Int),t.length<n→yC m f n l t=.error e→e≠0
 | 0,_,_,_,h,_=>absurd h (Nat.not_lt_zero _)
 | n+1,l,t,e,hn,h=>by
  rw[yC] at h
  split at h
  ·cases h
  ·exact z1 h (fun k hk=>hf _ _ hk) fun a t' ha h'=>zej hf hl n _ _ _ (by have:=hl _ _ _ ha;omega) h'
theorem zeW {α:Type} {m:List UInt8} {f:TS→PR α} (hf:zac f) (hl:∀ t a t',f t=.ok (a,t')→t'.length<t.length):zac (zaU m f):=fun t n h =>
 z1 h (fun k hk=>hf _ _ hk) fun a t' ha h'=>zej hf hl _ _ _ _ (Nat.lt_succ_self _) h'
theorem zif {α:Type} {m:List UInt8} {f:TS→PR α} (hf:zac f) (hl:∀ t a t',f t=.ok (a,t')→t'.length<t.length):∀(n:Nat) (l:List α) (t:TS) (e:Int),t.length<n→YP m f n l t=.error e→e≠0
 | 0,_,_,_,h,_=>absurd h (Nat.not_lt_zero _)
 | n+1,l,t,e,hn,h=>by
  rw[YP] at h
  split at h
  ·rename_i hp
   have hlt:=zjo hp
   exact z1 h (fun k hk=>hf _ _ hk) fun a t' ha h'=>zif hf hl n _ _ _ (by have:=hl _ _ _ ha;omega) h'
  ·cases h
theorem zng:∀ k,zac (zcj k)
 | 0=>fun t n h=>by
  rw[zau,zf2.eq_def] at h
  split at h
  ·cases h;decide
  ·exact z1 h (fun k hk=>Zs _ _ hk) fun s t1 _ h'=>zgT _ _ _ h'
 | k+1=>fun t n h=>by
  rw[zau,zf2.eq_def] at h
  split at h
  ·exact z1 h (fun e he=>zng k _ _ he) fun ty t1 _ h'=>z1 h' (fun e he=>zco _ _ _ he) fun _ t2 _ h''=>zgT _ _ _ h''
  ·exact z1 h (fun k hk=>Zs _ _ hk) fun s t1 _ h'=>zgT _ _ _ h'
theorem zhw {f:TS→PR Val} (hf:zac f):zac (yL f):=fun t n h =>
 z1 h (fun e he=>Zs _ _ he) fun s t1 _ h'=>z1 h' (fun e he=>zco _ _ _ he) fun _ t2 _ h2=>z1 h2 (fun e he=>hf _ _ he) fun x t3 _ h3=>by cases h3
theorem znO {fixed:Bool} {sub:Option (TS→PR Val)} (hs:∀ f,sub=some f→zac f∧GP bV wfV 1 f):zac (zax fixed sub):=fun t n h=>by
 rw[zax.eq_def] at h
 split at h
 ·cases h
 split at h
 ·cases h
 split at h
 ·cases h
 split at h
 ·cases sub with
  | none=>cases h;decide
  | some f =>
   obtain⟨h1,h2⟩:=hs f rfl
   exact z1 h (fun e he=>zej h1 (h2.lt (by decide)) _ _ _ _ (Nat.lt_succ_self _) he) fun l t' _ h'=>by cases h'
 split at h
 ·cases sub with
  | none=>cases h;decide
  | some f =>
   obtain⟨h1,h2⟩:=hs f rfl
   exact z1 h (fun e he=>zej (zhw h1) ((ZN h2).lt (by decide)) _ _ _ _ (Nat.lt_succ_self _) he) fun l t' _ h'=>by cases h'
 split at h
 ·cases h;decide
 ·exact z1 h (fun e he=>zco _ _ _ he) fun _ t1 _ h1=>z1 h1 (fun e he=>Zs _ _ he) fun s t2 _ h2=>by cases h2
theorem zjq (fixed:Bool):∀ k,zac (Zo fixed k)
 | 0=>fun t n h=>znO (sub:=none) (fun f hf=>by cases hf) t n (by rw[yT] at h;exact h)
 | k+1=>fun t n h=>znO (sub:=some (Zo fixed k)) (fun f hf=>by cases hf;exact⟨zjq fixed k,Ys fixed k⟩) t n (by rw[yT] at h;exact h)
theorem zku (fixed:Bool) (k:Nat):zac (zan fixed k):=fun t n h=>by
 unfold zan at h
 split at h
 ·exact zeW (zhw (zjq fixed k)) ((ZN (Ys fixed k)).lt (by decide)) _ _ h
 ·cases h
theorem zr6 (fixed:Bool) (k:Nat):zac (zfU fixed k):=fun t n h =>
 z1 h (fun e he=>Zs _ _ he) fun s t1 _ h1=>z1 h1 (fun e he=>zku _ _ _ _ he) fun a t2 _ h2=>by cases h2
theorem zc2 (fixed:Bool) (k:Nat):zac (Yy fixed k):=fun t n h =>
 zif (zr6 fixed k) ((zhc fixed k).lt (by decide)) _ _ _ _ (Nat.lt_succ_self _) h
theorem zmu {sels:TS→PR (List SelD)} (hs:zac sels) (k:Nat):zac (Zm sels k):=fun t n h=>by
 unfold Zm at h
 split at h
 ·exact z1 h (fun e he=>Zs _ _ he) fun s t1 _ h1=>z1 h1 (fun e he=>zc2 _ _ _ _ he) fun a t2 _ h2=>by cases h2
 ·refine z1 h (fun e he=>?_) fun o t1 _ h1=>z1 h1 (fun e he=>zc2 _ _ _ _ he) fun a t2 _ h2=>z1 h2 (fun e he=>hs _ _ he) fun l t3 _ h3=>by cases h3
  split at he
  ·exact Zs _ _ he
  ·cases he
theorem zrM {sels:TS→PR (List SelD)} (hs:zac sels) (k:Nat):zac (zaM sels k):=fun t n h=>by
 unfold zaM at h
 split at h
 ·exact zmu hs k _ _ h
 ·refine z1 h (fun e he=>Zs _ _ he) fun s t1 _ h1=>z1 h1 (fun e he=>?_) fun an t2 _ h2=>z1 h2 (fun e he=>zku _ _ _ _ he) fun a t3 _ h3=>z1 h3 (fun e he=>zc2 _ _ _ _ he) fun d t4 _ h4=>z1 h4 (fun e he=>?_) fun l t5 _ h5=>by cases h5
  ·split at he
   ·exact z1 he (fun e he=>Zs _ _ he) fun s t2 _ h2=>by cases h2
   ·cases he
  ·split at he
   ·exact hs _ _ he
   ·cases he
theorem zet:∀ k,zac (yn k)
 | 0=>fun t n h=>by
  rw[yn] at h
  split at h<;>(cases h;decide)
 | k+1=>fun t n h=>by
  rw[yn] at h
  split at h
  ·exact zeW (zrM (zet k) k) ((zee (Yj k)).lt (by decide)) _ _ h
  ·cases h;decide
theorem zrW:zac zaK:=fun t n h =>
 z1 h (fun e he=>zco _ _ _ he) fun _ t1 _ h1=>z1 h1 (fun e he=>Zs _ _ he) fun s t2 _ h2=>z1 h2 (fun e he=>zco _ _ _ he) fun _ t3 _ h3=>z1 h3 (fun e he=>zng 4 _ _ he) fun ty t4 _ h4=>by
  split at h4
  ·exact z1 h4 (fun e he=>zjq true 16 _ _ he) fun v t5 _ h5=>by cases h5
  ·cases h4
theorem zpe (kind:Int):zac (opP kind):=fun t n h=>by
 refine z1 h (fun e he=>?_) fun s t1 _ h1=>z1 h1 (fun e he=>?_) fun vs t2 _ h2=>z1 h2 (fun e he=>zc2 _ _ _ _ he) fun d t3 _ h3=>z1 h3 (fun e he=>zet 16 _ _ he) fun l t4 _ h4=>by cases h4
 ·split at he
  ·exact Zs _ _ he
  ·cases he
 ·split at he
  ·exact zeW zrW (zbn.lt (by decide)) _ _ he
  ·cases he
theorem zoO:zac zct:=fun t n h=>by
 refine z1 h (fun e he=>?_) fun s t1 _ h1=>z1 h1 (fun e he=>?_) fun _ t2 _ h2=>z1 h2 (fun e he=>Zs _ _ he) fun o t3 _ h3=>z1 h3 (fun e he=>zc2 _ _ _ _ he) fun d t4 _ h4=>z1 h4 (fun e he=>zet 16 _ _ he) fun l t5 _ h5=>by cases h5
 ·split at he
  ·cases he;decide
  ·exact Zs _ _ he
 ·split at he
  ·cases he
  ·cases he;decide
theorem zmN (d:DocD):zac (YG d):=fun t n h=>by
 unfold YG at h
 split at h
 ·exact z1 h (fun e he=>zet 16 _ _ he) fun l t1 _ h1=>by cases h1
 split at h
 ·exact z1 h (fun e he=>zpe _ _ _ he) fun l t1 _ h1=>by cases h1
 split at h
 ·exact z1 h (fun e he=>zpe _ _ _ he) fun l t1 _ h1=>by cases h1
 split at h
 ·exact z1 h (fun e he=>zoO _ _ he) fun l t1 _ h1=>by cases h1
 ·cases h;decide
theorem zkz {d d' : DocD} {t t' : TS} (h : YG d t = .ok (d', t')) : t'.length < t.length := by
  unfold YG at h
  split at h
  · obtain ⟨l, t1, h1, h2⟩ := zZ h
    cases h2; exact (Yj 16).lt (by decide) _ _ _ h1
  split at h
  · rename_i hq
    obtain ⟨l, t1, h1, h2⟩ := zZ h
    have : t.tail.length < t.length := by conv => rhs; rw [YX (zcR hq)]
                                          simp
    have h3 := (zgc 0).lt (by decide) _ _ _ h1
    cases h2; omega
  split at h
  · rename_i hq
    obtain ⟨l, t1, h1, h2⟩ := zZ h
    have : t.tail.length < t.length := by conv => rhs; rw [YX (zcR hq)]
                                          simp
    have h3 := (zgc 1).lt (by decide) _ _ _ h1
    cases h2; omega
  split at h
  · rename_i hq
    obtain ⟨l, t1, h1, h2⟩ := zZ h
    have : t.tail.length < t.length := by conv => rhs; rw [YX (zcR hq)]
                                          simp
    have h3 := ziQ.lt (by decide) _ _ _ h1
    cases h2; omega
  · cases h
theorem zkh:∀(n:Nat) (d:DocD) (t:TS) (e:Int),t.length<n→Y6 n d t=.error e→e≠0
 | 0,_,_,_,h,_=>absurd h (Nat.not_lt_zero _)
 | n+1,d,t,e,hn,h=>by
  rw[Y6] at h
  split at h
  ·cases h
  ·exact z1 h (fun k hk=>zmN _ _ _ hk) fun d' t' ha h'=>zkh n _ _ _ (by have:=zkz ha;omega) h'
theorem zr2:zac zhC:=fun t n h =>
 z1 h (fun e he=>zmN _ _ _ he) fun d t1 ha h1=>zkh _ _ _ _ (by have:=zkz ha;omega) h1
theorem zqm (p:List UInt8→Bool):∀ l:List (List UInt8),wL (l.dropWhile p)≤wL l
 | []=>Al4 _
 | x::r=>by
  rw[List.dropWhile_cons]
  split
  ·have:=zqm p r;rw[Yq];omega
  ·exact Al4 _
theorem zpK (l:List (List UInt8)):wL l.reverse=wL l:=by
 induction l with
 | nil=>rfl
 | cons x r ih=>rw[List.reverse_cons,zmy,ih,Yq,Yq];simp[wL];omega
theorem zlQ (raw:List UInt8):(Zw raw).length≤raw.length+1:=by
 have h1:=zdf raw []
 have h2:wL (zdA (yo raw))≤wL (yo raw):=by
  cases hx:yo raw with
  | nil=>exact Al4 _
  | cons x r =>
   simp only[zdA]
   rw[Yq,Yq]
   have:=zjD (indM (x::r)).toNat r
   omega
 unfold Zw zeH
 have h3:=zgk ((((zdA (yo raw)).dropWhile yQ).reverse.dropWhile yQ).reverse)
 rw[zpK] at h3
 have h4:=zqm yQ ((zdA (yo raw)).dropWhile yQ).reverse
 rw[zpK] at h4
 have h5:=zqm yQ (zdA (yo raw))
 have h6:wL (yo raw)≤raw.length+1:=by simpa[wL,yo] using h1
 omega
theorem ztA {s t:List UInt8} {x:Tok} (h:ZB s=some (x,t)):x.s.length+t.length≤s.length+1:=by
 cases s with
 | nil=>cases h
 | cons c r =>
  rw[ziI] at h
  split at h
  ·cases hr:Yg (r.length+1) [] (r.drop 2) with
   | none=>rw[hr] at h;cases h
   | some y =>
    rw[hr] at h
    simp only[zas,Al1,Al8] at h
    obtain⟨rfl,rfl⟩:=h
    have h1:=(zgS _ _ _ _ _ (show Yg _ _ _=some (y.1,y.2) from hr)).1
    have h2:=zlQ y.1
    simp at h1 ⊢
    omega
  split at h
  ·cases hr:Y7 Zd r with
   | none=>rw[hr] at h;cases h
   | some y =>
    rw[hr] at h
    simp only[zas,Al1,Al8] at h
    obtain⟨rfl,rfl⟩:=h
    have h1:=zth (show Y7 Zd r=some (y.1,y.2) from hr)
    simp only[Al2]
    omega
  split at h
  ·rename_i hp
   have hl:=Yd _ _ hp
   have hd3:Z7.length=3:=rfl
   rw[hd3] at hl
   cases h;simp[hd3] at hl ⊢;omega
  split at h
  ·cases h;simp;omega
  split at h
  ·cases h;simp;omega
  split at h
  ·cases h
  split at h
  ·cases h
  ·cases h;simp;omega
theorem zj2:∀(n:Nat) (l:List Tok) (s:List UInt8) (l':List Tok),Z3 n l s=.ok l'→wT l'≤wT l+6*s.length
 | 0,_,_,_,h=>by cases h
 | n+1,l,s,l',h=>by
  simp only[Z3] at h
  split at h
  ·cases h;omega
  split at h
  ·have:=zj2 n _ _ _ h
   simp at this;omega
  ·cases ho:ZB s with
   | none=>rw[ho] at h;cases h
   | some x =>
    rw[ho] at h
    have h1:=zew (show ZB s=some (x.1,x.2) from ho)
    have h2:=ztA (show ZB s=some (x.1,x.2) from ho)
    have h3:=zj2 n _ _ _ h
    have h4:wT (l++[x.1])=wT l+wK x.1:=by simp[wT]
    rw[h4,wK] at h3
    omega
theorem zq6 {s:List UInt8} {L:List Tok} (h:YE s=.ok L):wT L≤yN:=by
 obtain⟨h1,_,h3⟩:=zpz h
 have h4:=zj2 _ _ _ _ h3
 have e:wT ([]:List Tok)=0:=rfl
 rw[e] at h4
 simp only[yN];omega
def zji (s:List UInt8):DocD×Int:=match YE s with
 | .error n=>(⟨[],[]⟩,n)
 | .ok L=>match zhC L with
  | .error n=>(⟨[],[]⟩,n)
  | .ok (d,_)=>(d,0)
theorem zrU {s:List UInt8} {L:List Tok} {n:Int} (h:YE s=.ok L) (he:zhC L=.error n):n≠0:=zr2 _ _ he
theorem zti {b4 b6:Nat} {x y:AObj} (h:b6≠b4):(za.emp.upd b4 x).upd b6 y=za.union (za.one b6 y) (za.one b4 x):=by
 funext c
 by_cases e1:c=b6
 ·subst e1;simp[za.union,za.upd,za.one]
 ·by_cases e2:c=b4
  ·subst e2;simp[za.union,za.upd,za.one,e1]
  ·simp[za.union,za.upd,za.one,e1,e2,za.emp]
theorem zqX {b4 b6:Nat} {x y:AObj} (h:b6≠b4):za.Disj (za.one b6 y) (za.one b4 x):=fun c=>by
 by_cases e:c=b4
 ·subst e;exact .inl (by simp[za.one,Ne.symm h])
 ·exact .inr (by simp[za.one,e])
theorem zvj {A:za} {b4:Nat} {x:AObj} (h:za.Disj A (za.one b4 x)):za.union A (za.one b4 x) b4=some x:=by
 have hB:za.one b4 x b4=some x:=by simp[za.one]
 rcases h b4 with h|h
 ·simp[za.union,h,hB]
 ·rw[hB] at h;cases h
theorem zvC {A B:za} {b:Nat} {x:AObj} (h:A b=some x):za.union A B b=some x:=by simp[za.union,h]
abbrev zmn:List AV:=[.sl .nil 5 [],.sl .nil 4 []]
def zpt (s:List UInt8) (b:Nat) (n:Int) (H:za):Prop:=(n≠0∧zji s=(⟨[],[]⟩,n))∨(n=0∧∃ d o1 o2,zji s=(d,0)∧H b=some (.cells [.sl o1 5 (cOs d.ops),.sl o2 4 (cFs d.frags)]))
theorem zrQ {s:List UInt8} {L:List Tok} (hR:YE s=.ok L) {Hc:za} {b6 r:Nat} (h6:Hc b6=some (.cells zmn)) (hr:Hc r=none) :
  zj Tryz.prog 90 [.ptr r 0,.ptr b6 0] (Hc.upd r (prc L [] 0)) (fun e H'=>match e with
   | .ret _=>∃ p t dp,p++t=L∧H' r=some (prc L p dp)∧zpt s b6 (if t=[] then 0 else 2) H'
   | .pan v=>∃ n,v=Ze n∧∀ H,zpt s b6 n H):=by
 refine zj.goO (R:=fun _ H'=>∃ p t dp,p++t=L∧H' r=some (prc L p dp)∧zpt s b6 (if t=[] then 0 else 2) H') (RP:=fun v _=>∃ n,v=Ze n∧∀ H,zpt s b6 n H) ir90 ck90 (Al4 _) fun KP Q hQ hP=>?_
 have n6:b6≠r:=fun e=>by subst e;rw[hr] at h6;cases h6
 have hw:=zq6 hR
 have pan:∀(v:AV) (H1:za) (n:Int),v=Ze n→zhC L=.error n→KP v H1:=fun v H1 n h1 h2=>hP v H1 H1 (Low.refl _) ⟨n,h1,fun H=>.inl ⟨zrU hR h2,by unfold zji;rw[hR];simp only[h2]⟩⟩
 have D0:DI L r b6 (Hc.upd r (prc L [] 0)) L ⟨[],[]⟩ .nil .nil:=⟨⟨[],rfl,upd_same ..⟩,by rw[upd_ne n6];exact h6,rfl,rfl,nofun,n6⟩
 simp(disch:=first|omega|assumption) only[ir90,go_sem]
 refine zda (zsY D0 hw (Nat.zero_le _)) fun e H1 hq=>?_
 cases e with
 | pan v =>
  obtain⟨n,hv,he⟩:=hq
  exact pan v H1 n hv (by unfold zhC;rw[he];rfl)
 | ret v =>
  obtain⟨d1,t1,o1,o2,e1,hv,D1,hl1,hlt1⟩:=hq
  subst hv
  obtain⟨R,hRR⟩:∃ R,Y6 (L.length+1-0) d1 t1=R:=⟨_,rfl⟩
  have hx:zhC L=Y6 (t1.length+1) d1 t1:=by unfold zhC;rw[e1];rfl
  obtain⟨R,hRR⟩:∃ R,Y6 (t1.length+1) d1 t1=R:=⟨_,rfl⟩
  rw[hRR] at hx
  show goR _ _ _ _ _ _ _ _ _
  simp(disch:=first|omega|assumption) only[go_sem]
  refine yB (fun x:DocD×TS×Own×Own=>[]) (fun x H'=>DI L r b6 H' x.2.1 x.1 x.2.2.1 x.2.2.2∧(∃ m,x.2.1.length<m∧Y6 m x.1 x.2.1=R)∧x.1.ops.length+x.1.frags.length+x.2.1.length≤L.length) (fun x=>x.2.1.length) (d1,t1,o1,o2) (by simp(disch:=first|omega|assumption) only[go_sem]) ⟨D1,⟨_,Nat.lt_succ_self _,hRR⟩,by simpa using hl1⟩ ?_
  rintro⟨d,t,p1,p2⟩ H2 J ⟨D2,⟨m,hm,hR2⟩,hlen⟩ hJ
  simp only at D2 hm hR2 hlen
  obtain⟨m,rfl⟩:∃ j,m=j+1:=⟨m-1,by omega⟩
  obtain⟨q,hq,hr2⟩:=D2.rd
  rw[Y6] at hR2
  simp(disch:=first|omega|assumption) only[go_sem]
  refine zI (zpZ hq hr2) fun v3 H3 ⟨hv3,hH3⟩=>?_
  subst hv3;subst hH3
  by_cases ht:t=[]
  ·rw[if_pos ht] at hR2
   have hd:decide (t≠[])=false:=by simp[ht]
   rw[hd]
   simp(disch:=first|omega|assumption) only[go_sem]
   refine hQ _ _ _ _ [] nofun rfl (Low.refl _) ⟨q,t,16-16,hq,hr2,?_⟩
   rw[if_pos ht]
   exact .inr ⟨rfl,d,p1,p2,by unfold zji;rw[hR];simp only[hx,← hR2],D2.box⟩
  ·rw[if_neg ht] at hR2
   have hd:decide (t≠[])=true:=by simp[ht]
   rw[hd]
   simp(disch:=first|omega|assumption) only[go_sem]
   refine zda (zsY D2 hw (by omega)) fun e H4 hq4=>?_
   cases e with
   | pan v =>
    obtain⟨n,hv,he⟩:=hq4
    exact pan v H4 n hv (by rw[hx,← hR2,he];rfl)
   | ret v =>
    obtain⟨d4,t4,o3,o4,e4,hv,D4,hl4,hlt4⟩:=hq4
    subst hv
    rw[e4,zE] at hR2
    show goR _ _ _ _ _ _ _ _ _
    simp(disch:=first|omega|assumption) only[go_sem]
    exact goJ (hJ (d4,t4,o3,o4) _ (by simp only;omega) ⟨D4,⟨m,by simp only;omega,hR2⟩,by simp only;omega⟩) (by simp(disch:=first|omega|assumption) only[go_sem])
theorem zmx (s:List UInt8) (hl:s.length≤zb8):zq Tryz.prog 40 [.str s] (.tup [.agg (zaj (zji s).1),.int .i64 (zji s).2]):=by
 refine zq.go ir40 ck40 (Al4 _) fun KP Q hQ=>?_
 simp(disch:=first|omega|assumption) only[ir40,go_sem]
 refine zl fun b4 hb4=>?_
 simp(disch:=first|omega|assumption) only[go_sem]
 refine zl fun b6 hb6=>?_
 have h64:b6≠b4:=fun e=>by subst e;rw[upd_same] at hb6;cases hb6
 have h6c:(za.one b6 (.cells zmn)) b6=some (.cells zmn):=by simp[za.one]
 have hc:=zj.frame (zqX (x:=.cells zmn) h64) (zu1 (s:=s) (Hc:=za.one b6 (.cells zmn)) (clo:=90) (caps:=[.ptr b6 0]) hl (by decide +kernel) (zpt s b6)
  (fun n h=>.inl ⟨zil h,by unfold zji;rw[h]⟩) (fun L hR r hr=>zrQ hR h6c hr))
 rw[← zti h64] at hc
 simp(disch:=first|omega|assumption) only[go_sem]
 refine zda hc fun e H' ⟨A',hq,hd',hH'⟩=>?_
 subst hH'
 cases e with
 | pan v=>exact hq.elim
 | ret v =>
  obtain⟨n,hv,ho⟩:=hq
  subst hv
  have g4:=zvj hd'
  simp only[zmn] at g4
  show goR _ _ _ _ _ _ _ _ _
  rcases ho with ⟨hn,he⟩|⟨hn,x,o1,o2,he,h6⟩
  ·rw[he] at hQ
   simp(disch:=first|omega|assumption) only[hn,g4,go_sem]
   exact hQ _ _ _ [.agg [.sl .nil 5 [],.sl .nil 4 []],.int .i64 n] nofun (by simp(disch:=first|omega|assumption) only[ir40,zK,yK,go_sem]) (by simp[zc,AV.strip,AV.strip1,zaj,cOs,cFs])
  ·subst hn
   rw[he] at hQ
   have g6:=zvC (B:=za.one b4 (.cells zmn)) h6
   simp(disch:=first|omega|assumption) only[g4,g6,go_sem]
   exact hQ _ _ _ [.agg [.sl o1 5 (cOs x.ops),.sl o2 4 (cFs x.frags)],.int .i64 0] nofun (by simp(disch:=first|omega|assumption) only[ir40,zK,yK,go_sem]) (by simp[zc,AV.strip,AV.strip1,zaj])
end Go.Proofs.YticbbfbpeimkbaaGreatDoor

namespace Go.Proofs.YticbbfbpeimkbaaGreatDoor
open Go.Ab
theorem zfh (a b:List DirD) (ha:bDs a≤Lim):zq Tryz.prog 153 [.sl .no 2 (cDs a),.sl .no 2 (cDs b)] (.bool (eqd a b)):=by
 refine zq.go ir153 ck153 (Al4 _) fun KP Q hQ=>?_
 have h1:=zev a
 have h2:=zev b
 have hla:=zjR a
 simp only[Lim] at ha
 by_cases hl:a.length=b.length
 case neg =>
  have hl':¬ ((a.length:Int)=b.length):=by omega
  have hne:a≠b:=fun e=>hl (by rw[e])
  simp(disch:=first|omega|assumption) only[ir153,h1,h2,hl',go_sem]
  exact hQ _ _ _ _ nofun rfl (by simp[zc,zd,AV.strip,AV.strip1,zk hne])
 have hl':((a.length:Int)=b.length)=True:=eq_true (by omega)
 simp(disch:=first|omega|assumption) only[ir153,h1,h2,hl',go_sem]
 refine zx a 5 (fun _:Unit=>[]) (fun done rest n H=>b.take done.length=done) () (by simp(disch:=first|omega|assumption) only[go_sem]) rfl ?_ ?_
 ·rintro n H J hp hlt
  simp(disch:=first|omega|assumption) only[h1,hlt,go_sem]
  exact hQ _ _ _ _ nofun rfl (by simp[zc,zd,AV.strip,AV.strip1,yb (zaz hl hp)])
 ·rintro done x rest n H J hd hlt _ hp hJ
  obtain⟨y,r,hb⟩:=zaq hd hl hp
  have g1:=zgi hd
  have g2:=zgi hb
  have hlt2:(done.length:Int)<b.length:=by omega
  have hbm:=zjx done x rest
  rw[← hd] at hbm
  have hst:=Yo hb
  have hne:x≠y→a≠b:=zbJ hd hb
  obtain⟨s,v⟩:=x
  obtain⟨t,u⟩:=y
  simp only[bD] at hbm
  by_cases hs:s=t
  case neg =>
   have hne2:=hne (by simp[hs])
   simp(disch:=first|omega|assumption) only[h1,h2,hlt,hlt2,g1,g2,hs,cD,go_sem]
   exact hQ _ _ _ _ nofun rfl (by simp[zc,zd,AV.strip,AV.strip1,zk hne2])
  simp(disch:=first|omega|assumption) only[h1,h2,hlt,hlt2,g1,g2,hs,cD,go_sem]
  refine zb (zk3 v u (by simp only[Lim];omega)) ?_
  by_cases hv:v=u
  ·simp(disch:=first|omega|assumption) only[yb hv,go_sem]
   exact goJ (hJ () _ (by rw[hs,hv];exact hst)) (by simp(disch:=first|omega|assumption) only[wrap64,go_sem])
  ·have:=hne (by simp[hv])
   simp(disch:=first|omega|assumption) only[zk hv,go_sem]
   exact hQ _ _ _ _ nofun rfl (by simp[zc,zd,AV.strip,AV.strip1,zk this])
theorem zn8:∀ n:Nat,∀ a b:List SelD,bSs a≤n→n≤Lim→zq Tryz.prog 154 [.sl .no 7 (cSs a),.sl .no 7 (cSs b)] (.bool (eqd a b)):=by
 intro n
 induction n using Nat.strongRecOn with
 | _ n ih =>
 intro a b hn hN
 refine zq.go ir154 ck154 (Al4 _) fun KP Q hQ=>?_
 have h1:=zb7 a
 have h2:=zb7 b
 have hla:=zgd a
 have hN':=hN
 simp only[Lim] at hN'
 by_cases hl:a.length=b.length
 case neg =>
  have hl':¬ ((a.length:Int)=b.length):=by omega
  have hne:a≠b:=fun e=>hl (by rw[e])
  simp(disch:=first|omega|assumption) only[ir154,h1,h2,hl',go_sem]
  exact hQ _ _ _ _ nofun rfl (by simp[zc,zd,AV.strip,AV.strip1,zk hne])
 have hl':((a.length:Int)=b.length)=True:=eq_true (by omega)
 simp(disch:=first|omega|assumption) only[ir154,h1,h2,hl',go_sem]
 refine zx a 5 (fun _:Unit=>[]) (fun done rest n H=>b.take done.length=done) () (by simp(disch:=first|omega|assumption) only[go_sem]) rfl ?_ ?_
 ·rintro n H J hp hlt
  simp(disch:=first|omega|assumption) only[h1,hlt,go_sem]
  exact hQ _ _ _ _ nofun rfl (by simp[zc,zd,AV.strip,AV.strip1,yb (zaz hl hp)])
 ·rintro done x rest _ H J hd hlt _ hp hJ
  obtain⟨y,r,hb⟩:=zaq hd hl hp
  have g1:=zdu hd
  have g2:=zdu hb
  have hlt2:(done.length:Int)<b.length:=by omega
  have hbm:=zeL done x rest
  rw[← hd] at hbm
  have hst:=Yo hb
  have hne:x≠y→a≠b:=zbJ hd hb
  obtain⟨k,al,nm,args,dirs,on,sels⟩:=x
  obtain⟨k',al',nm',args',dirs',on',sels'⟩:=y
  simp only[bS] at hbm
  rw[Y4] at g1 g2
  simp(disch:=first|omega|assumption) only[h1,h2,hlt,hlt2,g1,g2,go_sem]
  refine zl fun b6 hb6=>?_
  simp(disch:=first|omega|assumption) only[h1,h2,hlt,hlt2,g1,g2,go_sem]
  refine zl fun b7 hb7=>?_
  have n76:b7≠b6:=fun e=>by subst e;rw[upd_same] at hb7;cases hb7
  have n67:=Ne.symm n76
  simp(disch:=first|omega|assumption) only[h1,h2,hlt,hlt2,g1,g2,n67,n76,go_sem]
  by_cases e1:k=k'
  case neg =>
   have hne2:=hne (by simp[e1])
   simp(disch:=first|omega|assumption) only[e1,n67,n76,go_sem]
   exact hQ _ _ _ _ nofun rfl (by simp[zc,zd,AV.strip,AV.strip1,zk hne2])
  by_cases e2:al=al'
  case neg =>
   have hne2:=hne (by simp[e2])
   simp(disch:=first|omega|assumption) only[e1,e2,n67,n76,go_sem]
   exact hQ _ _ _ _ nofun rfl (by simp[zc,zd,AV.strip,AV.strip1,zk hne2])
  by_cases e3:nm=nm'
  case neg =>
   have hne2:=hne (by simp[e3])
   simp(disch:=first|omega|assumption) only[e1,e2,e3,n67,n76,go_sem]
   exact hQ _ _ _ _ nofun rfl (by simp[zc,zd,AV.strip,AV.strip1,zk hne2])
  by_cases e4:on=on'
  case neg =>
   have hne2:=hne (by simp[e4])
   simp(disch:=first|omega|assumption) only[e1,e2,e3,e4,n67,n76,go_sem]
   exact hQ _ _ _ _ nofun rfl (by simp[zc,zd,AV.strip,AV.strip1,zk hne2])
  simp(disch:=first|omega|assumption) only[e1,e2,e3,e4,n67,n76,go_sem]
  refine zb (zk3 args args' (by omega)) ?_
  by_cases e5:args=args'
  case neg =>
   have hne2:=hne (by simp[e5])
   simp(disch:=first|omega|assumption) only[zk e5,n67,n76,go_sem]
   exact hQ _ _ _ _ nofun rfl (by simp[zc,zd,AV.strip,AV.strip1,zk hne2])
  simp(disch:=first|omega|assumption) only[yb e5,n67,n76,go_sem]
  refine zb (zfh dirs dirs' (by omega)) ?_
  by_cases e6:dirs=dirs'
  case neg =>
   have hne2:=hne (by simp[e6])
   simp(disch:=first|omega|assumption) only[zk e6,n67,n76,go_sem]
   exact hQ _ _ _ _ nofun rfl (by simp[zc,zd,AV.strip,AV.strip1,zk hne2])
  simp(disch:=first|omega|assumption) only[yb e6,n67,n76,go_sem]
  refine zb (ih (bSs sels) (by omega) sels sels' (Al4 _) (by omega)) ?_
  by_cases e7:sels=sels'
  case neg =>
   have hne2:=hne (by simp[e7])
   simp(disch:=first|omega|assumption) only[zk e7,n67,n76,go_sem]
   exact hQ _ _ _ _ nofun rfl (by simp[zc,zd,AV.strip,AV.strip1,zk hne2])
  simp(disch:=first|omega|assumption) only[yb e7,n67,n76,go_sem]
  exact goJ (hJ () _ (by rw[e1,e2,e3,e4,e5,e6,e7];exact hst)) (by simp(disch:=first|omega|assumption) only[wrap64,go_sem])
theorem zib (a b:List SelD) (ha:bSs a≤Lim):zq Tryz.prog 154 [.sl .no 7 (cSs a),.sl .no 7 (cSs b)] (.bool (eqd a b)):=zn8 (bSs a) a b (Al4 _) ha
theorem zq8 (a b:OpD) (ha:bO a≤Lim):zq Tryz.prog 85 [.agg (cO a),.agg (cO b)] (.bool (eqd a b)):=by
 refine zq.go ir85 ck85 (Al4 _) fun KP Q hQ=>?_
 obtain⟨k,nm,vars,dirs,sels⟩:=a
 obtain⟨k',nm',vars',dirs',sels'⟩:=b
 simp only[bO] at ha
 have h1:=zdk vars
 have h2:=zdk vars'
 have hla:=zjc vars
 have ha':=ha
 simp only[Lim] at ha'
 simp(disch:=first|omega|assumption) only[ir85,cO,go_sem]
 by_cases e1:k=k'
 case neg =>
  have hne:OpD.mk k nm vars dirs sels≠OpD.mk k' nm' vars' dirs' sels':=by simp[e1]
  simp(disch:=first|omega|assumption) only[e1,go_sem]
  exact hQ _ _ _ _ nofun rfl (by simp[zc,zd,AV.strip,AV.strip1,zk hne])
 by_cases e2:nm=nm'
 case neg =>
  have hne:OpD.mk k nm vars dirs sels≠OpD.mk k' nm' vars' dirs' sels':=by simp[e2]
  simp(disch:=first|omega|assumption) only[e1,e2,go_sem]
  exact hQ _ _ _ _ nofun rfl (by simp[zc,zd,AV.strip,AV.strip1,zk hne])
 by_cases hl:vars.length=vars'.length
 case neg =>
  have hl':¬ ((vars.length:Int)=vars'.length):=by omega
  have hne:OpD.mk k nm vars dirs sels≠OpD.mk k' nm' vars' dirs' sels':=fun e=>hl (by rw[(OpD.mk.inj e).2.2.1])
  simp(disch:=first|omega|assumption) only[e1,e2,h1,h2,hl',go_sem]
  exact hQ _ _ _ _ nofun rfl (by simp[zc,zd,AV.strip,AV.strip1,zk hne])
 have hl':((vars.length:Int)=vars'.length)=True:=eq_true (by omega)
 simp(disch:=first|omega|assumption) only[e1,e2,h1,h2,hl',go_sem]
 refine zb (zfh dirs dirs' (by omega)) ?_
 by_cases e3:dirs=dirs'
 case neg =>
  have hne:OpD.mk k nm vars dirs sels≠OpD.mk k' nm' vars' dirs' sels':=by simp[e3]
  simp(disch:=first|omega|assumption) only[zk e3,go_sem]
  exact hQ _ _ _ _ nofun rfl (by simp[zc,zd,AV.strip,AV.strip1,zk hne])
 simp(disch:=first|omega|assumption) only[yb e3,go_sem]
 refine zb (zib sels sels' (by omega)) ?_
 by_cases e4:sels=sels'
 case neg =>
  have hne:OpD.mk k nm vars dirs sels≠OpD.mk k' nm' vars' dirs' sels':=by simp[e4]
  simp(disch:=first|omega|assumption) only[zk e4,go_sem]
  exact hQ _ _ _ _ nofun rfl (by simp[zc,zd,AV.strip,AV.strip1,zk hne])
 simp(disch:=first|omega|assumption) only[yb e4,go_sem]
 refine zx vars 5 (fun _:Unit=>[]) (fun done rest n H=>vars'.take done.length=done) () (by simp(disch:=first|omega|assumption) only[go_sem]) rfl ?_ ?_
 ·rintro n H J hp hlt
  have e5:=zaz hl hp
  simp(disch:=first|omega|assumption) only[h1,hlt,go_sem]
  have heq:OpD.mk k nm vars dirs sels=OpD.mk k' nm' vars' dirs' sels':=by rw[e1,e2,e3,e4,e5]
  exact hQ _ _ _ _ nofun rfl (by simp[zc,zd,AV.strip,AV.strip1,yb heq])
 ·rintro done x rest _ H J hd hlt _ hp hJ
  obtain⟨y,r,hb⟩:=zaq hd hl hp
  have g1:=zat hd
  have g2:=zat hb
  have hlt2:(done.length:Int)<vars'.length:=by omega
  have hbm:=zba done x rest
  rw[← hd] at hbm
  have hst:=Yo hb
  have hne0:x≠y→vars≠vars':=zbJ hd hb
  have hne:x≠y→OpD.mk k nm vars dirs sels≠OpD.mk k' nm' vars' dirs' sels':=fun h e=>hne0 h (OpD.mk.inj e).2.2.1
  obtain⟨vn,⟨tn,tl,tm⟩,vh,vd⟩:=x
  obtain⟨vn',⟨tn',tl',tm'⟩,vh',vd'⟩:=y
  simp only[bW] at hbm
  obtain⟨dk,dn,ds,dl,dm⟩:=vd
  obtain⟨dk',dn',ds',dl',dm'⟩:=vd'
  rw[zcV,yY] at g1 g2
  simp only at g1 g2
  simp(disch:=first|omega|assumption) only[h1,h2,hlt,hlt2,g1,g2,go_sem]
  refine zl fun b6 hb6=>?_
  simp(disch:=first|omega|assumption) only[h1,h2,hlt,hlt2,g1,g2,go_sem]
  refine zl fun b7 hb7=>?_
  have n76:b7≠b6:=fun e=>by subst e;rw[upd_same] at hb7;cases hb7
  have n67:=Ne.symm n76
  simp(disch:=first|omega|assumption) only[h1,h2,hlt,hlt2,g1,g2,n67,n76,go_sem]
  by_cases f1:vn=vn'
  case neg =>
   have hne2:=hne (by simp[f1])
   simp(disch:=first|omega|assumption) only[f1,n67,n76,go_sem]
   exact hQ _ _ _ _ nofun rfl (by simp[zc,zd,AV.strip,AV.strip1,zk hne2])
  by_cases f3:tn=tn'
  case neg =>
   have hne2:=hne (by simp[f3])
   simp(disch:=first|omega|assumption) only[f1,f3,n67,n76,yl,K1.fits,zb3,AV.keq1,Bool.and_true,Bool.true_and,Bool.and_false,Bool.false_and,decide_true,decide_false,go_sem]
   exact hQ _ _ _ _ nofun rfl (by simp[zc,zd,AV.strip,AV.strip1,zk hne2])
  by_cases f4:tl=tl'
  case neg =>
   have hne2:=hne (by simp[f4])
   simp(disch:=first|omega|assumption) only[f1,f3,f4,n67,n76,yl,K1.fits,zb3,AV.keq1,Bool.and_true,Bool.true_and,Bool.and_false,Bool.false_and,decide_true,decide_false,go_sem]
   exact hQ _ _ _ _ nofun rfl (by simp[zc,zd,AV.strip,AV.strip1,zk hne2])
  by_cases f5:tm=tm'
  case neg =>
   have hne2:=hne (by simp[f5])
   simp(disch:=first|omega|assumption) only[f1,f3,f4,f5,n67,n76,yl,K1.fits,zb3,AV.keq1,Bool.and_true,Bool.true_and,Bool.and_false,Bool.false_and,decide_true,decide_false,go_sem]
   exact hQ _ _ _ _ nofun rfl (by simp[zc,zd,AV.strip,AV.strip1,zk hne2])
  have q1:(false==true)=false:=rfl
  have q2:(true==false)=false:=rfl
  have q3:(true==true)=true:=rfl
  have q4:(false==false)=true:=rfl
  by_cases f6:vh=vh'
  case neg =>
   have hne2:=hne (by simp[f6])
   cases vh<;>cases vh'<;>first|exact absurd rfl f6|skip
   all_goals
    simp(disch:=first|omega|assumption) only[f1,f3,f4,f5,n67,n76,q1,q2,q3,q4,Bool.not_true,Bool.not_false,yl,K1.fits,zb3,AV.keq1,Bool.and_true,Bool.true_and,Bool.and_false,Bool.false_and,decide_true,decide_false,go_sem]
    exact hQ _ _ _ _ nofun rfl (by simp[zc,zd,AV.strip,AV.strip1,zk hne2])
  subst f6
  cases vh
  all_goals
   simp(disch:=first|omega|assumption) only[f1,f3,f4,f5,n67,n76,q1,q2,q3,q4,Bool.not_true,Bool.not_false,yl,K1.fits,zb3,AV.keq1,Bool.and_true,Bool.true_and,Bool.and_false,Bool.false_and,decide_true,decide_false,go_sem]
   refine zb (zsT (.mk dk dn ds dl dm) (by omega) (.mk dk' dn' ds' dl' dm')) ?_
   by_cases f7:Val.mk dk dn ds dl dm=.mk dk' dn' ds' dl' dm'
   case neg =>
    have hne2:=hne (fun e=>f7 (VarD.mk.inj e).2.2.2)
    simp(disch:=first|omega|assumption) only[zk f7,go_sem]
    exact hQ _ _ _ _ nofun rfl (by simp[zc,zd,AV.strip,AV.strip1,zk hne2])
   simp(disch:=first|omega|assumption) only[yb f7,go_sem]
   exact goJ (hJ () _ (by rw[f1,f3,f4,f5,f7];exact hst)) (by simp(disch:=first|omega|assumption) only[wrap64,go_sem])
theorem zom (a b:FragD) (ha:bF a≤Lim):zq Tryz.prog 86 [.agg (cF a),.agg (cF b)] (.bool (eqd a b)):=by
 refine zq.go ir86 ck86 (Al4 _) fun KP Q hQ=>?_
 obtain⟨nm,on,dirs,sels⟩:=a
 obtain⟨nm',on',dirs',sels'⟩:=b
 simp only[bF] at ha
 have ha':=ha
 simp only[Lim] at ha'
 simp(disch:=first|omega|assumption) only[ir86,cF,go_sem]
 by_cases e1:nm=nm'
 case neg =>
  have hne:FragD.mk nm on dirs sels≠FragD.mk nm' on' dirs' sels':=by simp[e1]
  simp(disch:=first|omega|assumption) only[e1,go_sem]
  exact hQ _ _ _ _ nofun rfl (by simp[zc,zd,AV.strip,AV.strip1,zk hne])
 by_cases e2:on=on'
 case neg =>
  have hne:FragD.mk nm on dirs sels≠FragD.mk nm' on' dirs' sels':=by simp[e2]
  simp(disch:=first|omega|assumption) only[e1,e2,go_sem]
  exact hQ _ _ _ _ nofun rfl (by simp[zc,zd,AV.strip,AV.strip1,zk hne])
 simp(disch:=first|omega|assumption) only[e1,e2,go_sem]
 refine zb (zfh dirs dirs' (by omega)) ?_
 by_cases e3:dirs=dirs'
 case neg =>
  have hne:FragD.mk nm on dirs sels≠FragD.mk nm' on' dirs' sels':=by simp[e3]
  simp(disch:=first|omega|assumption) only[zk e3,go_sem]
  exact hQ _ _ _ _ nofun rfl (by simp[zc,zd,AV.strip,AV.strip1,zk hne])
 simp(disch:=first|omega|assumption) only[yb e3,go_sem]
 refine zb (zib sels sels' (by omega)) ?_
 by_cases e4:sels=sels'
 case neg =>
  have hne:FragD.mk nm on dirs sels≠FragD.mk nm' on' dirs' sels':=by simp[e4]
  simp(disch:=first|omega|assumption) only[zk e4,go_sem]
  exact hQ _ _ _ _ nofun rfl (by simp[zc,zd,AV.strip,AV.strip1,zk hne])
 have heq:FragD.mk nm on dirs sels=FragD.mk nm' on' dirs' sels':=by rw[e1,e2,e3,e4]
 simp(disch:=first|omega|assumption) only[yb e4,go_sem]
 exact hQ _ _ _ _ nofun rfl (by simp[zc,zd,AV.strip,AV.strip1,yb heq])
theorem zp0 (a b:DocD) (ha:zcw a≤Lim):zq Tryz.prog 34 [.agg (zaj a),.agg (zaj b)] (.bool (eqd a b)):=by
 refine zq.go ir34 ck34 (Al4 _) fun KP Q hQ=>?_
 obtain⟨ops,frags⟩:=a
 obtain⟨ops',frags'⟩:=b
 simp only[zcw] at ha
 have h1:=zem ops
 have h2:=zem ops'
 have h3:=zel frags
 have h4:=zel frags'
 have hla:=zjm ops
 have hlb:=zjE frags
 have ha':=ha
 simp only[Lim] at ha'
 have ea:zaj ⟨ops,frags⟩=[.sl .no 5 (cOs ops),.sl .no 4 (cFs frags)]:=rfl
 have eb:zaj ⟨ops',frags'⟩=[.sl .no 5 (cOs ops'),.sl .no 4 (cFs frags')]:=rfl
 rw[ea,eb]
 by_cases hl:ops.length=ops'.length
 case neg =>
  have hl':¬ ((ops.length:Int)=ops'.length):=by omega
  have hne:DocD.mk ops frags≠DocD.mk ops' frags':=fun e=>hl (by rw[(DocD.mk.inj e).1])
  simp(disch:=first|omega|assumption) only[ir34,h1,h2,hl',go_sem]
  exact hQ _ _ _ _ nofun rfl (by simp[zc,zd,AV.strip,AV.strip1,zk hne])
 have hl':((ops.length:Int)=ops'.length)=True:=eq_true (by omega)
 by_cases hk:frags.length=frags'.length
 case neg =>
  have hk':¬ ((frags.length:Int)=frags'.length):=by omega
  have hne:DocD.mk ops frags≠DocD.mk ops' frags':=fun e=>hk (by rw[(DocD.mk.inj e).2])
  simp(disch:=first|omega|assumption) only[ir34,h1,h2,hl',h3,h4,hk',go_sem]
  exact hQ _ _ _ _ nofun rfl (by simp[zc,zd,AV.strip,AV.strip1,zk hne])
 have hk':((frags.length:Int)=frags'.length)=True:=eq_true (by omega)
 simp(disch:=first|omega|assumption) only[ir34,h1,h2,hl',h3,h4,hk',go_sem]
 refine zx ops 5 (fun _:Unit=>[]) (fun done rest n H=>ops'.take done.length=done) () (by simp(disch:=first|omega|assumption) only[go_sem]) rfl ?_ ?_
 ·rintro n H J hp hlt
  have e5:=zaz hl hp
  simp(disch:=first|omega|assumption) only[h1,hlt,go_sem]
  refine zx frags 6 (fun _:Unit=>[]) (fun done rest n H=>frags'.take done.length=done) () (by simp(disch:=first|omega|assumption) only[go_sem]) rfl ?_ ?_
  ·rintro n H J hp hlt
   have e6:=zaz hk hp
   have heq:DocD.mk ops frags=DocD.mk ops' frags':=by rw[e5,e6]
   simp(disch:=first|omega|assumption) only[h3,hlt,go_sem]
   exact hQ _ _ _ _ nofun rfl (by simp[zc,zd,AV.strip,AV.strip1,yb heq])
  ·rintro done x rest _ H J hd hlt _ hp hJ
   obtain⟨y,r,hb⟩:=zaq hd hk hp
   have g1:=zge hd
   have g2:=zge hb
   have hlt2:(done.length:Int)<frags'.length:=by omega
   have hbm:=zjW done x rest
   rw[← hd] at hbm
   have hst:=Yo hb
   have hne0:x≠y→frags≠frags':=zbJ hd hb
   have hne:x≠y→DocD.mk ops frags≠DocD.mk ops' frags':=fun e e2=>hne0 e (DocD.mk.inj e2).2
   have hS:=zom x y (by simp only[Lim];omega)
   obtain⟨nm,on,dirs,sels⟩:=x
   obtain⟨nm',on',dirs',sels'⟩:=y
   have ex:cF ⟨nm,on,dirs,sels⟩=[.str nm,.str on,.sl .no 2 (cDs dirs),.sl .no 7 (cSs sels)]:=rfl
   have ey:cF ⟨nm',on',dirs',sels'⟩=[.str nm',.str on',.sl .no 2 (cDs dirs'),.sl .no 7 (cSs sels')]:=rfl
   rw[ex] at g1 hS
   rw[ey] at g2 hS
   simp(disch:=first|omega|assumption) only[h3,h4,hlt,hlt2,g1,g2,go_sem]
   refine zb hS ?_
   by_cases hv:FragD.mk nm on dirs sels=FragD.mk nm' on' dirs' sels'
   ·simp(disch:=first|omega|assumption) only[yb hv,go_sem]
    exact goJ (hJ () _ (by rw[hv];exact hst)) (by simp(disch:=first|omega|assumption) only[wrap64,go_sem])
   ·have:=hne hv
    simp(disch:=first|omega|assumption) only[zk hv,go_sem]
    exact hQ _ _ _ _ nofun rfl (by simp[zc,zd,AV.strip,AV.strip1,zk this])
 ·rintro done x rest _ H J hd hlt _ hp hJ
  obtain⟨y,r,hb⟩:=zaq hd hl hp
  have g1:=zgh hd
  have g2:=zgh hb
  have hlt2:(done.length:Int)<ops'.length:=by omega
  have hbm:=zjg done x rest
  rw[← hd] at hbm
  have hst:=Yo hb
  have hne0:x≠y→ops≠ops':=zbJ hd hb
  have hne:x≠y→DocD.mk ops frags≠DocD.mk ops' frags':=fun e e2=>hne0 e (DocD.mk.inj e2).1
  have hS:=zq8 x y (by simp only[Lim];omega)
  obtain⟨k,nm,vars,dirs,sels⟩:=x
  obtain⟨k',nm',vars',dirs',sels'⟩:=y
  have ex:cO ⟨k,nm,vars,dirs,sels⟩=[.int .i64 k,.str nm,.sl .no 10 (cWs vars),.sl .no 2 (cDs dirs),.sl .no 7 (cSs sels)]:=rfl
  have ey:cO ⟨k',nm',vars',dirs',sels'⟩=[.int .i64 k',.str nm',.sl .no 10 (cWs vars'),.sl .no 2 (cDs dirs'),.sl .no 7 (cSs sels')]:=rfl
  rw[ex] at g1 hS
  rw[ey] at g2 hS
  simp(disch:=first|omega|assumption) only[h1,h2,hlt,hlt2,g1,g2,go_sem]
  refine zb hS ?_
  by_cases hv:OpD.mk k nm vars dirs sels=OpD.mk k' nm' vars' dirs' sels'
  ·simp(disch:=first|omega|assumption) only[yb hv,go_sem]
   exact goJ (hJ () _ (by rw[hv];exact hst)) (by simp(disch:=first|omega|assumption) only[wrap64,go_sem])
  ·have:=hne hv
   simp(disch:=first|omega|assumption) only[zk hv,go_sem]
   exact hQ _ _ _ _ nofun rfl (by simp[zc,zd,AV.strip,AV.strip1,zk this])
def zod (t t':TS):Prop:=hdT t'=hdT t∨hdT t'=⟨0,[]⟩
theorem zod.pre {c t t':TS} (h:c≠[]∨zod t t'):zod (c++t) (c++t'):=by
 cases c with
 | nil=>exact h.resolve_left (fun e=>e rfl)
 | cons x c=>exact .inl rfl
def Lk {α:Type} (one:Bool) (f:TS→PR α):Prop:=∀ t a t',f t=.ok (a,t')→∃ c,(one=true→c≠[])∧t=c++t'∧∀ t'',zod t' t''→f (c++t'')=.ok (a,t'')
def Cl {α:Type} (f:TS→PR α):Prop:=∀ t a t',f t=.ok (a,t')→∃ c,c≠[]∧t=c++t'∧∀ t'',f (c++t'')=.ok (a,t'')
theorem Lk.bind {α β:Type} {one two:Bool} {f:TS→PR α} {g:α→TS→PR β} (hf:Lk one f) (hg:∀ a,Lk two (g a)):Lk (one||two) (fun t=>pb (f t) g):=fun t b t' h=>by
 obtain⟨a,t1,h1,h2⟩:=zZ h
 obtain⟨c1,n1,e1,k1⟩:=hf _ _ _ h1
 obtain⟨c2,n2,e2,k2⟩:=hg a _ _ _ h2
 subst e2
 refine⟨c1++c2,fun e=>?_,by rw[e1,Z6],fun t'' ht=>?_⟩
 ·rw[Bool.or_eq_true] at e
  rcases e with e|e
  ·have:=n1 e;simp[this]
  ·have:=n2 e;simp[this]
 ·rw[Z6]
  simp only
  rw[k1 (c2++t'') (zod.pre (.inr ht)),zE]
  exact k2 t'' ht
theorem Lk.ret {α:Type} (a:α):Lk false (fun t=>(.ok (a,t):PR α)):=fun t b t' h=>by
 simp only[zjO,Al8] at h
 obtain⟨rfl,rfl⟩:=h
 exact⟨[],fun e=>(nomatch e),rfl,fun t'' _=>rfl⟩
theorem Cl.map {α β:Type} {f:TS→PR α} {F:α→β} (hf:Cl f):Cl (fun t=>pb (f t) fun a t=>.ok (F a,t)):=fun t b t' h=>by
 obtain⟨a,t1,h1,h2⟩:=zZ h
 simp only[zjO,Al8] at h2
 obtain⟨rfl,rfl⟩:=h2
 obtain⟨c1,n1,e1,k1⟩:=hf _ _ _ h1
 exact⟨c1,n1,e1,fun t''=>by simp only;rw[k1,zE]⟩
theorem Lk.error {α:Type} {one:Bool} (e:Int):Lk one (fun _=>(.error e:PR α)):=fun t a t' h=>by cases h
theorem Cl.error {α:Type} (e:Int):Cl (fun _=>(.error e:PR α)):=fun t a t' h=>by cases h
def En {α:Type} (f:TS→PR α):Prop:=f []=.error 2∧∀ p x a,f (p++[x])=.ok (a,[])→f p=.error 2
theorem zmt {c t' p:TS} {x:Tok} (h:p++[x]=c++t') (hne:t'≠[]):∃ q,t'=q++[x]∧p=c++q:=by
 obtain⟨q,y,rfl⟩:∃ q y,t'=q++[y]:=⟨t'.dropLast,t'.getLast hne,(List.dropLast_concat_getLast hne).symm⟩
 rw[← Z6] at h
 have h1:=List.append_inj_left' h rfl
 have h2:=List.append_inj_right' h rfl
 simp only[List.cons.injEq,and_true] at h2
 subst h2
 exact⟨q,rfl,h1⟩
theorem znW (q:TS) (x:Tok):zod (q++[x]) q:=by
 cases q with
 | nil=>exact .inr rfl
 | cons y q=>exact .inl rfl
theorem En.bind {α β:Type} {one:Bool} {f:TS→PR α} {g:α→TS→PR β} (hf:Lk one f) (h0:pb (f []) g=.error 2) (hg:∀ a,En (g a)):En (fun t=>pb (f t) g):=by
 refine⟨h0,fun p x b h=>?_⟩
 obtain⟨a,t1,h1,h2⟩:=zZ h
 obtain⟨c,n,e,k⟩:=hf _ _ _ h1
 by_cases ht:t1=[]
 ·rw[ht,(hg a).1] at h2;cases h2
 ·obtain⟨q,rfl,rfl⟩:=zmt e ht
  simp only
  rw[k q (znW q x),zE]
  exact(hg a).2 _ _ _ h2
theorem En.map {α β:Type} {f:TS→PR α} {F:α→β} (hf:En f):En (fun t=>pb (f t) fun a t=>.ok (F a,t)):=by
 refine⟨by simp only[hf.1];rfl,fun p x b h=>?_⟩
 obtain⟨a,t1,h1,h2⟩:=zZ h
 simp only[zjO,Al8] at h2
 obtain⟨rfl,rfl⟩:=h2
 simp only[hf.2 _ _ _ h1];rfl
theorem zrI {s:List UInt8} {L:List Tok} {d:DocD} {t:TS} (h:YE s=.ok L) (h2:zhC L=.ok (d,t)):zji s=(d,0):=by unfold zji;rw[h];simp only[h2]
theorem zh6 (v:Val):zcc v=if zaT v then yG v else []:=by unfold zcc;rfl
theorem znt (v:Val) (hw:wfV v) (hv:4*bV v≤Lim) (fixed:Bool):WC 237 [.agg (cV v),.bool fixed] (4*bV v) 0 32 (fun dp=>yJ dp fixed v) (yG v):=by
 intro H w o l ok dp h h0 h1 hb
 have hvb:bV v≤Lim:=by simp only[Lim] at hv ⊢;omega
 have htl:(zcc v).length≤4*bV v:=by
  have:=zeA v
  rw[zh6];split
  ·omega
  ·simp
 have hkt:=yF (zcc v)
 have hdv:=zfk v
 have hvl:=zei v []
 have hcv:=zag (yM v [])
 simp only[Lim] at hb hv
 refine zj.go ir237 ck237 (Al4 _) fun KP Q hQ=>?_
 have hc:=h.cell
 have fin:∀(b:Bool),b=yJ dp fixed v→∀(H2:za) (o2:Own) (l2:List Tok),WAt H2 w o2 l2 (ok&&b) dp→WStep H o w H2 o2→l2.length≤l.length+0→((ok&&b)=true→l2=l++[]) →
   ∀(H3:za) (o3:Own),OwnS H2 o2 H3 o3 ((cKs l2).length+(cKs (zcc v)).length) 2 →
   H3 w=some (.cells [.sl o2 2 (cKs l2),.bool (ok&&b),.int .i64 dp])∧∃ o' l',WAt (H3.upd w (.cells [.sl o3 2 (cKs l2++cKs (zcc v)),.bool (ok&&b),.int .i64 dp])) w o' l' (ok&&yJ dp fixed v) dp ∧
    WStep H o w (H3.upd w (.cells [.sl o3 2 (cKs l2++cKs (zcc v)),.bool (ok&&b),.int .i64 dp])) o'∧l'.length≤l.length+4*bV v∧((ok&&yJ dp fixed v)=true→l'=l++yG v):=by
  intro b hbr H2 o2 l2 h2 h3 h4 h5 H3 o3 hs
  obtain⟨g1,g2,g3⟩:=h2.app (ts:=zcc v) hs (by simp[yF])
  rw[zlL] at g2 g3
  refine⟨g1,o3,l2++zcc v,by rw[← hbr];exact g2,h3.trans h2.cell g3,by simp only[Al5];omega,fun e=>?_⟩
  rw[← hbr] at e
  have er:yJ dp fixed v=true:=by rw[← hbr];simp only[Al0] at e;exact e.2
  have ep:zaT v=true:=by simp only[yJ,Al0] at er;exact er.1
  rw[h5 e,zh6,ep];simp
 have d1:IntKind.wrap .i64 (dp+zM v)=dp+zM v:=wrap64 (by omega) (by omega)
 cases hp:zaT v with
 | false =>
  have hbr:false=yJ dp fixed v:=by simp[yJ,hp]
  simp(disch:=first|omega|assumption) only[zo,zg,zf,zn,zh,ze,zu,ir237,go_sem]
  refine zb (zf8 v hw hv) ?_
  simp(disch:=first|omega|assumption) only[hp,go_sem]
  refine zaH (Zl _) h (by omega) (by omega) (by simp only[Lim];omega) fun o2 l2 H2 h2 h3 h4 h5=>?_
  have hk2:=yF l2
  have hc2:=h2.cell
  simp(disch:=first|omega|assumption) only[hc2,go_sem]
  refine zv (by rw[hk2];exact h2.own) (by rw[hk2,hkt];omega) (by rw[hk2,hkt];simp only[maxLen];omega) fun o3 H3 hs3=>?_
  obtain⟨g1,g2⟩:=fin _ hbr H2 o2 l2 h2 h3 h4 h5 H3 o3 hs3
  simp(disch:=first|omega|assumption) only[g1,zaF,go_sem]
  exact hQ _ _ _ _ [] nofun rfl (Low.refl _) ⟨rfl,g2⟩
 | true =>
  by_cases hd:dp+zM v≤16
  case neg =>
   have hbr:false=yJ dp fixed v:=by simp[yJ,hd]
   simp(disch:=first|omega|assumption) only[zo,zg,zf,zn,zh,ze,zu,ir237,go_sem]
   refine zb (zf8 v hw hv) ?_
   simp(disch:=first|omega|assumption) only[zo,zg,zf,zn,zh,ze,zu,hp,hc,go_sem]
   refine zb (zjv v hvb) ?_
   simp(disch:=first|omega|assumption) only[zo,zg,zf,zn,zh,ze,zu,d1,hd,hc,go_sem]
   refine zaH (Zl _) h (by omega) (by omega) (by simp only[Lim];omega) fun o2 l2 H2 h2 h3 h4 h5=>?_
   have hk2:=yF l2
   have hc2:=h2.cell
   simp(disch:=first|omega|assumption) only[hc2,go_sem]
   refine zv (by rw[hk2];exact h2.own) (by rw[hk2,hkt];omega) (by rw[hk2,hkt];simp only[maxLen];omega) fun o3 H3 hs3=>?_
   obtain⟨g1,g2⟩:=fin _ hbr H2 o2 l2 h2 h3 h4 h5 H3 o3 hs3
   simp(disch:=first|omega|assumption) only[g1,zaF,go_sem]
   exact hQ _ _ _ _ [] nofun rfl (Low.refl _) ⟨rfl,g2⟩
  cases fixed with
  | false =>
   have hbr:true=yJ dp false v:=by simp[yJ,hd,hp]
   simp(disch:=first|omega|assumption) only[zo,zg,zf,zn,zh,ze,zu,ir237,go_sem]
   refine zb (zf8 v hw hv) ?_
   simp(disch:=first|omega|assumption) only[zo,zg,zf,zn,zh,ze,zu,hp,hc,go_sem]
   refine zb (zjv v hvb) ?_
   simp(disch:=first|omega|assumption) only[zo,zg,zf,zn,zh,ze,zu,d1,hd,hc,go_sem]
   refine zaH (Zl _) h (by omega) (by omega) (by simp only[Lim];omega) fun o2 l2 H2 h2 h3 h4 h5=>?_
   have hk2:=yF l2
   have hc2:=h2.cell
   simp(disch:=first|omega|assumption) only[hc2,go_sem]
   refine zv (by rw[hk2];exact h2.own) (by rw[hk2,hkt];omega) (by rw[hk2,hkt];simp only[maxLen];omega) fun o3 H3 hs3=>?_
   obtain⟨g1,g2⟩:=fin _ hbr H2 o2 l2 h2 h3 h4 h5 H3 o3 hs3
   simp(disch:=first|omega|assumption) only[g1,zaF,go_sem]
   exact hQ _ _ _ _ [] nofun rfl (Low.refl _) ⟨rfl,g2⟩
  | true =>
   simp(disch:=first|omega|assumption) only[zo,zg,zf,zn,zh,ze,zu,ir237,go_sem]
   refine zb (zf8 v hw hv) ?_
   simp(disch:=first|omega|assumption) only[zo,zg,zf,zn,zh,ze,zu,hp,hc,go_sem]
   refine zb (zjv v hvb) ?_
   simp(disch:=first|omega|assumption) only[zo,zg,zf,zn,zh,ze,zu,d1,hd,hc,go_sem]
   refine zb (zug v hvb) ?_
   by_cases hz:(yM v []).length=0
   ·have hbr:true=yJ dp true v:=by simp[yJ,hd,hp,hz]
    have hz':¬ ((0:Int)<(yM v []).length):=by omega
    simp(disch:=first|omega|assumption) only[zo,zg,zf,zn,zh,ze,zu,hcv,hz',go_sem]
    refine zaH (Zl _) h (by omega) (by omega) (by simp only[Lim];omega) fun o2 l2 H2 h2 h3 h4 h5=>?_
    have hk2:=yF l2
    have hc2:=h2.cell
    simp(disch:=first|omega|assumption) only[hc2,go_sem]
    refine zv (by rw[hk2];exact h2.own) (by rw[hk2,hkt];omega) (by rw[hk2,hkt];simp only[maxLen];omega) fun o3 H3 hs3=>?_
    obtain⟨g1,g2⟩:=fin _ hbr H2 o2 l2 h2 h3 h4 h5 H3 o3 hs3
    simp(disch:=first|omega|assumption) only[g1,zaF,go_sem]
    exact hQ _ _ _ _ [] nofun rfl (Low.refl _) ⟨rfl,g2⟩
   ·have hbr:false=yJ dp true v:=by simp[yJ,hd,hp,hz]
    have hz':((0:Int)<(yM v []).length)=True:=eq_true (by omega)
    simp(disch:=first|omega|assumption) only[zo,zg,zf,zn,zh,ze,zu,hcv,hz',go_sem]
    refine zaH (Zl _) h (by omega) (by omega) (by simp only[Lim];omega) fun o2 l2 H2 h2 h3 h4 h5=>?_
    have hk2:=yF l2
    have hc2:=h2.cell
    simp(disch:=first|omega|assumption) only[hc2,go_sem]
    refine zv (by rw[hk2];exact h2.own) (by rw[hk2,hkt];omega) (by rw[hk2,hkt];simp only[maxLen];omega) fun o3 H3 hs3=>?_
    obtain⟨g1,g2⟩:=fin _ hbr H2 o2 l2 h2 h3 h4 h5 H3 o3 hs3
    simp(disch:=first|omega|assumption) only[g1,zaF,go_sem]
    exact hQ _ _ _ _ [] nofun rfl (Low.refl _) ⟨rfl,g2⟩
theorem zsL (m:Int) (k:Nat) (hk:k≤64):m.fdiv (2 ^ min k IntKind.i64.bits)=m / 2 ^ k:=by
 have e:min k IntKind.i64.bits=k:=by show min k 64=k;omega
 have hp:(0:Int)≤2 ^ k:=by exact_mod_cast Nat.zero_le _
 rw[e,Int.fdiv_eq_ediv_of_nonneg _ hp]
theorem zpf (t:TyD) (hs:t.nm.length≤Lim):zq Tryz.prog 125 [.agg (cTy t)] (.bool (yH t)):=by
 refine zq.go ir125 ck125 (Al4 _) fun KP Q hQ=>?_
 obtain⟨nm,ls,ms⟩:=t
 simp only at hs
 simp(disch:=first|omega|assumption) only[ir125,cTy,steps,st2,pev,rev,oev,zY,ya,yk,yi,bound,zF,mm2,mk,zr,AV.cells,AV.boxable,AV.one,AV.strip1,zG,zD,Nat.reduceEqDiff,reduceCtorEq,↓reduceIte,Nat.reduceAdd,Int.reduceNeg,Nat.reduceLeDiff,Int.reduceToNat,Int.reduceEq,Int.reduceLT,Int.reduceLE,Int.reduceAdd,Io,Im,If,Il,Jt,Jf,AC.rg,Jm,Jl,Ja,Fm,Fl,Fa,Imv,Imb,Iai,Iei,Igi,Isi,Ipf,Ipt,Ilb,Iia,Ilt,Iap,Ink,Iln,Ils,Iad,Iex,Ibx,Ing]
 refine zb (zhX nm hs) ?_
 cases h1:ym nm with
 | false =>
  simp(disch:=first|omega|assumption) only[steps,st2,pev,rev,oev,zY,ya,yk,yi,bound,zF,mm2,mk,zr,AV.cells,AV.boxable,AV.one,AV.strip1,zG,zD,Nat.reduceEqDiff,reduceCtorEq,↓reduceIte,Nat.reduceAdd,Int.reduceNeg,Nat.reduceLeDiff,Int.reduceToNat,Int.reduceEq,Int.reduceLT,Int.reduceLE,Int.reduceAdd]
  exact hQ _ _ _ _ nofun rfl (by simp[zc,zd,AV.strip,AV.strip1,yH,h1])
 | true =>
  by_cases h2:0≤ls
  case neg =>
   simp(disch:=first|omega|assumption) only[h2,steps,st2,pev,rev,oev,zY,ya,yk,yi,bound,zF,mm2,mk,zr,AV.cells,AV.boxable,AV.one,AV.strip1,zG,zD,Nat.reduceEqDiff,reduceCtorEq,↓reduceIte,Nat.reduceAdd,Int.reduceNeg,Nat.reduceLeDiff,Int.reduceToNat,Int.reduceEq,Int.reduceLT,Int.reduceLE,Int.reduceAdd]
   exact hQ _ _ _ _ nofun rfl (by simp[zc,zd,AV.strip,AV.strip1,yH,h1,h2])
  by_cases h3:ls≤4
  case neg =>
   simp(disch:=first|omega|assumption) only[h2,h3,steps,st2,pev,rev,oev,zY,ya,yk,yi,bound,zF,mm2,mk,zr,AV.cells,AV.boxable,AV.one,AV.strip1,zG,zD,Nat.reduceEqDiff,reduceCtorEq,↓reduceIte,Nat.reduceAdd,Int.reduceNeg,Nat.reduceLeDiff,Int.reduceToNat,Int.reduceEq,Int.reduceLT,Int.reduceLE,Int.reduceAdd]
   exact hQ _ _ _ _ nofun rfl (by simp[zc,zd,AV.strip,AV.strip1,yH,h1,h2,h3])
  by_cases h4:0≤ms
  case neg =>
   simp(disch:=first|omega|assumption) only[h2,h3,h4,steps,st2,pev,rev,oev,zY,ya,yk,yi,bound,zF,mm2,mk,zr,AV.cells,AV.boxable,AV.one,AV.strip1,zG,zD,Nat.reduceEqDiff,reduceCtorEq,↓reduceIte,Nat.reduceAdd,Int.reduceNeg,Nat.reduceLeDiff,Int.reduceToNat,Int.reduceEq,Int.reduceLT,Int.reduceLE,Int.reduceAdd]
   exact hQ _ _ _ _ nofun rfl (by simp[zc,zd,AV.strip,AV.strip1,yH,h1,h2,h3,h4])
  have w1:IntKind.wrap .i64 (ls+1)=ls+1:=wrap64 (by omega) (by omega)
  have w2:¬ (ls+1<0):=by omega
  have e1:(ls+1).toNat=ls.toNat+1:=by omega
  have e2:=zsL ms (ls.toNat+1) (by omega)
  have hpow:(0:Int)<2 ^ (ls.toNat+1):=by exact_mod_cast Nat.pos_of_ne_zero (by simp)
  have e3:(ms / 2 ^ (ls.toNat+1)=0)=(ms<2 ^ (ls.toNat+1)):=propext ⟨fun h=>by
   by_cases hlt:ms<2 ^ (ls.toNat+1)
   ·exact hlt
   ·have:=(Int.le_ediv_iff_mul_le hpow).2 (show 1*2 ^ (ls.toNat+1)≤ms by omega)
    omega,fun h=>Int.ediv_eq_zero_of_lt h4 h⟩
  simp(disch:=first|omega|assumption) only[h2,h3,h4,w1,w2,e1,e2,e3,steps,st2,pev,rev,oev,zY,ya,yk,yi,bound,zF,mm2,mk,zr,AV.cells,AV.boxable,AV.one,AV.strip1,zG,zD,Nat.reduceEqDiff,reduceCtorEq,↓reduceIte,Nat.reduceAdd,Int.reduceNeg,Nat.reduceLeDiff,Int.reduceToNat,Int.reduceEq,Int.reduceLT,Int.reduceLE,Int.reduceAdd]
  exact hQ _ _ _ _ nofun rfl (by simp[zc,zd,AV.strip,AV.strip1,yH,h1,h2,h3,h4])
theorem WR.cast {H0 H:za} {o0 o:Own} {w B B':Nat} {l0 l tk tk':List Tok} {ok0 r r':Bool} {dp:Int} (h:WR H0 o0 w l0 ok0 dp B r tk H o l) (hB:B≤B') (hr:r=r') (ht:tk=tk'):WR H0 o0 w l0 ok0 dp B' r' tk' H o l:=by
 subst hr;subst ht
 exact⟨h.here,h.st,by have:=h.len;omega,h.eq⟩
theorem WR.after {H0 H1 H:za} {o0 o1 o:Own} {w B:Nat} {l0 l tk:List Tok} {ok0 r:Bool} {dp:Int} (h:WR H1 o1 w l0 ok0 dp B r tk H o l) (hs:WStep H0 o0 w H1 o1) {x:AObj} (hw:H1 w=some x):WR H0 o0 w l0 ok0 dp B r tk H o l :=
 ⟨h.here,hs.trans hw h.st,h.len,h.eq⟩
def zbG (n:Nat) (m:Int):Nat→List Tok
 | 0=>[]
 | j+1=>zdV n m j++zbG n m j
theorem ze7 (n:Nat) (m:Int):∀ j,zcW n m j=zbG n m (j+1)
 | 0=>by simp[zcW,zbG]
 | j+1=>by rw[zcW,ze7 n m j];rfl
theorem and1 {x:Int} (h0:0≤x) (h1:x<64):IntKind.wrap .i64 ((BitVec.ofInt IntKind.i64.bits x &&& BitVec.ofInt IntKind.i64.bits 1).toNat:Int)=x % 2:=by
 have:∀ y:Fin 64,IntKind.wrap .i64 ((BitVec.ofInt IntKind.i64.bits (y.val:Int) &&& BitVec.ofInt IntKind.i64.bits 1).toNat:Int)=(y.val:Int) % 2:=by decide +kernel
 have:=this ⟨x.toNat,by omega⟩
 simp only[Int.toNat_of_nonneg h0] at this
 exact this
theorem zfq (t:TyD) (hs:t.nm.length≤Lim):WC 141 [.agg (cTy t)] 20 (-1000) 1000 (fun _=>yH t) (tTy t):=by
 intro H w o l ok dp h h0 h1 hb
 have hb0:=hb
 simp only[Lim] at hb
 refine zj.go ir141 ck141 (Al4 _) fun KP Q hQ=>?_
 obtain⟨nm,ls,ms⟩:=t
 simp only at hs
 have et:cTy ⟨nm,ls,ms⟩=[.str nm,.int .i64 ls,.int .i64 ms]:=rfl
 simp(disch:=first|omega|assumption) only[ir141,et,steps,st2,pev,rev,oev,zY,ya,yk,yi,bound,zF,mm2,mk,zr,AV.cells,AV.boxable,AV.one,AV.strip1,zG,zD,Nat.reduceEqDiff,reduceCtorEq,↓reduceIte,Nat.reduceAdd,Int.reduceNeg,Nat.reduceLeDiff,Int.reduceToNat,Int.reduceEq,Int.reduceLT,Int.reduceLE,Int.reduceAdd,Io,Im,If,Il,Jt,Jf,AC.rg,Jm,Jl,Ja,Fm,Fl,Fa,Imv,Imb,Iai,Iei,Igi,Isi,Ipf,Ipt,Ilb,Iia,Ilt,Iap,Ink,Iln,Ils,Iad,Iex,Ibx,Ing]
 refine zb (show zq Tryz.prog 125 [.agg [.str nm,.int .i64 ls,.int .i64 ms]] (.bool (yH ⟨nm,ls,ms⟩)) from zpf ⟨nm,ls,ms⟩ hs) ?_
 simp(disch:=first|omega|assumption) only[steps,st2,pev,rev,oev,zY,ya,yk,yi,bound,zF,mm2,mk,zr,AV.cells,AV.boxable,AV.one,AV.strip1,zG,zD,Nat.reduceEqDiff,reduceCtorEq,↓reduceIte,Nat.reduceAdd,Int.reduceNeg,Nat.reduceLeDiff,Int.reduceToNat,Int.reduceEq,Int.reduceLT,Int.reduceLE,Int.reduceAdd]
 refine zaH (Zl _) h (by omega) (by omega) (by simp only[Lim];omega) fun o2 l2 H2 h2 h3 h4 h5=>?_
 have hc2:=h2.cell
 cases hok:ok&&yH ⟨nm,ls,ms⟩ with
 | false =>
  rw[hok] at h2 hc2
  simp(disch:=first|omega|assumption) only[hc2,steps,st2,pev,rev,oev,zY,ya,yk,yi,bound,zF,mm2,mk,zr,AV.cells,AV.boxable,AV.one,AV.strip1,zG,zD,Nat.reduceEqDiff,reduceCtorEq,↓reduceIte,Nat.reduceAdd,Int.reduceNeg,Nat.reduceLeDiff,Int.reduceToNat,Int.reduceEq,Int.reduceLT,Int.reduceLE,Int.reduceAdd]
  exact hQ _ _ H2 H2 [] nofun rfl (Low.refl _) ⟨rfl,o2,l2,by rw[hok];exact h2,h3,by omega,fun e=>by rw[hok] at e;cases e⟩
 | true =>
  rw[hok] at h2 hc2 h5
  have e2:l2=l:=by have:=h5 rfl;simpa using this
  subst e2
  have hrt:yH ⟨nm,ls,ms⟩=true:=by simp only[Al0] at hok;exact hok.2
  have hok1:ok=true:=by simp only[Al0] at hok;exact hok.1
  simp only[yH,Al0,decide_eq_true_eq] at hrt
  obtain⟨hnm,r1,r2,r3,r4⟩:=hrt
  obtain⟨n,rfl⟩:∃ n:Nat,ls=(n:Int):=⟨ls.toNat,by omega⟩
  have en:(n:Int).toNat=n:=by omega
  rw[en] at r4
  have hn4:n≤4:=by omega
  have hms:ms<64:=by
   have:(2:Int) ^ (n+1)≤2 ^ 5:=by exact_mod_cast Nat.pow_le_pow_right (by decide) (by omega:n+1≤5)
   omega
  have w0:=WR.refl h2
  simp(disch:=first|omega|assumption) only[hc2,steps,st2,pev,rev,oev,zY,ya,yk,yi,bound,zF,mm2,mk,zr,AV.cells,AV.boxable,AV.one,AV.strip1,zG,zD,Nat.reduceEqDiff,reduceCtorEq,↓reduceIte,Nat.reduceAdd,Int.reduceNeg,Nat.reduceLeDiff,Int.reduceToNat,Int.reduceEq,Int.reduceLT,Int.reduceLE,Int.reduceAdd]
  refine yB (fun x:Nat×Own×List Tok=>[(16,.int .i64 x.1)]) (fun x H'=>x.1≤n∧WR H2 o2 w l2 true dp x.1 true (List.replicate x.1 (pk [91])) H' x.2.1 x.2.2) (fun x=>n-x.1) (0,o2,l2) (by simp(disch:=first|omega|assumption) only[steps,st2,pev,rev,oev,zY,ya,yk,yi,bound,zF,mm2,mk,zr,AV.cells,AV.boxable,AV.one,AV.strip1,zG,zD,Nat.reduceEqDiff,reduceCtorEq,↓reduceIte,Nat.reduceAdd,Int.reduceNeg,Nat.reduceLeDiff,Int.reduceToNat,Int.reduceEq,Int.reduceLT,Int.reduceLE,Int.reduceAdd]) ⟨by simp,w0⟩ ?_
  rintro⟨i,o3,l3⟩ H3 J ⟨hi,w3⟩ hJ
  simp only at hi w3
  by_cases hlt:i<n
  ·have hlt':((i:Int)<n)=True:=eq_true (by omega)
   simp(disch:=first|omega|assumption) only[hlt',steps,st2,pev,rev,oev,zY,ya,yk,yi,bound,zF,mm2,mk,zr,AV.cells,AV.boxable,AV.one,AV.strip1,zG,zD,Nat.reduceEqDiff,reduceCtorEq,↓reduceIte,Nat.reduceAdd,Int.reduceNeg,Nat.reduceLeDiff,Int.reduceToNat,Int.reduceEq,Int.reduceLT,Int.reduceLE,Int.reduceAdd]
   refine zi (yp [91] _) w3 (by omega) (by omega) (by simp only[Lim];omega) fun o4 l4 H4 w4 _=>?_
   simp(disch:=first|omega|assumption) only[wrap64,steps,st2,pev,rev,oev,zY,ya,yk,yi,bound,zF,mm2,mk,zr,AV.cells,AV.boxable,AV.one,AV.strip1,zG,zD,Nat.reduceEqDiff,reduceCtorEq,↓reduceIte,Nat.reduceAdd,Int.reduceNeg,Nat.reduceLeDiff,Int.reduceToNat,Int.reduceEq,Int.reduceLT,Int.reduceLE,Int.reduceAdd]
   exact goJ (hJ (i+1,o4,l4) H4 (by simp only;omega) ⟨by simp only;omega,w4.cast (Al4 _) rfl (by rw[List.replicate_succ'])⟩) (by simp(disch:=first|omega|assumption) only[Int.natCast_add,steps,st2,pev,rev,oev,zY,ya,yk,yi,bound,zF,mm2,mk,zr,AV.cells,AV.boxable,AV.one,AV.strip1,zG,zD,Nat.reduceEqDiff,reduceCtorEq,↓reduceIte,Nat.reduceAdd,Int.reduceNeg,Nat.reduceLeDiff,Int.reduceToNat,Int.reduceEq,Int.reduceLT,Int.reduceLE,Int.reduceAdd])
  ·have hlt':¬ ((i:Int)<n):=by omega
   obtain rfl:i=n:=by omega
   simp(disch:=first|omega|assumption) only[hlt',steps,st2,pev,rev,oev,zY,ya,yk,yi,bound,zF,mm2,mk,zr,AV.cells,AV.boxable,AV.one,AV.strip1,zG,zD,Nat.reduceEqDiff,reduceCtorEq,↓reduceIte,Nat.reduceAdd,Int.reduceNeg,Nat.reduceLeDiff,Int.reduceToNat,Int.reduceEq,Int.reduceLT,Int.reduceLE,Int.reduceAdd]
   refine zi (yh nm hs) w3 (by omega) (by omega) (by simp only[Lim];omega) fun o4 l4 H4 w4 _=>?_
   rw[hnm] at w4
   simp(disch:=first|omega|assumption) only[steps,st2,pev,rev,oev,zY,ya,yk,yi,bound,zF,mm2,mk,zr,AV.cells,AV.boxable,AV.one,AV.strip1,zG,zD,Nat.reduceEqDiff,reduceCtorEq,↓reduceIte,Nat.reduceAdd,Int.reduceNeg,Nat.reduceLeDiff,Int.reduceToNat,Int.reduceEq,Int.reduceLT,Int.reduceLE,Int.reduceAdd]
   refine yB (fun x:Nat×Own×List Tok×Nat×List Tok=>[(4,.int .i64 ((x.1:Int)-1))]) (fun x H'=>x.1≤i+1∧x.2.2.2.1+2*x.1≤19∧x.2.2.2.2++zbG i ms x.1=tTy ⟨nm,i,ms⟩∧WR H2 o2 w l2 true dp x.2.2.2.1 true x.2.2.2.2 H' x.2.1 x.2.2.1) (fun x=>x.1)
    (i+1,o4,l4,i+1,List.replicate i (pk [91])++[wk nm]) (by simp(disch:=first|omega|assumption) only[Int.natCast_add,Int.add_sub_cancel,steps,st2,pev,rev,oev,zY,ya,yk,yi,bound,zF,mm2,mk,zr,AV.cells,AV.boxable,AV.one,AV.strip1,zG,zD,Nat.reduceEqDiff,reduceCtorEq,↓reduceIte,Nat.reduceAdd,Int.reduceNeg,Nat.reduceLeDiff,Int.reduceToNat,Int.reduceEq,Int.reduceLT,Int.reduceLE,Int.reduceAdd]) ⟨by simp,by simp only;omega,by simp only[tTy,en,ze7];simp,w4.cast (Al4 _) rfl rfl⟩ ?_
   rintro⟨k,o5,l5,B,tk⟩ H5 J5 ⟨hk,hB,htk,w5⟩ hJ5
   simp only at hk hB htk w5
   cases k with
   | zero =>
    have hz:¬ ((0:Int)≤-1):=by omega
    have w6:=w5.after h3 h2.cell
    simp only[zbG,List.append_nil] at htk
    simp(disch:=first|omega|assumption) only[hz,Int.reduceSub,steps,st2,pev,rev,oev,zY,ya,yk,yi,bound,zF,mm2,mk,zr,AV.cells,AV.boxable,AV.one,AV.strip1,zG,zD,Nat.reduceEqDiff,reduceCtorEq,↓reduceIte,Nat.reduceAdd,Int.reduceNeg,Nat.reduceLeDiff,Int.reduceToNat,Int.reduceEq,Int.reduceLT,Int.reduceLE,Int.reduceAdd]
    refine hQ _ _ H5 H5 [] nofun rfl (Low.refl _) ⟨rfl,?_⟩
    obtain⟨o',l',g1,g2,g3,g4⟩:=w6.fin (B':=20) rfl (fun _=>htk) (by omega)
    rw[hok]
    exact⟨o',l',by simpa using g1,g2,by omega,fun _=>by simpa using g4 rfl⟩
   | succ j =>
    have e0:((j+1:Nat):Int)-1=(j:Int):=by omega
    have hz:((0:Int)≤j)=True:=eq_true (by omega)
    have hbit:=zsL ms j (by omega)
    have hq0:0≤ms / 2 ^ j:=Int.ediv_nonneg r3 (by exact_mod_cast Nat.zero_le _)
    have hq1:ms / 2 ^ j<64:=by
     have:ms / 2 ^ j≤ms:=Int.ediv_le_self _ r3
     omega
    have ha:=and1 hq0 hq1
    have hj0:¬ ((j:Int)<0):=by omega
    simp only[zbG,zdV] at htk
    by_cases hji:j<i
    ·have hji':((j:Int)<i)=True:=eq_true (by omega)
     rw[if_pos hji] at htk
     simp(disch:=first|omega|assumption) only[e0,hz,hji',steps,st2,pev,rev,oev,zY,ya,yk,yi,bound,zF,mm2,mk,zr,AV.cells,AV.boxable,AV.one,AV.strip1,zG,zD,Nat.reduceEqDiff,reduceCtorEq,↓reduceIte,Nat.reduceAdd,Int.reduceNeg,Nat.reduceLeDiff,Int.reduceToNat,Int.reduceEq,Int.reduceLT,Int.reduceLE,Int.reduceAdd]
     refine zi (yp [93] _) w5 (by omega) (by omega) (by simp only[Lim];omega) fun o6 l6 H6 w6 _=>?_
     by_cases hbt:ms / 2 ^ j % 2=1
     ·have hbb:zcE ms j=true:=by simp[zcE,hbt]
      rw[hbb] at htk
      simp(disch:=first|omega|assumption) only[hbit,hj0,ha,hbt,steps,st2,pev,rev,oev,zY,ya,yk,yi,bound,zF,mm2,mk,zr,AV.cells,AV.boxable,AV.one,AV.strip1,zG,zD,Nat.reduceEqDiff,reduceCtorEq,↓reduceIte,Nat.reduceAdd,Int.reduceNeg,Nat.reduceLeDiff,Int.reduceToNat,Int.reduceEq,Int.reduceLT,Int.reduceLE,Int.reduceAdd]
      refine zi (yp [33] _) w6 (by omega) (by omega) (by simp only[Lim];omega) fun o7 l7 H7 w7 _=>?_
      simp(disch:=first|omega|assumption) only[wrap64,steps,st2,pev,rev,oev,zY,ya,yk,yi,bound,zF,mm2,mk,zr,AV.cells,AV.boxable,AV.one,AV.strip1,zG,zD,Nat.reduceEqDiff,reduceCtorEq,↓reduceIte,Nat.reduceAdd,Int.reduceNeg,Nat.reduceLeDiff,Int.reduceToNat,Int.reduceEq,Int.reduceLT,Int.reduceLE,Int.reduceAdd]
      exact goJ (hJ5 (j,o7,l7,B+1+1,tk++[pk [93]]++[pk [33]]) H7 (Nat.lt_succ_self j) ⟨by simp only;omega,by simp only;omega,by rw[← htk];simp,w7.cast (Al4 _) rfl rfl⟩) (by simp(disch:=first|omega|assumption) only[steps,st2,pev,rev,oev,zY,ya,yk,yi,bound,zF,mm2,mk,zr,AV.cells,AV.boxable,AV.one,AV.strip1,zG,zD,Nat.reduceEqDiff,reduceCtorEq,↓reduceIte,Nat.reduceAdd,Int.reduceNeg,Nat.reduceLeDiff,Int.reduceToNat,Int.reduceEq,Int.reduceLT,Int.reduceLE,Int.reduceAdd])
     ·have hbb:zcE ms j=false:=by simp[zcE,hbt]
      rw[hbb] at htk
      simp(disch:=first|omega|assumption) only[hbit,hj0,ha,hbt,wrap64,steps,st2,pev,rev,oev,zY,ya,yk,yi,bound,zF,mm2,mk,zr,AV.cells,AV.boxable,AV.one,AV.strip1,zG,zD,Nat.reduceEqDiff,reduceCtorEq,↓reduceIte,Nat.reduceAdd,Int.reduceNeg,Nat.reduceLeDiff,Int.reduceToNat,Int.reduceEq,Int.reduceLT,Int.reduceLE,Int.reduceAdd]
      exact goJ (hJ5 (j,o6,l6,B+1,tk++[pk [93]]) H6 (Nat.lt_succ_self j) ⟨by simp only;omega,by simp only;omega,by rw[← htk];simp,w6.cast (Al4 _) rfl rfl⟩) (by simp(disch:=first|omega|assumption) only[steps,st2,pev,rev,oev,zY,ya,yk,yi,bound,zF,mm2,mk,zr,AV.cells,AV.boxable,AV.one,AV.strip1,zG,zD,Nat.reduceEqDiff,reduceCtorEq,↓reduceIte,Nat.reduceAdd,Int.reduceNeg,Nat.reduceLeDiff,Int.reduceToNat,Int.reduceEq,Int.reduceLT,Int.reduceLE,Int.reduceAdd])
    ·have hji':¬ ((j:Int)<i):=by omega
     rw[if_neg hji] at htk
     by_cases hbt:ms / 2 ^ j % 2=1
     ·have hbb:zcE ms j=true:=by simp[zcE,hbt]
      rw[hbb] at htk
      simp(disch:=first|omega|assumption) only[e0,hz,hji',hbit,hj0,ha,hbt,steps,st2,pev,rev,oev,zY,ya,yk,yi,bound,zF,mm2,mk,zr,AV.cells,AV.boxable,AV.one,AV.strip1,zG,zD,Nat.reduceEqDiff,reduceCtorEq,↓reduceIte,Nat.reduceAdd,Int.reduceNeg,Nat.reduceLeDiff,Int.reduceToNat,Int.reduceEq,Int.reduceLT,Int.reduceLE,Int.reduceAdd]
      refine zi (yp [33] _) w5 (by omega) (by omega) (by simp only[Lim];omega) fun o7 l7 H7 w7 _=>?_
      simp(disch:=first|omega|assumption) only[wrap64,steps,st2,pev,rev,oev,zY,ya,yk,yi,bound,zF,mm2,mk,zr,AV.cells,AV.boxable,AV.one,AV.strip1,zG,zD,Nat.reduceEqDiff,reduceCtorEq,↓reduceIte,Nat.reduceAdd,Int.reduceNeg,Nat.reduceLeDiff,Int.reduceToNat,Int.reduceEq,Int.reduceLT,Int.reduceLE,Int.reduceAdd]
      exact goJ (hJ5 (j,o7,l7,B+1,tk++[pk [33]]) H7 (Nat.lt_succ_self j) ⟨by simp only;omega,by simp only;omega,by rw[← htk];simp,w7.cast (Al4 _) rfl rfl⟩) (by simp(disch:=first|omega|assumption) only[steps,st2,pev,rev,oev,zY,ya,yk,yi,bound,zF,mm2,mk,zr,AV.cells,AV.boxable,AV.one,AV.strip1,zG,zD,Nat.reduceEqDiff,reduceCtorEq,↓reduceIte,Nat.reduceAdd,Int.reduceNeg,Nat.reduceLeDiff,Int.reduceToNat,Int.reduceEq,Int.reduceLT,Int.reduceLE,Int.reduceAdd])
     ·have hbb:zcE ms j=false:=by simp[zcE,hbt]
      rw[hbb] at htk
      simp(disch:=first|omega|assumption) only[e0,hz,hji',hbit,hj0,ha,hbt,wrap64,steps,st2,pev,rev,oev,zY,ya,yk,yi,bound,zF,mm2,mk,zr,AV.cells,AV.boxable,AV.one,AV.strip1,zG,zD,Nat.reduceEqDiff,reduceCtorEq,↓reduceIte,Nat.reduceAdd,Int.reduceNeg,Nat.reduceLeDiff,Int.reduceToNat,Int.reduceEq,Int.reduceLT,Int.reduceLE,Int.reduceAdd]
      exact goJ (hJ5 (j,o5,l5,B,tk) H5 (Nat.lt_succ_self j) ⟨by simp only;omega,by simp only;omega,by rw[← htk];simp,w5⟩) (by simp(disch:=first|omega|assumption) only[steps,st2,pev,rev,oev,zY,ya,yk,yi,bound,zF,mm2,mk,zr,AV.cells,AV.boxable,AV.one,AV.strip1,zG,zD,Nat.reduceEqDiff,reduceCtorEq,↓reduceIte,Nat.reduceAdd,Int.reduceNeg,Nat.reduceLeDiff,Int.reduceToNat,Int.reduceEq,Int.reduceLT,Int.reduceLE,Int.reduceAdd])
theorem zaD (has:Bool) (v:Val) (hw:wfV v) (hv:4*bV v≤Lim):WC 142 [.bool has,.agg (cV v)] (1+4*bV v) 0 32 (fun dp=>if has then yJ dp true v else eqd v zV) (tDf has v):=by
 intro H w o l ok dp h h0 h1 hb
 have hvb:bV v≤Lim:=by simp only[Lim] at hv ⊢;omega
 refine zj.go ir142 ck142 (Al4 _) fun KP Q hQ=>?_
 have w0:=WR.refl h
 cases has with
 | false =>
  simp(disch:=first|omega|assumption) only[zo,zg,zf,zn,zh,ze,zu,ir142,go_sem]
  refine zb (zq.low (r:=.bool (eqd v zV)) (by
   have:=zux v hvb zV
   simpa[AV.strip,zad,zq1,AV.strip1] using this)) ?_
  simp(disch:=first|omega|assumption) only[go_sem]
  refine zi (Zl _) w0 (by omega) (by omega) (by omega) fun o2 l2 H2 w2 _=>?_
  simp(disch:=first|omega|assumption) only[go_sem]
  exact hQ _ _ H2 H2 [] nofun rfl (Low.refl _) ⟨rfl,w2.fin (by simp) (fun _=>by simp[tDf]) (by omega)⟩
 | true =>
  simp(disch:=first|omega|assumption) only[zo,zg,zf,zn,zh,ze,zu,ir142,go_sem]
  refine zi (yp [61] _) w0 (by omega) (by omega) (by omega) fun o2 l2 H2 w2 _=>?_
  simp(disch:=first|omega|assumption) only[zo,zg,zf,zn,zh,ze,zu,go_sem]
  refine zi (znt v hw hv true) w2 (by omega) (by omega) (by omega) fun o3 l3 H3 w3 _=>?_
  simp(disch:=first|omega|assumption) only[go_sem]
  exact hQ _ _ H3 H3 [] nofun rfl (Low.refl _) ⟨rfl,w3.fin (by simp) (fun _=>by simp[tDf]) (by omega)⟩
theorem zdZ (fixed:Bool) (m:List Mem) (hw:zdT m) (hm:8*bMs m≤Lim):WC 157 [.bool fixed,.sl .no 6 (cMs m)] (2+6*bMs m) 0 32 (fun dp=>YY dp fixed m) (ZV m):=by
 intro H w o l ok dp h h0 h1 hb
 have hml:=Z9 m
 have hcl:=ZC m
 refine zj.go ir157 ck157 (Al4 _) fun KP Q hQ=>?_
 have w0:=WR.refl h
 by_cases hz:m.length=0
 ·have hz':((m.length:Int)=0)=True:=eq_true (by omega)
  simp(disch:=first|omega|assumption) only[ir157,hcl,hz',go_sem]
  have em:=List.length_eq_zero_iff.1 hz
  subst em
  exact hQ _ _ H H [] nofun rfl (Low.refl _) ⟨rfl,w0.fin rfl (fun _=>rfl) (by omega)⟩
 ·have hz':¬ ((m.length:Int)=0):=by omega
  simp(disch:=first|omega|assumption) only[ir157,hcl,hz',go_sem]
  refine zi (yp [40] _) w0 (by omega) (by omega) (by omega) fun o2 l2 H2 w2 _=>?_
  simp(disch:=first|omega|assumption) only[hcl,go_sem]
  refine zx m 16 (fun x:Own×List Tok=>[]) (fun done rest x H'=>WR H o w l ok dp (1+6*bMs done) (YY dp fixed done) (pk [40]::ZA done) H' x.1 x.2) (o2,l2) (by simp(disch:=first|omega|assumption) only[go_sem]) (w2.cast (by omega) rfl rfl) ?_ ?_
  ·rintro⟨o3,l3⟩ H3 J w3 hlt
   simp only at w3
   simp(disch:=first|omega|assumption) only[hcl,hlt,go_sem]
   refine zi (yp [41] _) w3 (by omega) (by omega) (by omega) fun o4 l4 H4 w4 _=>?_
   simp(disch:=first|omega|assumption) only[go_sem]
   exact hQ _ _ H4 H4 [] nofun rfl (Low.refl _) ⟨rfl,w4.fin (by simp) (fun _=>by unfold ZV;rw[if_neg hz];rfl) (by omega)⟩
  ·rintro done x rest ⟨o3,l3⟩ H3 J hd hlt hlt2 w3 hJ
   simp only at w3
   have hg:=YU hd
   have hbm:=za8 done x rest
   rw[← hd] at hbm
   have hmem:x∈m:=by rw[hd];simp
   obtain⟨s,v⟩:=x
   have hwv:=zbE hw s v hmem
   have hvp:=YO v
   simp only[bM] at hbm
   have hm':=hm
   simp only[Lim] at hm'
   have hbw:b0 w=b0 w:=rfl
   simp(disch:=first|omega|assumption) only[zo,zg,zf,zn,zh,ze,zu,hcl,hlt,hg,go_sem]
   refine zl fun b hb=>?_
   have hbw:b≠w:=fun e=>by subst e;rw[w3.here.cell] at hb;cases hb
   have w4:=w3.alloc (x:=.cells (.str s::cV v)) hb
   have hbc:(H3.upd b (.cells (.str s::cV v))) b=some (.cells (.str s::cV v)):=upd_same ..
   simp(disch:=first|omega|assumption) only[zo,zg,zf,zn,zh,ze,zu,go_sem]
   refine zi (yh s (by simp only[Lim];omega)) w4 (by omega) (by omega) (by omega) fun o5 l5 H5 w5 s5=>?_
   have hb5:=s5.box w4.here.own hbc hbw
   simp(disch:=first|omega|assumption) only[zo,zg,zf,zn,zh,ze,zu,hb5,go_sem]
   refine zi (yp [58] _) w5 (by omega) (by omega) (by omega) fun o6 l6 H6 w6 s6=>?_
   have hb6:=s6.box w5.here.own hb5 hbw
   simp(disch:=first|omega|assumption) only[zo,zg,zf,zn,zh,ze,zu,hb6,go_sem]
   refine zi (znt v hwv (by simp only[Lim];omega) fixed) w6 (by omega) (by omega) (by omega) fun o7 l7 H7 w7 s7=>?_
   simp(disch:=first|omega|assumption) only[wrap64,go_sem]
   exact goJ (hJ (o7,l7) H7 (w7.cast (by rw[za8 done (.mk s v) []];simp only[bM,bMs];omega) (by simp[YY,zjM,y9]) (by rw[zix];simp[ZA,zca,wk,pk]))) (by simp(disch:=first|omega|assumption) only[go_sem])
end Go.Proofs.YticbbfbpeimkbaaGreatDoor
