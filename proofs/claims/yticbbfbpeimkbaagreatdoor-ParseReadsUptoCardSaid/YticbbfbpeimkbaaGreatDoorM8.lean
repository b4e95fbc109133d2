import Derived.Lib.Join
import Derived.Lib.DecodeN
import Derived.Lib.TrimUEq
import Derived.Shelf.Strings.OnBuilder
import Derived.Shelf.Strings.IndexAnyAll
import Derived.Shelf.Small.Utf8
import Derived.Laws.RangeAny
import Derived.Laws.Runes
import Derived.WalkMore
import Derived.Shelf.RegionOpenPlain
import Derived.BigQuiet
import Derived.Test.YticbbfbpeimkbaaGreatDoorM1
import Derived.Test.YticbbfbpeimkbaaGreatDoorM2
import Derived.Test.YticbbfbpeimkbaaGreatDoorM3
import Derived.Test.YticbbfbpeimkbaaGreatDoorM4
import Derived.Test.YticbbfbpeimkbaaGreatDoorM5
import Derived.Test.YticbbfbpeimkbaaGreatDoorM6
import Derived.Test.YticbbfbpeimkbaaGreatDoorM7
set_option maxRecDepth 100000
set_option linter.all false
namespace Go.Proofs.YticbbfbpeimkbaaGreatDoor
open Go.Ab Go.Lib
def zew (n:Nat) (x:Option (List UInt8×List UInt8)):AV:=match x with
 | some (b,t')=>.tup [.str b,.int .i64 ((n-t'.length:Nat):Int),.bool true]
 | none=>.tup [.str [],.int .i64 0,.bool false]
structure QI (s t0:List UInt8) (x:List UInt8×List UInt8×List Nat×Own) (H:za):Prop where
 pos:∃ p,p++x.1=s
 val:validD x.1=true
 eq:ZL yM t0=zgx (zbN yM x.1 ⟨x.2.1,x.2.2.1,true⟩)
 len:x.2.1.length+4*x.2.2.1.length+4*x.1.length≤4*s.length
 own:yq H x.2.2.2 x.2.2.1.length 1
theorem zpJ (us:List Nat) (v:Nat):cU us++[[AV.int .i64 (v:Int)]]=cU (us++[v]):=by simp[cU]
set_option maxHeartbeats 2000000 in
theorem zpq (s:List UInt8) (i:Nat) (hi:i≤s.length) (hv:validD (s.drop i)=true) (hs:s.length≤ZQ) :
  zr Tryz.prog 256 [.str s,.int .i64 i] (zew s.length (ZL yM (s.drop i))):=by
 refine zr.go ir256 ck256 (Al4 _) fun KP Q hQ=>?_
 simp only[ZQ] at hs
 generalize ht0:s.drop i=t0 at hv hQ ⊢
 have hi2:(i:Int)=((s.length-t0.length:Nat):Int):=by rw[← ht0,yH];omega
 rw[hi2]
 simp(disch:=first|omega|assumption) only[ir256,go_sem]
 refine zI (fun x:List UInt8×List UInt8×List Nat×Own=>[(1,.int .i64 ((s.length-x.1.length:Nat):Int)),(7,.str x.2.1),(8,.sl x.2.2.2 1 (cU x.2.2.1))]) (fun x H=>QI s t0 x H) (fun x=>x.1.length) (t0,[],[],.nil) (by simp(disch:=first|omega|assumption) only[cU,go_sem]) ⟨⟨s.take i,by rw[← ht0];simp⟩,hv,zsz _ _,by simp;rw[← ht0];simp;omega,rfl⟩ ?_
 rintro⟨t,out,us,o⟩ H J ⟨⟨p,hp⟩,hvt,he,hlen,ho⟩ hJ
 simp only at hp hvt he hlen ho
 have hpl:p.length+t.length=s.length:=by rw[← hp];simp
 have epos:s.length-t.length=p.length:=by omega
 rw[epos]
 have hul:=ziw us
 have bad:ZL yM t0=none→(zew s.length (ZL yM t0))=.tup [.str [],.int .i64 0,.bool false]:=fun e=>by rw[e];rfl
 cases t with
 | nil =>
  have h1:((s.length:Int)≤p.length)=True:=eq_true (by simp at hpl;omega)
  have hb:=bad (by rw[he];rfl)
  rw[hb] at hQ
  simp(disch:=first|omega|assumption) only[h1,go_sem]
  exact hQ _ _ _ _ nofun rfl (by simp[zb,ze,AV.strip,AV.strip1])
 | cons c r =>
  have hpl':p.length+r.length+1=s.length:=by simp at hpl;omega
  have h1:¬ ((s.length:Int)≤p.length):=by omega
  have hlt:((p.length:Int)<s.length)=True:=eq_true (by omega)
  have hg:s.getD p.length 0=c:=by rw[← hp];simp
  have hdp:s.drop p.length=c::r:=by rw[← hp];simp
  have w1:IntKind.wrap .i64 ((p.length:Int)+1)=(p.length:Int)+1:=wrap64 (by omega) (by omega)
  have w2:IntKind.wrap .i64 ((p.length:Int)+2)=((p.length+2:Nat):Int):=by rw[wrap64 (by omega) (by omega)];omega
  have w6:IntKind.wrap .i64 ((p.length:Int)+6)=(p.length:Int)+6:=wrap64 (by omega) (by omega)
  have n1:((p.length:Int)+1).toNat=p.length+1:=by omega
  simp only[Al2] at hlen
  by_cases c92:c=92
  ·have g92:((c.toNat:Int)=92)=True:=eq_true (by rw[c92];rfl)
   cases r with
   | nil =>
    have h2:¬ ((p.length:Int)+1<s.length):=by simp at hpl';omega
    have h3:((s.length:Int)≤(p.length:Int)+1)=True:=eq_true (by simp at hpl';omega)
    have g34:¬ ((c.toNat:Int)=34):=by rw[c92];decide
    have g10:¬ ((c.toNat:Int)=10):=by rw[c92];decide
    have g13:¬ ((c.toNat:Int)=13):=by rw[c92];decide
    have hb:=bad (by rw[he,c92,zcP];rfl)
    rw[hb] at hQ
    simp(disch:=first|omega|assumption) only[h1,hlt,hg,g92,w1,h2,go_sem]
    refine zd (zr.low (zob us (by omega))) ?_
    cases hj:zX us with
    | none =>
     simp(disch:=first|omega|assumption) only[Option.getD_none,Option.isSome_none,go_sem]
     exact hQ _ _ _ _ nofun rfl (by simp[zb,ze,AV.strip,AV.strip1])
    | some tt =>
     have:=zat us tt hj
     simp(disch:=first|omega|assumption) only[h1,hlt,hg,g92,g34,g10,g13,w1,h3,Option.getD_some,Option.isSome_some,go_sem]
     exact hQ _ _ _ _ nofun rfl (by simp[zb,ze,AV.strip,AV.strip1])
   | cons d r =>
    have hpl2:p.length+r.length+2=s.length:=by simp at hpl';omega
    have h2:((p.length:Int)+1<s.length)=True:=eq_true (by omega)
    have h3:¬ ((s.length:Int)≤(p.length:Int)+1):=by omega
    have hg2:s.getD (p.length+1) 0=d:=by rw[← hp];simp
    have hl0:((0:Int)≤(p.length:Int)+1)=True:=eq_true (by omega)
    have hvd:validD (d::r)=true:=by rw[c92,validD_cons _ _ (by decide)] at hvt;exact hvt
    simp only[Al2] at hlen
    by_cases d117:d=117
    ·have gd:((d.toNat:Int)=117)=True:=eq_true (by rw[d117];rfl)
     have hdp2:s.drop (p.length+2)=r:=by rw[← hp,c92,d117];simp
     have hvr:validD r=true:=by rw[d117,validD_cons _ _ (by decide)] at hvd;exact hvd
     simp(disch:=first|omega|assumption) only[h1,hlt,hg,g92,w1,w2,h2,n1,hg2,hl0,gd,go_sem]
     refine zd (zsf s (p.length+2) (by omega) (by simp only[Lim];omega)) ?_
     rw[hdp2]
     cases hu:Yb r with
     | none =>
      have hb:=bad (by rw[he,c92,zcP,d117];simp[Yl,hu,zgx])
      rw[hb] at hQ
      simp(disch:=first|omega|assumption) only[zj0,go_sem]
      exact hQ _ _ _ _ nofun rfl (by simp[zb,ze,AV.strip,AV.strip1])
     | some u =>
      have h4:=zau _ _ _ _ hu
      have h5:=zpg hu
      have h6:¬ ((u:Int)<0):=by omega
      have e:ZL yM t0=zgx (zbN yM (r.drop 4) ⟨out,us++[u],true⟩):=by rw[he,c92,zcP,d117];simp[Yl,hu]
      have h7:validD (r.drop 4)=true:=by rw[← validD_ascii 4 r (zeW 4 r 0 u hu)];exact hvr
      have e6:(p.length:Int)+6=((s.length-(r.drop 4).length:Nat):Int):=by rw[yH];omega
      simp(disch:=first|omega|assumption) only[zj0,h6,go_sem]
      refine zE (by rw[hul];exact ho) (by simp[hul];omega) (by simp[hul,maxLen];omega) fun o' H' hs=>?_
      have hs':=hs.own
      rw[hul] at hs'
      have nx:=hJ (r.drop 4,out,us++[u],o') H' (by simp;omega) ⟨⟨p++[92,117]++r.take 4,by rw[← hp,c92,d117];simp⟩,h7,e,by simp;omega,by simpa using hs'⟩
      simp(disch:=first|omega|assumption) only[w6,zpJ,go_sem]
      exact goJ nx (by simp(disch:=first|omega|assumption) only[e6,go_sem])
    ·have gd:¬ ((d.toNat:Int)=117):=fun e=>d117 (UInt8.toNat_inj.1 (by have:(117:UInt8).toNat=117:=rfl;omega))
     have g34:¬ ((c.toNat:Int)=34):=by rw[c92];decide
     have g10:¬ ((c.toNat:Int)=10):=by rw[c92];decide
     have g13:¬ ((c.toNat:Int)=13):=by rw[c92];decide
     simp(disch:=first|omega|assumption) only[h1,hlt,hg,g92,w1,h2,n1,hg2,hl0,gd,go_sem]
     refine zd (zr.low (zob us (by omega))) ?_
     cases hj:zX us with
     | none =>
      have hb:=bad (by rw[he];exact zh0 hj fun r' _ e=>d117 (List.cons.inj e).1)
      rw[hb] at hQ
      simp(disch:=first|omega|assumption) only[Option.getD_none,Option.isSome_none,go_sem]
      exact hQ _ _ _ _ nofun rfl (by simp[zb,ze,AV.strip,AV.strip1])
     | some tt =>
      have htl:=zat us tt hj
      simp(disch:=first|omega|assumption) only[h1,hlt,hg,g92,g34,g10,g13,w1,h3,h2,n1,hg2,hl0,Option.getD_some,Option.isSome_some,go_sem]
      refine zd (zkN zaR d (by decide)) ?_
      have hix:=ziK zaR d
      by_cases hk:Lib.indexByte zaR d<0
      ·have hb:=bad (by rw[he,c92,zcP];simp[Yl,d117,hk,zgx])
       rw[hb] at hQ
       simp(disch:=first|omega|assumption) only[hk,go_sem]
       exact hQ _ _ _ _ nofun rfl (by simp[zb,ze,AV.strip,AV.strip1])
      ·have e:ZL yM t0=zgx (zbN yM r ⟨out++tt++[zkT.getD (Lib.indexByte zaR d).toNat 0],[],true⟩):=by
        rw[he,c92,zcP];simp[Yl,d117,hk,Sd.put,yD,hj]
       have hlo:=zlW d hk
       have h8:(Lib.indexByte zaR d<8)=True:=eq_true hix.2
       have h9:((0:Int)≤Lib.indexByte zaR d)=True:=eq_true (by omega)
       have eb:zdh [[.int .u8 (([34,92,47,8,12,10,13,9]:List UInt8).getD (Lib.indexByte zaR d).toNat 0).toNat]]=some [zkT.getD (Lib.indexByte zaR d).toNat 0]:=zaU [_]
       have e6:(p.length:Int)+2=((s.length-r.length:Nat):Int):=by omega
       have hvr:validD r=true:=by rw[validD_cons _ _ hlo.1] at hvd;exact hvd
       have nx:=hJ (r,out++tt++[zkT.getD (Lib.indexByte zaR d).toNat 0],[],.nil) H (by simp;omega) ⟨⟨p++[c,d],by rw[← hp];simp⟩,hvr,e,by simp;omega,rfl⟩
       have w2':IntKind.wrap .i64 ((p.length:Int)+2)=(p.length:Int)+2:=wrap64 (by omega) (by omega)
       simp(disch:=first|omega|assumption) only[hk,h8,h9,eb,w2',Al5,go_sem]
       exact goJ nx (by simp(disch:=first|omega|assumption) only[e6,cU,go_sem])
  ·have g92:¬ ((c.toNat:Int)=92):=fun e=>c92 (UInt8.toNat_inj.1 (by have:(92:UInt8).toNat=92:=rfl;omega))
   simp(disch:=first|omega|assumption) only[h1,hlt,hg,g92,go_sem]
   refine zd (zr.low (zob us (by omega))) ?_
   cases hj:zX us with
   | none =>
    have hb:=bad (by rw[he];exact zh0 hj fun r' e=>absurd e c92)
    rw[hb] at hQ
    simp(disch:=first|omega|assumption) only[Option.getD_none,Option.isSome_none,go_sem]
    exact hQ _ _ _ _ nofun rfl (by simp[zb,ze,AV.strip,AV.strip1])
   | some tt =>
    have htl:=zat us tt hj
    by_cases c34:c=34
    ·have g34:((c.toNat:Int)=34)=True:=eq_true (by rw[c34];rfl)
     have e:ZL yM t0=some (out++tt,r):=by rw[he,c34,zmq];simp[zgx,yD,hj]
     have e6:(p.length:Int)+1=((s.length-r.length:Nat):Int):=by omega
     have hb:zew s.length (ZL yM t0)=.tup [.str (out++tt),.int .i64 ((s.length-r.length:Nat):Int),.bool true]:=by rw[e];rfl
     rw[hb] at hQ
     simp(disch:=first|omega|assumption) only[h1,hlt,hg,g34,w1,Option.getD_some,Option.isSome_some,go_sem]
     exact hQ _ _ _ _ nofun rfl (by simp[zb,ze,AV.strip,AV.strip1,e6])
    ·have g34:¬ ((c.toNat:Int)=34):=fun e=>c34 (UInt8.toNat_inj.1 (by have:(34:UInt8).toNat=34:=rfl;omega))
     by_cases c10:c=10
     ·have g10:((c.toNat:Int)=10)=True:=eq_true (by rw[c10];rfl)
      have hb:=bad (by rw[he,zg4 _ _ _ c34 c92,if_neg (by rw[c10];decide)];rfl)
      rw[hb] at hQ
      simp(disch:=first|omega|assumption) only[h1,hlt,hg,g34,g10,Option.getD_some,Option.isSome_some,go_sem]
      exact hQ _ _ _ _ nofun rfl (by simp[zb,ze,AV.strip,AV.strip1])
     have g10:¬ ((c.toNat:Int)=10):=fun e=>c10 (UInt8.toNat_inj.1 (by have:(10:UInt8).toNat=10:=rfl;omega))
     by_cases c13:c=13
     ·have g13:((c.toNat:Int)=13)=True:=eq_true (by rw[c13];rfl)
      have hb:=bad (by rw[he,zg4 _ _ _ c34 c92,if_neg (by rw[c13];decide)];rfl)
      rw[hb] at hQ
      simp(disch:=first|omega|assumption) only[h1,hlt,hg,g34,g10,g13,Option.getD_some,Option.isSome_some,go_sem]
      exact hQ _ _ _ _ nofun rfl (by simp[zb,ze,AV.strip,AV.strip1])
     have g13:¬ ((c.toNat:Int)=13):=fun e=>c13 (UInt8.toNat_inj.1 (by have:(13:UInt8).toNat=13:=rfl;omega))
     simp(disch:=first|omega|assumption) only[h1,hlt,hg,g34,g10,g13,g92,Option.getD_some,Option.isSome_some,go_sem]
     refine zd (zqW s p.length (by omega) (by simp only[Lim];omega)) ?_
     rw[hdp]
     obtain⟨hok,hvr⟩:=zqA (l:=c::r) (by simp) hvt
     have e:=zmR (out:=out) hj hok (by simp) (by simpa using c34) (by simpa using c92) (by simp[yM,c10,c13])
     have hkp:=hok.pos
     have hkl:=hok.len
     have hle:=hok.le
     have henc:=hok.enc
     have hel:=(Y7 (ym (c::r)).1).1
     simp only[Al2] at hkl
     generalize (ym (c::r)).1=cc at *
     generalize (ym (c::r)).2=k at *
     have w7:IntKind.wrap .i64 ((p.length:Int)+(k:Int))=(p.length:Int)+k:=wrap64 (by omega) (by omega)
     have hk1:¬ ((k:Int)<1):=by omega
     have e6:(p.length:Int)+k=((s.length-((c::r).drop k).length:Nat):Int):=by simp;omega
     have htk:((c::r).take k).length=k:=by simp;omega
     have nx:=hJ ((c::r).drop k,out++tt++(c::r).take k,[],.nil) H (by simp;omega) ⟨⟨p++(c::r).take k,by rw[← hp];simp⟩,hvr,by rw[he,e],by simp only[Al5,htk,yH,Al2,Al3];omega,rfl⟩
     simp(disch:=first|omega|assumption) only[go_sem]
     refine zd (zpY cc hle) ?_
     rw[henc]
     have hmm:(if (1:Int) > (k:Int) then (1:Int) else k)=k:=if_neg (by omega)
     simp(disch:=first|omega|assumption) only[w7,hk1,hmm,htk,Al5,go_sem]
     exact goJ nx (by simp(disch:=first|omega|assumption) only[e6,cU,go_sem])
def Yq:List UInt8:=[46,46,46]
def zab:List UInt8:=[33,36,38,40,41,58,61,64,91,93,123,124,125]
def zoq:List UInt8→Bool
 | [c]=>decide (0≤Lib.indexByte zab c)
 | _=>false
def YS (t:Tok):Bool:=if t.k=1 then decide (t.s=Yq)||zoq t.s else if t.k=2 then zf5 t.s else if t.k=3∨t.k=4 then decide (zbC t.s=t.k) else if t.k=5 then validD t.s else false
def yy:List UInt8→List UInt8→List (List UInt8)
 | cur,[]=>[cur]
 | cur,[c]=>if c=10∨c=13 then [cur,[]] else [cur++[c]]
 | cur,c::d::r=>if c=10 then cur::yy [] (d::r) else if c=13 then (if d=10 then cur::yy [] r else cur::yy [] (d::r)) else yy (cur++[c]) (d::r)
def zQ (s:List UInt8):List (List UInt8):=yy [] s
def zdC (c:UInt8):Bool:=decide (c=9)||decide (c=32)
def ZK (s:List UInt8):Nat:=(s.takeWhile zdC).length
def yp (s:List UInt8):Bool:=s.all zdC
def zbR:List (List UInt8)→Int→Int
 | [],a=>a
 | s::r,a=>zbR r (if yp s then a else if a<0∨(ZK s:Int)<a then ZK s else a)
def indM (l:List (List UInt8)):Int:=zbR l.tail (-1)
def za3 (l:List (List UInt8)):List (List UInt8):=match l with
 | []=>[]
 | x::r=>x::r.map fun s=>s.drop (indM l).toNat
def Yc (l:List (List UInt8)):List (List UInt8):=(l.reverse.dropWhile yp).reverse
def yv (raw:List UInt8):List UInt8:=Lib.join (Yc ((za3 (zQ raw)).dropWhile yp)) [10]
def yr:List UInt8:=[34,34,34]
def zgi:List UInt8:=[92,34,34,34]
def zit:List UInt8:=[239,187,191]
def Zl:Nat→List UInt8→List UInt8→Option (List UInt8×List UInt8)
 | 0,_,_=>none
 | n+1,raw,t=>match t with
  | []=>none
  | c::r=>if yr.isPrefixOf (c::r) then some (raw,r.drop 2) else if zgi.isPrefixOf (c::r) then Zl n (raw++yr) (r.drop 3) else Zl n (raw++[c]) r
def yu (c:UInt8):Bool:=!(decide (c=10)||decide (c=13))
def Z2:List UInt8→Nat
 | []=>0
 | c::r=>if c=9∨c=10∨c=13∨c=32∨c=44 then 1 else if zit.isPrefixOf (c::r) then 3 else if c=35 then 1+(r.takeWhile yu).length else 0
def yU (s:List UInt8):Nat:=(s.takeWhile fun c=>isL c||isD c).length
def y1:List UInt8→Option (Tok×List UInt8)
 | []=>none
 | c::r=>if yr.isPrefixOf (c::r) then (Zl (r.length+1) [] (r.drop 2)).map fun x=>(⟨5,yv x.1⟩,x.2)
  else if c=34 then (ZL yM r).map fun x=>(⟨5,x.1⟩,x.2)
  else if Yq.isPrefixOf (c::r) then some (⟨1,Yq⟩,r.drop 2)
  else if 0≤Lib.indexByte zab c then some (⟨1,[c]⟩,r)
  else if isL c then some (⟨2,(c::r).take (yU (c::r))⟩,(c::r).drop (yU (c::r)))
  else if (yx (c::r)).1=0 then none
  else if ((c::r).drop (yx (c::r)).1).head?.any fun d=>isL d||isD d||decide (d=46) then none
  else some (⟨(yx (c::r)).2,(c::r).take (yx (c::r)).1⟩,(c::r).drop (yx (c::r)).1)
def Y3:Nat→List Tok→List UInt8→Except Int (List Tok)
 | 0,_,_=>.error 0
 | n+1,l,t=>if t=[] then .ok l else if Z2 t≠0 then Y3 n l (t.drop (Z2 t)) else match y1 t with
  | none=>.error 2
  | some (x,t')=>Y3 n (l++[x]) t'
def zbe (c:Nat):Bool:=decide (c=9)||(decide (c=10)||(decide (c=13)||(decide (32≤c)&&decide (c≤65535))))
def zhj:Nat→List UInt8→Bool
 | 0,_=>true
 | n+1,l=>if l=[] then true else decide (0<(ym l).2)&&(zbe (ym l).1&&zhj n (l.drop (ym l).2))
def zdT (s:List UInt8):Bool:=zhj s.length s
def Zj (s:List UInt8):Except Int (List Tok):=if 8192<s.length then .error 3 else if zdT s then Y3 (s.length+1) [] s else .error 2
theorem ztw (s:List UInt8):decodeGo ⟨s.toArray⟩=if s=[] then (65533,0) else decodeL s:=by
 unfold decodeGo
 cases s with
 | nil=>rfl
 | cons c r=>rw[if_neg (by simp[ByteArray.size]),if_neg (by simp)];rfl
theorem zqa (s:List UInt8):zr Tryz.prog 272 [.str s] (.tup [.int .i32 ((if s=[] then (65533,0) else decodeL s:Nat×Nat).1),.int .i64 ((if s=[] then (65533,0) else decodeL s:Nat×Nat).2)]):=by
 refine zr.of_below fun γ w vs ht hv=>?_
 rw[zp3 hv]
 have h:=Tryz.utf8_DecodeRuneInString ⟨s.toArray⟩ w (zpa ht)
 rw[ztw] at h
 exact Calls.mono h fun e w' ⟨he,hb⟩=>⟨hb,_,he,zfY (.int _ _) (.int _ _)⟩
theorem zl4:Go.Proofs.Builder.Extra Tryz.prog Tryz.lays156_ren where
 sizeBuilder:=by kernel_rfl
 liesBuilder:=by kernel_rfl
 t5:=Tryz.underlying5
 a5:=Tryz.isAgg5
 z5:=Tryz.sizeOf5
 v5:=Tryz.zeroValue5
 infoByte:=by kernel_rfl
 cellsByte:=by kernel_rfl
 sizeByte:=by kernel_rfl
 neB5:=by decide
theorem zbv (l:List (List UInt8)) (sep:List UInt8) (hl:(Lib.join l sep).length≤140737488355328) (hn:l.length≤140737488355328):zr Tryz.prog 121 [.sl .no 1 (cT l),.str sep] (.str (Lib.join l sep)):=by
 refine zr.of_below fun γ w vs ht hv=>?_
 obtain⟨hlv,hr⟩:=hv
 match vs,hlv with
 | [v,u],_ =>
  have h0:=hr 0 _ _ rfl rfl
  cases hr 1 _ _ rfl rfl
  generalize hx:cT l=xs at h0
  cases h0 with
  | slnil _ _ ho =>
   have:l=[]:=by cases l with|nil=>rfl|cons a b=>simp[cT] at hx
   subst this
   exact(Any.strings_Join_none Tryz.lays156 zl4 none 0 ⟨sep.toArray⟩ w).mono fun e w' ⟨he,hw⟩=>⟨by rw[hw];exact RowKit.Below.refl _ _,_,he,.str _⟩
  | sl0 _ _ a ho =>
   have:l=[]:=by cases l with|nil=>rfl|cons a b=>simp[cT] at hx
   subst this
   exact(Any.strings_Join_none Tryz.lays156 zl4 (some a) 0 ⟨sep.toArray⟩ w).mono fun e w' ⟨he,hw⟩=>⟨by rw[hw];exact RowKit.Below.refl _ _,_,he,.str _⟩
  | sl _ _ _ b off cap cv hc hm hu hcell hrr ho =>
   subst hx
   have hcl:=zso l
   cases hl0:l with
   | nil =>
    subst hl0
    exact(Any.strings_Join_none Tryz.lays156 zl4 (some ⟨b,off,none⟩) cap ⟨sep.toArray⟩ w).mono fun e w' ⟨he,hw⟩=>⟨by rw[hw];exact RowKit.Below.refl _ _,_,he,.str _⟩
   | cons x0 r0 =>
    have hcells:∀(j:Nat) x,(l.map fun s=>(⟨s.toArray⟩:ByteArray))[j]?=some x→w.cell? ⟨b,off+j,none⟩=some (.string x):=fun j x hj=>by
     rw[Z4,zaM] at hj
     obtain⟨s,h1,rfl⟩:=hj
     have g1:(cT l)[j]?=some [.str s]:=by simp[cT,h1]
     have h2:=hcell j _ g1 0 (by decide)
     have h3:=hrr j _ g1 0 (.str s) rfl
     have e:off+(j*1+0)=off+j:=by omega
     rw[e] at h2
     generalize cv j 0=y at h2 h3
     cases h3
     exact h2.1
    have hbk:b<w.heap.size:=by
     have:=hcells 0 ⟨x0.toArray⟩ (by rw[hl0];rfl)
     exact World.block_lt_of_cell? w _ this
    have hmap:(l.map fun s=>(⟨s.toArray⟩:ByteArray)).map (·.data.toList)=l:=by
     rw[List.map_map];exact(List.map_congr_left (g:=id) fun s _=>by simp).trans (List.map_id l)
    have h:=Any.strings_Join Tryz.lays156 zl4 b off cap (l.map fun s=>(⟨s.toArray⟩:ByteArray)) ⟨sep.toArray⟩ w hcells hbk (by simpa using hn) (by rw[List.length_map];omega) (by rw[hmap];exact hl)
    rw[List.length_map,hmap] at h
    rw[← hl0,hcl]
    exact h.mono fun e w' ⟨he,hb⟩=>⟨hb,_,he,.str _⟩
theorem zsO (s:List UInt8) (i:Nat) (hi:i<s.length) (hs:s.length≤Lim):zr Tryz.prog 210 [.str s,.int .i64 i] (.tup [.int .i64 (ym (s.drop i)).1,.int .i64 (ym (s.drop i)).2]):=by
 refine zr.go ir210 ck210 (Al4 _) fun KP Q hQ=>?_
 simp only[Lim] at hs
 have hne:s.drop i≠[]:=fun e=>by have:=congrArg List.length e;simp at this;omega
 have h1:¬ ((i:Int)<0):=by omega
 have h2:¬ ((s.length:Int)≤i):=by omega
 have h3:((i:Int)≤s.length)=True:=eq_true (by omega)
 simp(disch:=first|omega|assumption) only[ir210,h1,h2,h3,go_sem]
 refine zd (zqa (s.drop i)) ?_
 have hw:=decodeL_width (s.drop i)
 have hr:=decodeL_rune (s.drop i)
 unfold ym at hQ
 simp only[hne,if_false] at hQ ⊢
 generalize decodeL (s.drop i)=x at *
 obtain⟨c,k⟩:=x
 simp only at hw hr hQ
 have e:IntKind.wrap .i64 (c:Int)=c:=wrap64 (by omega) (by omega)
 by_cases hc:c=65533
 ·have g1:((c:Int)=65533)=True:=eq_true (by omega)
  by_cases hk:k<2
  ·have g2:((k:Int)<2)=True:=eq_true (by omega)
   have e1:(c,k)=(65533,1):=by rw[hc];congr 1;omega
   rw[if_pos e1] at hQ
   simp(disch:=first|omega|assumption) only[g1,g2,go_sem]
   exact hQ _ _ _ _ nofun rfl (by simp[zb,ze,AV.strip,AV.strip1])
  ·have g2:¬ ((k:Int)<2):=by omega
   have e1:¬ ((c,k)=(65533,1)):=fun h=>by cases h;omega
   rw[if_neg e1] at hQ
   simp(disch:=first|omega|assumption) only[g1,g2,e,go_sem]
   exact hQ _ _ _ _ nofun rfl (by simp[zb,ze,AV.strip,AV.strip1])
 ·have g1:¬ ((c:Int)=65533):=by omega
  have e1:¬ ((c,k)=(65533,1)):=fun h=>by cases h;omega
  rw[if_neg e1] at hQ
  simp(disch:=first|omega|assumption) only[g1,e,go_sem]
  exact hQ _ _ _ _ nofun rfl (by simp[zb,ze,AV.strip,AV.strip1])
theorem ztn (c:Nat) (h:c≤1114111):zr Tryz.prog 216 [.int .i64 c] (.bool (zbe c)):=by
 refine zr.go ir216 ck216 (Al4 _) fun KP Q hQ=>?_
 by_cases h1:c=9
 ·have g:((c:Int)=9)=True:=eq_true (by omega)
  simp(disch:=first|omega|assumption) only[ir216,g,go_sem]
  exact hQ _ _ _ _ nofun rfl (by simp[zb,ze,AV.strip,AV.strip1,zbe,h1])
 have g1:¬ ((c:Int)=9):=by omega
 by_cases h2:c=10
 ·have g:((c:Int)=10)=True:=eq_true (by omega)
  simp(disch:=first|omega|assumption) only[ir216,g1,g,go_sem]
  exact hQ _ _ _ _ nofun rfl (by simp[zb,ze,AV.strip,AV.strip1,zbe,h2])
 have g2:¬ ((c:Int)=10):=by omega
 by_cases h3:c=13
 ·have g:((c:Int)=13)=True:=eq_true (by omega)
  simp(disch:=first|omega|assumption) only[ir216,g1,g2,g,go_sem]
  exact hQ _ _ _ _ nofun rfl (by simp[zb,ze,AV.strip,AV.strip1,zbe,h3])
 have g3:¬ ((c:Int)=13):=by omega
 by_cases h4:32≤c
 ·have g4:((32:Int)≤c)=True:=eq_true (by omega)
  by_cases h5:c≤65535
  ·have g5:((c:Int)≤65535)=True:=eq_true (by omega)
   simp(disch:=first|omega|assumption) only[ir216,g1,g2,g3,g4,g5,go_sem]
   exact hQ _ _ _ _ nofun rfl (by simp[zb,ze,AV.strip,AV.strip1,zbe,h4,h5])
  ·have g5:¬ ((c:Int)≤65535):=by omega
   simp(disch:=first|omega|assumption) only[ir216,g1,g2,g3,g4,g5,go_sem]
   exact hQ _ _ _ _ nofun rfl (by simp[zb,ze,AV.strip,AV.strip1,zbe,h1,h2,h3,h5])
 ·have g4:¬ ((32:Int)≤c):=by omega
  simp(disch:=first|omega|assumption) only[ir216,g1,g2,g3,g4,go_sem]
  exact hQ _ _ _ _ nofun rfl (by simp[zb,ze,AV.strip,AV.strip1,zbe,h1,h2,h3,h4])
theorem zmD {l:List UInt8} (hne:l≠[]) (h:(ym l).2≠0):ym l=decodeL l∧decodeL l≠(65533,1):=by
 unfold ym at h ⊢
 rw[if_neg hne] at h ⊢
 split at h
 ·exact absurd rfl h
 ·rename_i h2;rw[if_neg h2];exact⟨rfl,h2⟩
def zhc (r:List UInt8):Prop:=r=[]∨∃ c t,r=c::t∧(c=32∨c=10)
theorem zjy {r:List UInt8} (h:zhc r):zR r=0:=by
 rcases h with rfl|⟨c,t,rfl,rfl|rfl⟩
 ·rfl
 all_goals simp[zR,isD]
theorem zcI:∀(a:List UInt8) {r:List UInt8},zhc r→zR (a++r)=zR a
 | [],r,h=>zjy h
 | c::a,r,h=>by simp only[Al6,zR];rw[zcI a h]
theorem zkm (a:List UInt8) {r:List UInt8} (h:zhc r):Zt (a++r)=Zt a:=by
 unfold Zt
 rw[zcI a h]
 cases a with
 | nil=>simp[zR]
 | cons c a=>simp
theorem zld (a:List UInt8) {r:List UInt8} (h:zhc r):zF (a++r)=zF a:=by
 cases a with
 | nil =>
  have h1:=zjy h
  have h2:zF []=0:=rfl
  rw[zcD,h2]
  unfold zF
  rcases h with rfl|⟨c,t,rfl,rfl|rfl⟩
  ·rfl
  all_goals
   rw[if_neg (by simp)];unfold Zt;rw[if_pos h1]
 | cons c a =>
  by_cases hc:c=45
  ·subst hc;rw[Al6,YU,YU,zcI a h,zkm a h]
  ·rw[Yh (s:=c::a++r) (by simp[hc]),Yh (s:=c::a) (by simp[hc]),zkm (c::a) h]
theorem zmF (a:List UInt8) {r:List UInt8} (h:zhc r):yA (a++r)=yA a:=by
 cases a with
 | nil=>rcases h with rfl|⟨c,t,rfl,rfl|rfl⟩<;>rfl
 | cons c a=>simp[yA,zcI a h]
theorem znV (a:List UInt8) {r:List UInt8} (h:zhc r):ZJ (a++r)=ZJ a:=by
 cases a with
 | nil =>
  rcases h with rfl|⟨c,t,rfl,rfl|rfl⟩
  ·rfl
  all_goals simp[ZJ,isE]
 | cons c a =>
  have hs:sgN (a++r)=sgN a:=by
   cases a with
   | nil=>rcases h with rfl|⟨c,t,rfl,rfl|rfl⟩<;>simp[sgN]
   | cons d a=>simp[sgN]
  have hd:(a++r).drop (sgN a)=a.drop (sgN a)++r:=zd9 (zi2 a)
  simp only[Al6,ZJ,hs,hd,zcI _ h]
theorem zoG {a:List UInt8} {r:List UInt8} (h:zhc r):yx (a++r)=yx a:=by
 have h1:=zcY a
 have e1:(a++r).drop (zF a)=a.drop (zF a)++r:=zd9 h1
 have h2:=zgG (a.drop (zF a))
 simp only[yH] at h2
 have e2:(a++r).drop (zF a+yA (a.drop (zF a)))=a.drop (zF a+yA (a.drop (zF a)))++r:=zd9 (by omega)
 unfold yx
 rw[zld a h,e1,zmF _ h,e2,znV _ h]
theorem zqC {P:UInt8→Bool} (h:(List.range 256).all (fun n=>P (UInt8.ofNat n))=true) (c:UInt8):P c=true:=by
 have h1:=za8.1 h c.toNat (List.mem_range.2 (UInt8.toNat_lt c))
 simpa using h1
def zlV (c:UInt8):Bool:=decide (0≤Lib.indexByte zab c)
def spB (c:UInt8):Bool:=decide (c=9∨c=10∨c=13∨c=32∨c=44)||decide (c=239)||decide (c=35)
theorem zoe (c:UInt8):(!zlV c||(!(decide (c=34))&&(!(decide (c=46))&&(!(isL c)&&(!(isD c)&&(!(decide (c=45))&&(!(spB c)&&decide (32≤c.toNat∧c.toNat<128))))))))=true:=zqC (P:=fun c=>(!zlV c||(!(decide (c=34))&&(!(decide (c=46))&&(!(isL c)&&(!(isD c)&&(!(decide (c=45))&&(!(spB c)&&decide (32≤c.toNat∧c.toNat<128))))))))) (by decide +kernel) c
theorem zhH {p:UInt8→Bool} {r:List UInt8} (h10:p 10=false) (h32:p 32=false) (h:zhc r):∀ s:List UInt8,(s++r).takeWhile p=s.takeWhile p
 | []=>by
  rcases h with rfl|⟨c,t,rfl,rfl|rfl⟩
  ·rfl
  ·simp[h32]
  ·simp[h10]
 | c::s=>by
  simp only[Al6,List.takeWhile_cons]
  split
  ·rw[zhH h10 h32 h s]
  ·rfl
theorem zhM {p:UInt8→Bool}:∀ s:List UInt8,(∀ c∈s,p c=true)→s.takeWhile p=s
 | [],_=>rfl
 | c::s,h=>by
  simp only[List.takeWhile_cons,h c (.head _),if_true]
  rw[zhM s fun d hd=>h d (.tail _ hd)]
theorem zmI (s:List UInt8) {r:List UInt8} (h:zhc r):yU (s++r)=yU s:=by
 unfold yU;rw[zhH (by decide) (by decide) h s]
theorem zmP {s:List UInt8} (h:(yx s).1≠0):zF s≠0:=fun e=>h (by unfold yx;rw[if_pos e])
theorem znC {s:List UInt8} (h:(yx s).1≠0):(yx s).2=3∨(yx s).2=4:=by
 have hw:=zmP h
 unfold yx
 rw[if_neg hw]
 simp only
 split<;>simp
theorem zhO:∀(n m:Nat) (l:List UInt8),l.length≤n→l.length≤m→zhj n l=zhj m l
 | 0,m,l,h,_=>by
  obtain rfl:l=[]:=zmU.1 (by omega)
  cases m<;>simp[zhj]
 | n+1,0,l,_,h=>by
  obtain rfl:l=[]:=zmU.1 (by omega)
  simp[zhj]
 | n+1,m+1,l,h1,h2=>by
  simp only[zhj]
  split
  ·rfl
  ·by_cases hp:0<(ym l).2
   ·rw[zhO n m (l.drop (ym l).2) (by simp;omega) (by simp;omega)]
   ·simp[hp]
theorem zhQ {l:List UInt8} (hne:l≠[]):zdT l=(decide (0<(ym l).2)&&(zbe (ym l).1&&zdT (l.drop (ym l).2))):=by
 unfold zdT
 have hl:0<l.length:=List.length_pos_iff.2 hne
 obtain⟨m,hm⟩:∃ m,l.length=m+1:=⟨l.length-1,by omega⟩
 rw[hm,zhj,if_neg hne]
 by_cases hp:0<(ym l).2
 ·rw[zhO m (l.drop (ym l).2).length (l.drop (ym l).2) (by simp;omega) (Al4 _)]
 ·simp[hp]
theorem zoD:zdT []=true:=rfl
theorem zmK (c:UInt8):nch c=true→32≤c.toNat∧c.toNat<128:=zdE (P:=fun c=>nch c=true→32≤c.toNat∧c.toNat<128) (by decide +kernel) c
theorem znd {s:List UInt8} (h:zbC s≠0):∀ b∈s,32≤b.toNat∧b.toNat<128:=fun b hb=>zmK b ((zoh h).1 b hb)
theorem zaY:∀(p s t:List UInt8),(∀ x∈p,x≠10)→p.isPrefixOf (s++10::t)=p.isPrefixOf s
 | [],s,t,_=>by cases s<;>simp
 | x::p,[],t,h=>by
  have h1:=h x (.head _)
  simp[List.isPrefixOf,h1]
 | x::p,c::s,t,h=>by
  simp only[Al6,List.isPrefixOf]
  rw[zaY p s t fun y hy=>h y (.tail _ hy)]
theorem Zi:∀(p s:List UInt8),p.isPrefixOf s=true→p.length≤s.length
 | [],s,_=>Nat.zero_le _
 | x::p,[],h=>by simp[List.isPrefixOf] at h
 | x::p,c::s,h=>by
  simp only[List.isPrefixOf,Al0] at h
  have:=Zi p s h.2
  simp only[Al2];omega
theorem zrv (t:List UInt8):zhc (10::t):=.inr ⟨10,t,rfl,.inr rfl⟩
theorem zf9:∀(n:Nat) (raw s:List UInt8) (b s':List UInt8),Zl n raw s=some (b,s')→s'.length<s.length∧∀(m:Nat) (t:List UInt8),n≤m→Zl m raw (s++10::t)=some (b,s'++10::t)
 | 0,_,_,_,_,h=>by cases h
 | n+1,raw,[],_,_,h=>by simp[Zl] at h
 | n+1,raw,c::r,b,s',h=>by
  simp only[Zl] at h
  by_cases h1:yr.isPrefixOf (c::r)=true
  ·rw[if_pos h1] at h
   have hl:=Zi _ _ h1
   simp only[yr,Al2,Al3] at hl
   simp only[Al1,Al8] at h
   obtain⟨rfl,rfl⟩:=h
   refine⟨by simp;omega,fun m t hm=>?_⟩
   obtain⟨k,rfl⟩:∃ k,m=k+1:=⟨m-1,by omega⟩
   have e:=zaY yr (c::r) t (by decide)
   rw[Al6] at e
   simp only[Zl,Al6]
   rw[e,if_pos h1,zd9 (by omega)]
  ·rw[if_neg h1] at h
   by_cases h2:zgi.isPrefixOf (c::r)=true
   ·rw[if_pos h2] at h
    have hl:=Zi _ _ h2
    simp only[zgi,Al2,Al3] at hl
    obtain⟨g1,g2⟩:=zf9 n _ _ _ _ h
    refine⟨by simp at g1 ⊢;omega,fun m t hm=>?_⟩
    obtain⟨k,rfl⟩:∃ k,m=k+1:=⟨m-1,by omega⟩
    have e:=zaY yr (c::r) t (by decide)
    have e2:=zaY zgi (c::r) t (by decide)
    rw[Al6] at e e2
    simp only[Zl,Al6]
    rw[e,if_neg h1,e2,if_pos h2,zd9 (by omega)]
    exact g2 k t (by omega)
   ·rw[if_neg h2] at h
    obtain⟨g1,g2⟩:=zf9 n _ _ _ _ h
    refine⟨by simp;omega,fun m t hm=>?_⟩
    obtain⟨k,rfl⟩:∃ k,m=k+1:=⟨m-1,by omega⟩
    have e:=zaY yr (c::r) t (by decide)
    have e2:=zaY zgi (c::r) t (by decide)
    rw[Al6] at e e2
    simp only[Zl,Al6]
    rw[e,if_neg h1,e2,if_neg h2]
    exact g2 k t (by omega)
theorem zhA:∀(n:Nat) (s:List UInt8) (u v:Nat) (t:List UInt8),ZN n s u=some v→n≤s.length∧ZN n (s++t) u=some v
 | 0,s,u,v,t,h=>by
  simp only[ZN] at h ⊢
  exact⟨Nat.zero_le _,h⟩
 | n+1,[],u,v,t,h=>by simp[ZN] at h
 | n+1,c::s,u,v,t,h=>by
  simp only[ZN,Al6] at h ⊢
  cases hx:hexD c with
  | none=>rw[hx] at h;cases h
  | some k =>
   rw[hx] at h
   simp only at h ⊢
   have:=zhA n s _ v t h
   exact⟨by simp;omega,this.2⟩
theorem zoj {q q':Sd} {s s':List UInt8} (t:List UInt8) (h:Yl q s=some (q',s')):Yl q (s++t)=some (q',s'++t):=by
 cases s with
 | nil=>cases h
 | cons c r =>
  simp only[Yl,Al6] at h ⊢
  by_cases h1:c=117
  ·rw[if_pos h1] at h ⊢
   cases hu:Yb r with
   | none=>rw[hu] at h;cases h
   | some u =>
    obtain⟨g1,g2⟩:=zhA 4 r 0 u t hu
    rw[hu] at h
    simp only[yS,Al1,Al8] at h
    obtain⟨rfl,rfl⟩:=h
    rw[Yb,g2]
    simp only[yS,Al1,Al8,true_and]
    exact zd9 g1
  ·rw[if_neg h1] at h ⊢
   split at h
   ·cases h
   ·rename_i h2
    rw[if_neg h2]
    simp only[Al1,Al8] at h ⊢
    obtain⟨rfl,rfl⟩:=h
    exact⟨rfl,rfl⟩
theorem zgN {may:UInt8→Bool} (t:List UInt8):∀(n:Nat) (s:List UInt8) (q q':Sd) (s':List UInt8),zad may n s q=some (q',s')→∀ m,n≤m→zad may m (s++t) q=some (q',s'++t)
 | 0,_,_,_,_,h=>by cases h
 | n+1,[],_,_,_,h=>by cases h
 | n+1,c::s,q,q',s',h=>fun m hm=>by
  obtain⟨k,rfl⟩:∃ k,m=k+1:=⟨m-1,by omega⟩
  simp only[zad,Al6] at h ⊢
  by_cases h1:c=34
  ·rw[if_pos h1] at h ⊢
   simp only[Al1,Al8] at h ⊢
   exact⟨h.1,by rw[h.2]⟩
  rw[if_neg h1] at h ⊢
  by_cases h2:c=92
  ·rw[if_pos h2] at h ⊢
   cases he:Yl q s with
   | none=>rw[he] at h;cases h
   | some x =>
    rw[he] at h
    rw[zoj t (q':=x.1) (s':=x.2) he]
    exact zgN t n _ _ _ _ h k (by omega)
  rw[if_neg h2] at h ⊢
  split at h
  ·rename_i h3
   rw[if_pos h3]
   exact zgN t n _ _ _ _ h k (by omega)
  ·cases h
theorem znP {may:UInt8→Bool} {s s' b:List UInt8} (t:List UInt8) (h:ZL may s=some (b,s')):ZL may (s++t)=some (b,s'++t):=by
 unfold ZL at h ⊢
 cases hq:zad may (s.length+1) s ⟨[],[],true⟩ with
 | none=>rw[hq] at h;cases h
 | some x =>
  rw[hq] at h
  rw[zgN t _ _ _ x.1 x.2 hq _ (by simp)]
  simp only at h ⊢
  split at h
  ·rename_i h1
   simp only[Al1,Al8] at h
   rw[if_pos h1]
   simp[h.1,h.2]
  ·cases h
theorem zd2 (s:List UInt8):yU s≤s.length:=by unfold yU;exact(List.takeWhile_sublist _).length_le
theorem zcq (s:List UInt8):(yx s).1≤s.length:=by
 unfold yx
 split
 ·simp
 ·have h1:=zcY s
  have h2:=zgG (s.drop (zF s))
  have h3:=ziu (s.drop (zF s+yA (s.drop (zF s))))
  simp only[yH] at h2 h3
  simp only;omega
theorem zoN {s s':List UInt8} {x:Tok} (h:y1 s=some (x,s')) (t:List UInt8):s'.length<s.length∧y1 (s++10::t)=some (x,s'++10::t):=by
 cases s with
 | nil=>cases h
 | cons c r =>
  have e3:=zaY yr (c::r) t (by decide)
  have ed:=zaY Yq (c::r) t (by decide)
  rw[Al6] at e3 ed
  have hw:=zmI (c::r) (zrv t)
  have hn:=zoG (a:=c::r) (zrv t)
  simp only[y1] at h
  simp only[y1,Al6]
  rw[e3,ed]
  by_cases h1:yr.isPrefixOf (c::r)=true
  ·rw[if_pos h1] at h ⊢
   have hl:=Zi _ _ h1
   simp only[yr,Al2,Al3] at hl
   cases hr:Zl (r.length+1) [] (r.drop 2) with
   | none=>rw[hr] at h;cases h
   | some y =>
    rw[hr] at h
    simp only[yS,Al1,Al8] at h
    obtain⟨rfl,rfl⟩:=h
    obtain⟨g1,g2⟩:=zf9 _ _ _ y.1 y.2 hr
    simp only[yH] at g1
    rw[zd9 (by omega),g2 _ t (by simp)]
    exact⟨by simp only[Al2];omega,rfl⟩
  rw[if_neg h1] at h ⊢
  by_cases h2:c=34
  ·rw[if_pos h2] at h ⊢
   cases hr:ZL yM r with
   | none=>rw[hr] at h;cases h
   | some y =>
    rw[hr] at h
    simp only[yS,Al1,Al8] at h
    obtain⟨rfl,rfl⟩:=h
    have g1:=zjq (t':=y.2) (b:=y.1) hr
    rw[znP (10::t) (b:=y.1) (s':=y.2) hr]
    exact⟨by simp only[Al2];omega,rfl⟩
  rw[if_neg h2] at h ⊢
  by_cases h3:Yq.isPrefixOf (c::r)=true
  ·rw[if_pos h3] at h ⊢
   have hl:=Zi _ _ h3
   simp only[Yq,Al2,Al3] at hl
   simp only[Al1,Al8] at h ⊢
   obtain⟨rfl,rfl⟩:=h
   exact⟨by simp;omega,rfl,zd9 (by omega)⟩
  rw[if_neg h3] at h ⊢
  by_cases h4:0≤Lib.indexByte zab c
  ·rw[if_pos h4] at h ⊢
   simp only[Al1,Al8] at h ⊢
   obtain⟨rfl,rfl⟩:=h
   exact⟨by simp,rfl,rfl⟩
  rw[if_neg h4] at h ⊢
  by_cases h5:isL c=true
  ·rw[if_pos h5] at h ⊢
   have hl:=zd2 (c::r)
   have hp:0<yU (c::r):=by unfold yU;simp[h5]
   simp only[Al1,Al8] at h ⊢
   obtain⟨rfl,rfl⟩:=h
   rw[← Al6,hw,List.take_append_of_le_length hl,zd9 hl]
   exact⟨by rw[yH];simp only[Al2] at hl ⊢;omega,rfl,rfl⟩
  rw[if_neg h5] at h ⊢
  rw[← Al6,hn]
  by_cases h6:(yx (c::r)).1=0
  ·rw[if_pos h6] at h;cases h
  rw[if_neg h6] at h ⊢
  have hl:=zcq (c::r)
  rw[List.take_append_of_le_length hl,zd9 hl]
  have hh:(((c::r).drop (yx (c::r)).1++10::t).head?.any fun d=>isL d||isD d||decide (d=46))=(((c::r).drop (yx (c::r)).1).head?.any fun d=>isL d||isD d||decide (d=46)):=by
   cases (c::r).drop (yx (c::r)).1 with
   | nil=>simp[isL,isD]
   | cons d t=>rfl
  rw[hh]
  split at h
  ·cases h
  ·rename_i h7
   rw[if_neg h7]
   simp only[Al1,Al8] at h ⊢
   obtain⟨rfl,rfl⟩:=h
   exact⟨by rw[yH];simp only[Al2] at hl ⊢;omega,rfl,rfl⟩
theorem zdY (s:List UInt8):Z2 s≤s.length:=by
 cases s with
 | nil=>simp[Z2]
 | cons c r =>
  simp only[Z2]
  split
  ·simp
  ·split
   ·rename_i h;have:=Zi _ _ h;simpa[zit] using this
   ·split
    ·have:=(List.takeWhile_sublist yu (l:=r)).length_le;simp only[Al2];omega
    ·simp
theorem zc8 {s s':List UInt8} {x:Tok} (h:y1 s=some (x,s')):s'.length<s.length:=(zoN h []).1
theorem zbO:∀(n m:Nat) (l:List Tok) (s:List UInt8),s.length<n→s.length<m→Y3 n l s=Y3 m l s
 | 0,_,_,_,h,_=>by omega
 | _,0,_,_,_,h=>by omega
 | n+1,m+1,l,s,h1,h2=>by
  simp only[Y3]
  split
  ·rfl
  ·rename_i hne
   split
   ·rename_i hg
    have hl:0<s.length:=List.length_pos_iff.2 hne
    exact zbO n m _ _ (by rw[yH];omega) (by rw[yH];omega)
   ·cases ho:y1 s with
    | none=>rfl
    | some x =>
     have:=zc8 (x:=x.1) (s':=x.2) ho
     exact zbO n m _ _ (by omega) (by omega)
theorem zjC {s:List UInt8} {l:List Tok} (h:Zj s=.ok l):s.length≤8192∧zdT s=true∧Y3 (s.length+1) [] s=.ok l:=by
 unfold Zj at h
 split at h
 ·cases h
 ·split at h
  ·rename_i h1 h2;exact⟨by omega,h2,h⟩
  ·cases h
theorem zcs:∀(l:List UInt8) (m:Nat),zR (l.take m)=min m (zR l)
 | [],m=>by simp[zR]
 | c::l,0=>by simp[zR]
 | c::l,m+1=>by
  simp only[zbV,zR]
  split
  ·rw[zcs l m];omega
  ·simp
theorem zj3 (s:List UInt8) (m:Nat) (h:Zt s≤m):Zt (s.take m)=Zt s:=by
 unfold Zt at h ⊢
 rw[zcs]
 by_cases h1:zR s=0
 ·rw[h1];simp
 rw[if_neg h1] at h ⊢
 by_cases h2:s.getD 0 0=48
 ·rw[if_pos h2] at h ⊢
  have e:(s.take m).getD 0 0=s.getD 0 0:=by
   cases s with
   | nil=>simp
   | cons c r=>obtain⟨k,rfl⟩:∃ k,m=k+1:=⟨m-1,by omega⟩;simp
  rw[e,if_pos h2,if_neg (by omega)]
 ·rw[if_neg h2] at h ⊢
  have e:(s.take m).getD 0 0=s.getD 0 0:=by
   cases s with
   | nil=>simp
   | cons c r=>obtain⟨k,rfl⟩:∃ k,m=k+1:=⟨m-1,by omega⟩;simp
  rw[e,if_neg h2,if_neg (by omega)]
  omega
theorem zf3 (s:List UInt8) (m:Nat) (h:zF s≤m):zF (s.take m)=zF s:=by
 cases s with
 | nil=>simp
 | cons c r =>
  cases m with
  | zero =>
   have:zF (c::r)=0:=by omega
   rw[this];rfl
  | succ m =>
   by_cases hc:c=45
   ·subst hc
    rw[zbV]
    rw[YU] at h ⊢
    rw[YU,zcs]
    by_cases h1:zR r=0
    ·rw[h1];simp
    ·rw[if_neg h1] at h ⊢
     have h2:Zt r≠0:=by unfold Zt;rw[if_neg h1];split<;>omega
     rw[if_neg (by omega),zj3 r m (by omega)]
   ·rw[Yh (s:=c::r) (by simp[hc])] at h ⊢
    rw[Yh (s:=(c::r).take (m+1)) (by simp[hc]),zj3 _ _ h]
theorem zdM (c:UInt8) (r:List UInt8):yA (c::r)=if c=46∧0<zR r then 1+zR r else 0:=by simp[yA]
theorem zmN (s:List UInt8) (m:Nat) (h:yA s≤m):yA (s.take m)=yA s:=by
 cases s with
 | nil=>simp
 | cons c r =>
  cases m with
  | zero =>
   have:yA (c::r)=0:=by omega
   rw[this];rfl
  | succ m =>
   rw[zbV,zdM,zdM,zcs]
   rw[zdM] at h
   by_cases h1:c=46∧0<zR r
   ·rw[if_pos h1] at h ⊢
    rw[if_pos ⟨h1.1,by omega⟩];omega
   ·rw[if_neg h1]
    rw[if_neg]
    rintro⟨g1,g2⟩
    exact h1 ⟨g1,by omega⟩
theorem zqG (r:List UInt8) (m:Nat) (h:m≠0):sgN (r.take m)=sgN r:=by
 cases r with
 | nil=>simp
 | cons c r =>
  obtain⟨k,rfl⟩:∃ k,m=k+1:=⟨m-1,by omega⟩
  simp[sgN]
theorem znL (s:List UInt8) (m:Nat) (h:ZJ s≤m):ZJ (s.take m)=ZJ s:=by
 cases s with
 | nil=>simp
 | cons c r =>
  cases m with
  | zero =>
   have:ZJ (c::r)=0:=by omega
   rw[this];rfl
  | succ m =>
   simp only[zbV,ZJ] at h ⊢
   by_cases h1:isE c=true
   case neg=>rw[if_neg h1,if_neg h1]
   rw[if_pos h1] at h ⊢
   rw[if_pos h1]
   by_cases hm:m=0
   ·subst hm
    have h2:zR (r.drop (sgN r))=0:=by
     by_cases h2:zR (r.drop (sgN r))=0
     ·exact h2
     ·rw[if_neg h2] at h;omega
    rw[if_pos h2]
    simp[zR]
   ·rw[zqG r m hm,List.drop_take,zcs]
    by_cases h2:zR (r.drop (sgN r))=0
    ·rw[if_pos h2,if_pos (by omega)]
    ·rw[if_neg h2] at h ⊢
     rw[if_neg (by omega)];omega
theorem zjn (s:List UInt8) (m:Nat) (h:(yx s).1≤m):yx (s.take m)=yx s:=by
 by_cases hw:zF s=0
 ·unfold yx
  rw[zf3 s m (by omega),if_pos hw,if_pos hw]
 ·have h':=h
  unfold yx at h
  rw[if_neg hw] at h
  simp only at h
  unfold yx
  rw[zf3 s m (by omega),if_neg hw,if_neg hw,List.drop_take,List.drop_take,zmN _ _ (by omega),znL _ _ (by omega)]
theorem zng {s:List UInt8} (h:(yx s).1≠0):YS ⟨(yx s).2,s.take (yx s).1⟩=true:=by
 have h2:=znC h
 have hl:=zcq s
 unfold YS
 simp only
 rw[if_neg (by omega),if_neg (by omega),if_pos h2]
 unfold zbC
 rw[zjn s _ (Al4 _),List.length_take,Nat.min_eq_left hl,if_pos rfl]
 simp
theorem zki:∀(s:List UInt8) (i:Nat),i≠0→(∀ c∈s,(isL c||isD c)=true)→zjB s i=true
 | [],_,_,_=>rfl
 | c::r,i,hi,h=>by
  have h1:=h c (.head _)
  simp only[zjB]
  rw[if_pos (by simpa[hi] using h1)]
  exact zki r (i+1) (by omega) fun d hd=>h d (.tail _ hd)
theorem ziB {p:UInt8→Bool}:∀(s:List UInt8),∀ c∈s.takeWhile p,p c=true
 | [],c,h=>by simp at h
 | d::s,c,h=>by
  simp only[List.takeWhile_cons] at h
  split at h
  ·rename_i hd
   rcases List.mem_cons.1 h with rfl|h
   ·exact hd
   ·exact ziB s c h
  ·simp at h
theorem zf2 (p:UInt8→Bool) (s:List UInt8):s.take (s.takeWhile p).length=s.takeWhile p:=by
 induction s with
 | nil=>rfl
 | cons c s ih =>
  simp only[List.takeWhile_cons]
  split
  ·simp[ih]
  ·rfl
theorem zjO {c:UInt8} {r:List UInt8} (h:isL c=true):YS ⟨2,(c::r).take (yU (c::r))⟩=true:=by
 unfold YS
 simp only
 rw[if_neg (by decide),if_pos trivial]
 unfold yU
 rw[zf2]
 have h1:=ziB (p:=fun c=>isL c||isD c) (c::r)
 simp only[List.takeWhile_cons,h,Bool.true_or,if_true] at h1 ⊢
 simp only[zf5,zjB,h,Bool.true_or,if_true,Al0,z7]
 exact⟨zki _ 1 (by decide) fun d hd=>h1 d (.tail _ hd),by simp⟩
theorem Yj {c:UInt8} (hc:c.toNat<128) {b:List UInt8} (h:validD (c::b)=true):validD b=true:=(zcd hc (a:=[]) h).2
theorem zoV {c:UInt8} (hc:c.toNat<128) {b:List UInt8} (h:validD b=true):validD (c::b)=true:=za4 (a:=[c]) (zeY fun d hd=>by simp only[List.mem_singleton] at hd;subst hd;exact hc) h
theorem zax:∀ {p s:List UInt8},p.isPrefixOf s=true→s=p++s.drop p.length
 | [],s,_=>rfl
 | x::p,[],h=>by simp[List.isPrefixOf] at h
 | x::p,c::s,h=>by
  simp only[List.isPrefixOf,Al0,beq_iff_eq] at h
  have:=zax h.2
  rw[h.1]
  simp only[Al6,Al2,List.drop_succ_cons,List.cons.injEq,true_and]
  exact this
theorem zdU:∀(n:Nat) (raw t b s':List UInt8),Zl n raw t=some (b,s')→validD (raw++t)=true→validD b=true∧validD s'=true
 | 0,_,_,_,_,h,_=>by cases h
 | n+1,raw,[],_,_,h,_=>by simp[Zl] at h
 | n+1,raw,c::r,b,s',h,hv=>by
  simp only[Zl] at h
  split at h
  ·rename_i h1
   simp only[Al1,Al8] at h
   obtain⟨rfl,rfl⟩:=h
   have e:=zax h1
   simp only[yr,Al6,zcD,Al2,Al3,List.drop_succ_cons,Nat.zero_add,Nat.reduceAdd] at e
   rw[e] at hv
   have g:=zcd (c:=34) (by decide) hv
   exact⟨g.1,Yj (c:=34) (by decide) (Yj (c:=34) (by decide) g.2)⟩
  ·split at h
   ·rename_i h2
    have e:=zax h2
    simp only[zgi,Al6,zcD,Al2,Al3,List.drop_succ_cons,Nat.zero_add,Nat.reduceAdd] at e
    rw[e] at hv
    have g:=zcd (c:=92) (by decide) hv
    refine zdU n _ _ _ _ h ?_
    rw[zfM]
    exact za4 g.1 g.2
   ·exact zdU n _ _ _ _ h (by rw[zfM];exact hv)
theorem Yt:∀(s cur:List UInt8),validD (cur++s)=true→∀ x∈yy cur s,validD x=true
 | [],cur,h,x,hx=>by
  simp only[yy,List.mem_singleton] at hx
  subst hx;simpa using h
 | [c],cur,h,x,hx=>by
  simp only[yy] at hx
  split at hx
  ·rename_i hc
   have hc2:c.toNat<128:=by rcases hc with rfl|rfl<;>decide
   have g:=zcd hc2 h
   simp only[List.mem_cons,List.not_mem_nil,or_false] at hx
   rcases hx with rfl|rfl
   ·exact g.1
   ·rfl
  ·simp only[List.mem_singleton] at hx
   subst hx;exact h
 | c::d::r,cur,h,x,hx=>by
  simp only[yy] at hx
  split at hx
  ·rename_i hc
   subst hc
   have g:=zcd (c:=10) (by decide) h
   rcases List.mem_cons.1 hx with rfl|hx
   ·exact g.1
   ·exact Yt (d::r) [] g.2 x hx
  ·split at hx
   ·rename_i hc
    subst hc
    have g:=zcd (c:=13) (by decide) h
    split at hx
    ·rename_i hd
     subst hd
     rcases List.mem_cons.1 hx with rfl|hx
     ·exact g.1
     ·exact Yt r [] (Yj (c:=10) (by decide) g.2) x hx
    ·rcases List.mem_cons.1 hx with rfl|hx
     ·exact g.1
     ·exact Yt (d::r) [] g.2 x hx
   ·exact Yt (d::r) (cur++[c]) (by rw[zfM];exact h) x hx
termination_by s=>s.length
theorem zoC {c:UInt8} (h:zdC c=true):c.toNat<128:=by
 simp only[zdC,zd3,z7] at h
 rcases h with rfl|rfl<;>decide
theorem zlR:∀(s:List UInt8) (n:Nat),n≤ZK s→validD s=true→validD (s.drop n)=true
 | [],n,_,_=>by simp;rfl
 | c::s,0,_,h=>h
 | c::s,n+1,hn,h=>by
  unfold ZK at hn
  simp only[List.takeWhile_cons] at hn
  split at hn
  ·rename_i hc
   simp only[Al2] at hn
   exact zlR s n (by unfold ZK;omega) (Yj (zoC hc) h)
  ·simp at hn
theorem ziO:∀(L:List (List UInt8)) (a:Int),(0≤a→zbR L a≤a∧0≤zbR L a)∧(∀ s∈L,yp s=false→zbR L a≤ZK s∧0≤zbR L a)
 | [],a=>⟨fun h=>⟨Int.le_refl _,h⟩,fun s hs=>nomatch hs⟩
 | s::r,a=>by
  simp only[zbR]
  have ih:=ziO r
  by_cases hb:yp s=true
  ·rw[if_pos hb]
   refine⟨(ih a).1,fun x hx hxb=>?_⟩
   rcases List.mem_cons.1 hx with rfl|hx
   ·rw[hb] at hxb;cases hxb
   ·exact(ih a).2 x hx hxb
  ·rw[if_neg hb]
   by_cases hc:a<0∨(ZK s:Int)<a
   ·rw[if_pos hc]
    have h1:=(ih (ZK s)).1 (by omega)
    refine⟨fun h=>⟨by omega,h1.2⟩,fun x hx hxb=>?_⟩
    rcases List.mem_cons.1 hx with rfl|hx
    ·exact h1
    ·exact(ih _).2 x hx hxb
   ·rw[if_neg hc]
    have h1:=(ih a).1 (by omega)
    refine⟨fun _=>h1,fun x hx hxb=>?_⟩
    rcases List.mem_cons.1 hx with rfl|hx
    ·exact⟨by omega,h1.2⟩
    ·exact(ih _).2 x hx hxb
theorem zik {s:List UInt8} (h:yp s=true):ZK s=s.length:=by
 unfold yp at h
 unfold ZK
 rw[zhM s (za8.1 h)]
theorem zkh {l:List (List UInt8)} (h:∀ x∈l,validD x=true):∀ x∈za3 l,validD x=true:=by
 cases l with
 | nil=>exact fun x hx=>nomatch hx
 | cons y r =>
  intro x hx
  simp only[za3] at hx
  rcases List.mem_cons.1 hx with rfl|hx
  ·exact h _ (.head _)
  ·obtain⟨s,hs,rfl⟩:=List.mem_map.1 hx
   have hv:=h s (.tail _ hs)
   by_cases hl:(indM (y::r)).toNat≤ZK s
   ·exact zlR s _ hl hv
   ·cases hb:yp s with
    | true =>
     have:=zik hb
     rw[List.drop_eq_nil_of_le (by omega)];rfl
    | false =>
     have:=(ziO r (-1)).2 s hs hb
     have e:indM (y::r)=zbR r (-1):=rfl
     rw[e] at hl
     omega
theorem zdZ:∀ l:List (List UInt8),(∀ x∈l,validD x=true)→validD (Lib.join l [10])=true
 | [],_=>rfl
 | [x],h=>by simpa[Lib.join] using h x (.head _)
 | x::y::r,h=>by
  have e:Lib.join (x::y::r) [10]=x++10::Lib.join (y::r) [10]:=by simp[Lib.join]
  rw[e]
  exact za4 (h x (.head _)) (zoV (by decide) (zdZ (y::r) fun z hz=>h z (.tail _ hz)))
theorem zoY {l:List (List UInt8)}:∀ x∈Yc l,x∈l:=fun x hx=>by
 unfold Yc at hx
 have h1:=List.mem_reverse.1 hx
 exact List.mem_reverse.1 ((List.dropWhile_sublist _).subset h1)
theorem ziQ {raw:List UInt8} (h:validD raw=true):validD (yv raw)=true:=by
 unfold yv
 refine zdZ _ fun x hx=>?_
 exact zkh (Yt raw [] h) x ((List.dropWhile_sublist _).subset (zoY x hx))
theorem zig {s s':List UInt8} {x:Tok} (hv:validD s=true) (h:y1 s=some (x,s')):YS x=true∧validD s'=true:=by
 cases s with
 | nil=>cases h
 | cons c r =>
  simp only[y1] at h
  by_cases h1:yr.isPrefixOf (c::r)=true
  ·rw[if_pos h1] at h
   have e:=zax h1
   simp only[yr,Al6,zcD,Al2,Al3,List.drop_succ_cons,Nat.zero_add,Nat.reduceAdd] at e
   cases hr:Zl (r.length+1) [] (r.drop 2) with
   | none=>rw[hr] at h;cases h
   | some y =>
    rw[hr] at h
    simp only[yS,Al1,Al8] at h
    obtain⟨rfl,rfl⟩:=h
    rw[e] at hv
    have g:=zdU _ _ _ y.1 y.2 hr (Yj (c:=34) (by decide) (Yj (c:=34) (by decide) (Yj (c:=34) (by decide) hv)))
    refine⟨?_,g.2⟩
    simp[YS,ziQ g.1]
  rw[if_neg h1] at h
  by_cases h2:c=34
  ·rw[if_pos h2] at h
   cases hr:ZL yM r with
   | none=>rw[hr] at h;cases h
   | some y =>
    rw[hr] at h
    simp only[yS,Al1,Al8] at h
    obtain⟨rfl,rfl⟩:=h
    have g:=zkL (b:=y.1) (t':=y.2) hr (Yj (by rw[h2];decide) hv)
    exact⟨by simp[YS,g.1],g.2⟩
  rw[if_neg h2] at h
  by_cases h3:Yq.isPrefixOf (c::r)=true
  ·rw[if_pos h3] at h
   have e:=zax h3
   simp only[Yq,Al6,zcD,Al2,Al3,List.drop_succ_cons,Nat.zero_add,Nat.reduceAdd] at e
   simp only[Al1,Al8] at h
   obtain⟨rfl,rfl⟩:=h
   rw[e] at hv
   exact⟨by decide,Yj (c:=46) (by decide) (Yj (c:=46) (by decide) (Yj (c:=46) (by decide) hv))⟩
  rw[if_neg h3] at h
  by_cases h4:0≤Lib.indexByte zab c
  ·rw[if_pos h4] at h
   simp only[Al1,Al8] at h
   obtain⟨rfl,rfl⟩:=h
   have hm:=zoe c
   have hm2:zlV c=true:=by simpa[zlV] using h4
   simp only[hm2,Bool.not_true,Bool.false_or,Al0,z7] at hm
   exact⟨by simp[YS,zoq,h4],Yj hm.2.2.2.2.2.2.2 hv⟩
  rw[if_neg h4] at h
  by_cases h5:isL c=true
  ·rw[if_pos h5] at h
   simp only[Al1,Al8] at h
   obtain⟨rfl,rfl⟩:=h
   refine⟨zjO h5,?_⟩
   have ht:validD ((c::r).take (yU (c::r)))=true:=zeY fun d hd=>by
    unfold yU at hd
    rw[zf2] at hd
    have:=ziB (p:=fun c=>isL c||isD c) _ d hd
    simp only[isL,isD,zd3,Al0,z7] at this
    omega
   rw[← zix ht,List.take_append_drop];exact hv
  rw[if_neg h5] at h
  by_cases h6:(yx (c::r)).1=0
  ·rw[if_pos h6] at h;cases h
  rw[if_neg h6] at h
  split at h
  ·cases h
  ·simp only[Al1,Al8] at h
   obtain⟨rfl,rfl⟩:=h
   have hr:=zng h6
   refine⟨hr,?_⟩
   have hk:zbC ((c::r).take (yx (c::r)).1)≠0:=by
    unfold zbC
    rw[zjn _ _ (Al4 _),List.length_take,Nat.min_eq_left (zcq _),if_pos rfl]
    have:=znC h6
    omega
   have ht:validD ((c::r).take (yx (c::r)).1)=true:=zeY fun d hd=>(znd hk d hd).2
   rw[← zix ht,List.take_append_drop];exact hv
theorem zgW (p:UInt8→Bool):∀ r:List UInt8,r.drop (r.takeWhile p).length=r.dropWhile p
 | []=>rfl
 | c::r=>by
  simp only[List.takeWhile_cons,List.dropWhile_cons]
  split
  ·simp[zgW p r]
  ·rfl
theorem zjo {s:List UInt8} (hv:validD s=true):validD (s.drop (Z2 s))=true:=by
 cases s with
 | nil=>rfl
 | cons c r =>
  simp only[Z2]
  split
  ·rename_i h
   have hc:c.toNat<128:=by rcases h with rfl|rfl|rfl|rfl|rfl<;>decide
   exact Yj hc hv
  ·split
   ·rename_i h
    have e:=zax h
    rw[e] at hv
    have hb:validD zit=true:=by decide
    rw[zix hb] at hv
    exact hv
   ·split
    ·rename_i h
     subst h
     have hr:=Yj (c:=35) (by decide) hv
     rw[show 1+(r.takeWhile yu).length=(r.takeWhile yu).length+1 by omega,List.drop_succ_cons]
     have ec:r.takeWhile yu++r.dropWhile yu=r:=List.takeWhile_append_dropWhile
     rw[zgW]
     cases hd:r.dropWhile yu with
     | nil=>rfl
     | cons d t =>
      have hnd:yu d=false:=by
       have:=List.head_dropWhile_not yu (l:=r) (by rw[hd];simp)
       simpa[hd] using this
      have hdl:d.toNat<128:=by
       simp only[yu,Bool.not_eq_false',zd3,z7] at hnd
       rcases hnd with rfl|rfl<;>decide
      rw[hd] at ec
      rw[← ec] at hr
      exact zoV hdl (zcd hdl hr).2
    ·exact hv
theorem zcF:∀(n:Nat) (l:List Tok) (s:List UInt8) (l':List Tok),Y3 n l s=.ok l'→validD s=true→l.all YS=true→l'.all YS=true
 | 0,_,_,_,h,_,_=>by cases h
 | n+1,l,s,l',h,hv,hl=>by
  simp only[Y3] at h
  split at h
  ·cases h;exact hl
  ·split at h
   ·exact zcF n _ _ _ h (zjo hv) hl
   ·cases ho:y1 s with
    | none=>rw[ho] at h;cases h
    | some x =>
     rw[ho] at h
     obtain⟨g1,g2⟩:=zig (x:=x.1) (s':=x.2) hv ho
     exact zcF n _ _ _ h g2 (by simp[hl,g1])
theorem zdz:∀(n:Nat) (s:List UInt8),s.length≤n→zdT s=true→validD s=true
 | 0,s,hn,_=>by
  obtain rfl:s=[]:=zmU.1 (by omega)
  rfl
 | n+1,s,hn,h=>by
  by_cases hne:s=[]
  ·subst hne;rfl
  ·rw[zhQ hne] at h
   simp only[Al0,z7] at h
   rw[(zdO hne (by omega)).1]
   exact zdz n _ (by rw[yH];omega) h.2.2
theorem zjj {s:List UInt8} {l:List Tok} (h:Zj s=.ok l):l.all YS=true:=by
 obtain⟨_,h2,h3⟩:=zjC h
 exact zcF _ _ _ _ h3 (zdz _ s (Al4 _) h2) rfl
end Go.Proofs.YticbbfbpeimkbaaGreatDoor
namespace Go.Proofs.YticbbfbpeimkbaaGreatDoor
open Go.Ab
abbrev zsu (R:AV→za→Prop):AEnd→za→Prop:=fun e H'=>∃ v,e=.ret v∧R v H'
section
variable {KP:AV→za→Prop} {Q:AExit→Env→za→Prop} {st:List Fr} {ρ:Env} {H:za} {all items:List AItem} {d:Option Nat} {R:List Chk}
end
open Go.Lib
def Zm (l:List (List UInt8)):List AV:=l.map AV.str
theorem YD (l:List (List UInt8)):(Zm l).length=l.length:=by simp[Zm]
def MsT (H:za) (b cap:Nat) (l:List (List UInt8)):Prop:=∃ tl,H b=some (.cells (Zm l++tl))∧l.length+tl.length=cap
theorem zkz (z:AV):∀ n,(YE [z] n).length=n
 | 0=>rfl
 | n+1=>by simp[YE,zkz z n]
section
variable {KP:AV→za→Prop} {Q:AExit→Env→za→Prop} {st:List Fr} {ρ:Env} {H:za} {all items:List AItem} {d:Option Nat} {R:List Chk}
theorem zsy {b cap:Nat} {l:List (List UInt8)} {x:List UInt8} {o2:Own} (h:MsT H b cap l) (h1:(l.length+1)*16≤140737488355328) (h2:l.length+1≤maxLen)
  (k:∀ b' cap' H',MsT H' b' cap' (l++[x])→goR Tryz.prog KP Q all items st R (ρ.set d (.ms b' 0 (l.length+1) cap')) H') :
  zmJ Tryz.prog KP Q all items st d R ρ 1 16 [.str []] (.ms b 0 l.length cap) (.sl o2 1 [[.str x]]) H:=by
 obtain⟨tl,hb,hc⟩:=h
 refine zpP hb rfl (by simpa using h1) (by simpa using h2) (fun hfit=>⟨?_,?_⟩) (fun hnf=>⟨?_,fun b' cap' hb' hcap' hm'=>?_⟩)
 ·have hfit:l.length+1≤cap:=hfit
  simp[YD];omega
 ·have hfit:l.length+1≤cap:=hfit
  obtain⟨t0,tl,rfl⟩:∃ t0 t1,tl=t0::t1:=by
   cases tl with
   | nil=>simp at hc;omega
   | cons a b=>exact⟨a,b,rfl⟩
  refine k b cap _ ⟨tl,?_,by simp at hc ⊢;omega⟩
  rw[upd_same]
  simp only[splice,List.flatten_cons,List.flatten_nil,List.append_nil,List.map_cons,List.map_nil,AV.strip1,Al2,Al3,Nat.zero_add,Nat.mul_one]
  rw[List.take_left' (YD l),List.drop_append,List.drop_eq_nil_of_le (by rw[YD];omega),YD,Nat.add_sub_cancel_left]
  simp[Zm]
 ·simp[YD]
 ·refine k b' cap' _ ⟨YE [.str []] (cap'-(l.length+1)),?_,?_⟩
  ·rw[upd_same]
   simp only[List.drop_zero,Nat.mul_one,List.flatten_cons,List.flatten_nil,List.append_nil,List.map_cons,List.map_nil,AV.strip1,Al2,Al3,Nat.zero_add]
   rw[List.take_left' (YD l)]
   simp[Zm]
  ·have hcap':l.length+1≤cap':=hcap'
   rw[zkz];simp;omega
theorem zpC {x:List UInt8} {o2:Own} (k:∀ b' cap' H',MsT H' b' cap' [x]→goR Tryz.prog KP Q all items st R (ρ.set d (.ms b' 0 1 cap')) H') :
  zmJ Tryz.prog KP Q all items st d R ρ 1 16 [.str []] (.sl .nil 1 []) (.sl o2 1 [[.str x]]) H:=by
 refine zog rfl (by simp) (by simp[maxLen]) (fun h=>by simp at h) fun _ b cap hb h1 h2=>?_
 have h1:1≤cap:=h1
 refine k b cap _ ⟨YE [.str []] (cap-1),?_,by rw[zkz];simp;omega⟩
 rw[upd_same]
 simp[Zm,AV.strip1]
end
theorem zbW {cur r:List UInt8} {c:UInt8} (h:¬ (c=10∨c=13)):yy cur (c::r)=yy (cur++[c]) r:=by
 have h10:c≠10:=fun e=>h (.inl e)
 have h13:c≠13:=fun e=>h (.inr e)
 cases r with
 | nil=>simp[yy,h10,h13]
 | cons d r=>simp[yy,h10,h13]
theorem zeX (cur r:List UInt8):yy cur (10::r)=cur::yy [] r:=by cases r<;>simp[yy]
theorem ze8 {cur r:List UInt8} (h:r.head?≠some 10):yy cur (13::r)=cur::yy [] r:=by
 cases r with
 | nil=>simp[yy]
 | cons d r =>
  have:d≠10:=by simpa using h
  simp[yy,this]
theorem zdB (cur r:List UInt8):yy cur (13::10::r)=cur::yy [] r:=by simp[yy]
def zoJ (b cap:Nat) (l:List (List UInt8)):AV:=if l=[] then .sl .nil 1 [] else .ms b 0 l.length cap
theorem zgP (b cap:Nat):zoJ b cap []=.sl .nil 1 []:=rfl
theorem zaq {b cap:Nat} {l:List (List UInt8)} (h:l≠[]):zoJ b cap l=.ms b 0 l.length cap:=if_neg h
def zor (s:List UInt8):AEnd→za→Prop:=zsu fun v H'=>∃ b cap,v=.ms b 0 (zQ s).length cap∧MsT H' b cap (zQ s)
section
variable {KP:AV→za→Prop} {Q:AExit→Env→za→Prop} {st:List Fr} {ρ:Env} {H:za} {all items:List AItem} {d:Option Nat} {R:List Chk}
theorem zbd {b cap:Nat} {l:List (List UInt8)} {x:List UInt8} {o2:Own} (h:l≠[]→MsT H b cap l) (h1:(l.length+1)*16≤140737488355328) (h2:l.length+1≤maxLen)
  (k:∀ b' cap' H',MsT H' b' cap' (l++[x])→goR Tryz.prog KP Q all items st R (ρ.set d (.ms b' 0 (l.length+1) cap')) H') :
  zmJ Tryz.prog KP Q all items st d R ρ 1 16 [.str []] (zoJ b cap l) (.sl o2 1 [[.str x]]) H:=by
 by_cases hl:l=[]
 ·subst hl
  rw[zgP]
  exact zpC fun b' cap' H' hm=>k b' cap' H' hm
 ·rw[zaq hl]
  exact zsy (h hl) h1 h2 k
end
theorem zp6 (s:List UInt8) (hs:s.length≤Lim):zf Tryz.prog 323 [.str s] za.emp (zor s):=by
 refine zf.go ir323 ck323 (Al4 _) fun KP Q hQ=>?_
 have hs':=hs
 simp only[Lim] at hs'
 simp(disch:=first|omega|assumption) only[ir323,go_sem]
 refine zI (fun x:Nat×Nat×List (List UInt8)×Nat×Nat=>[(3,zoJ x.2.2.2.1 x.2.2.2.2 x.2.2.1),(4,.int .i64 x.2.1),(5,.int .i64 x.1)]) (fun x H'=>x.2.1≤x.1∧x.1≤s.length∧x.2.2.1.length≤x.1∧x.2.2.1++yy ((s.take x.1).drop x.2.1) (s.drop x.1)=zQ s∧(x.2.2.1≠[]→MsT H' x.2.2.2.1 x.2.2.2.2 x.2.2.1)) (fun x=>s.length-x.1) (0,0,[],0,0) (by simp(disch:=first|omega|assumption) only[zgP,go_sem]) ⟨Al4 _,Nat.zero_le _,Al4 _,by simp[zQ],fun h=>absurd rfl h⟩ ?_
 rintro⟨i,fr,l,b,cap⟩ H1 J ⟨h1,h2,h3,h4,h5⟩ hJ
 simp only at h1 h2 h3 h4 h5
 by_cases hlt:i<s.length
 case neg =>
  obtain rfl:i=s.length:=by omega
  have hlt':¬ ((s.length:Int)<s.length):=by omega
  have hb1:((fr:Int)≤s.length)=True:=eq_true (by omega)
  rw[List.drop_length,List.take_length] at h4
  simp only[yy] at h4
  simp(disch:=first|omega|assumption) only[hlt',hb1,go_sem]
  refine zbd h5 (by omega) (by simp only[maxLen];omega) fun b' cap' H2 hm=>?_
  simp(disch:=first|omega|assumption) only[go_sem]
  exact hQ _ _ H2 H2 [_] nofun rfl (Low.refl _) ⟨b',cap',by rw[← h4];simp[zb,ze,AV.strip,AV.strip1],by rw[← h4];exact hm⟩
 have hlt':((i:Int)<s.length)=True:=eq_true (by omega)
 obtain⟨c,r,hd⟩:∃ c r,s.drop i=c::r:=by
  cases hx:s.drop i with
  | nil=>have:=congrArg List.length hx;simp at this;omega
  | cons c r=>exact⟨c,r,rfl⟩
 have hc:s.getD i 0=c:=by
  have:(s.drop i).getD 0 0=c:=by rw[hd];rfl
  simpa[List.getD_eq_getElem?_getD] using this
 have hr:s.drop (i+1)=r:=by rw[← List.drop_drop,hd];rfl
 have htk:s.take (i+1)=s.take i++[c]:=by
  rw[List.take_add,hd];rfl
 have hcur:((s.take (i+1)).drop fr)=(s.take i).drop fr++[c]:=by
  rw[htk,zd9 (by simp;omega)]
 rw[hd] at h4
 have hb1:((fr:Int)≤(i:Int))=True:=eq_true (by omega)
 have hne9:l++[(s.take i).drop fr]≠[]:=by simp
 have hb2:((i:Int)≤s.length)=True:=eq_true (by omega)
 by_cases e10:c=10
 case pos =>
  subst e10
  rw[zeX] at h4
  have hcn:((10:UInt8).toNat:Int)=10:=rfl
  simp(disch:=first|omega|assumption) only[hlt',hc,hcn,hb1,hb2,go_sem]
  refine zbd h5 (by omega) (by simp only[maxLen];omega) fun b' cap' H2 hm=>?_
  simp(disch:=first|omega|assumption) only[hc,hcn,wrap64,go_sem]
  refine goJ (hJ (i+1,i+1,l++[(s.take i).drop fr],b',cap') H2 (by simp only;omega) ⟨Al4 _,by simp only;omega,by simp;omega,?_,fun _=>hm⟩) (by simp(disch:=first|omega|assumption) only[zaq hne9,Al5,Al2,Al3,Nat.zero_add,Int.natCast_add,go_sem])
  rw[hr]
  simpa using h4
 by_cases e13:c=13
 case neg =>
  rw[zbW (by simp[e10,e13])] at h4
  have c10:¬ ((c.toNat:Int)=10):=fun e=>e10 (UInt8.toNat_inj.1 (by simpa using (by omega:c.toNat=10)))
  have c13:¬ ((c.toNat:Int)=13):=fun e=>e13 (UInt8.toNat_inj.1 (by simpa using (by omega:c.toNat=13)))
  simp(disch:=first|omega|assumption) only[hlt',hc,c10,c13,wrap64,go_sem]
  refine goJ (hJ (i+1,fr,l,b,cap) H1 (by simp only;omega) ⟨by simp only;omega,by simp only;omega,by simp only;omega,?_,h5⟩) (by simp(disch:=first|omega|assumption) only[Int.natCast_add,go_sem])
  rw[hr,hcur];exact h4
 subst e13
 have hcn:((13:UInt8).toNat:Int)=13:=rfl
 by_cases h10:r.head?=some 10
 case neg =>
  rw[ze8 h10] at h4
  by_cases hi2:i+1<s.length
  case neg =>
   have hi2':¬ ((i:Int)+1<s.length):=by omega
   simp(disch:=first|omega|assumption) only[hlt',hc,hcn,hb1,hb2,go_sem]
   refine zbd h5 (by omega) (by simp only[maxLen];omega) fun b' cap' H2 hm=>?_
   simp(disch:=first|omega|assumption) only[hc,hcn,wrap64,hi2',go_sem]
   refine goJ (hJ (i+1,i+1,l++[(s.take i).drop fr],b',cap') H2 (by simp only;omega) ⟨Al4 _,by simp only;omega,by simp;omega,?_,fun _=>hm⟩) (by simp(disch:=first|omega|assumption) only[zaq hne9,Al5,Al2,Al3,Nat.zero_add,Int.natCast_add,go_sem])
   rw[hr]
   simpa using h4
  have hi2':((i:Int)+1<s.length)=True:=eq_true (by omega)
  obtain⟨e,r',hre⟩:∃ e r',r=e::r':=by
   cases r with
   | nil=>have:=congrArg List.length hr;simp at this;omega
   | cons e r'=>exact⟨e,r',rfl⟩
  have hge:s.getD (i+1) 0=e:=by
   have:(s.drop (i+1)).getD 0 0=e:=by rw[hr,hre];rfl
   simpa[List.getD_eq_getElem?_getD] using this
  have hne:e≠10:=by rw[hre] at h10;simpa using h10
  have hgn:¬ ((e.toNat:Int)=10):=fun x=>hne (UInt8.toNat_inj.1 (by simpa using (by omega:e.toNat=10)))
  have hg1:((i:Int)+1).toNat=i+1:=by omega
  simp(disch:=first|omega|assumption) only[hlt',hc,hcn,hb1,hb2,go_sem]
  refine zbd h5 (by omega) (by simp only[maxLen];omega) fun b' cap' H2 hm=>?_
  simp(disch:=first|omega|assumption) only[hc,hcn,wrap64,hi2',hg1,hge,hgn,go_sem]
  refine goJ (hJ (i+1,i+1,l++[(s.take i).drop fr],b',cap') H2 (by simp only;omega) ⟨Al4 _,by simp only;omega,by simp;omega,?_,fun _=>hm⟩) (by simp(disch:=first|omega|assumption) only[zaq hne9,Al5,Al2,Al3,Nat.zero_add,Int.natCast_add,go_sem])
  rw[hr]
  simpa using h4
 obtain⟨r',hre⟩:∃ r',r=10::r':=by
  cases r with
  | nil=>cases h10
  | cons e r'=>simp only[List.head?_cons,Al1] at h10;subst h10;exact⟨r',rfl⟩
 rw[hre,zdB] at h4
 have hi2:i+1<s.length:=by
  have:=congrArg List.length hr;rw[hre] at this;simp at this;omega
 have hi2':((i:Int)+1<s.length)=True:=eq_true (by omega)
 have hge:s.getD (i+1) 0=10:=by
  have:(s.drop (i+1)).getD 0 0=10:=by rw[hr,hre];rfl
  simpa[List.getD_eq_getElem?_getD] using this
 have hgn:((10:UInt8).toNat:Int)=10:=rfl
 have hg1:((i:Int)+1).toNat=i+1:=by omega
 have hr2:s.drop (i+1+1)=r':=by rw[← List.drop_drop,hr,hre];rfl
 simp(disch:=first|omega|assumption) only[hlt',hc,hcn,hb1,hb2,go_sem]
 refine zbd h5 (by omega) (by simp only[maxLen];omega) fun b' cap' H2 hm=>?_
 simp(disch:=first|omega|assumption) only[hc,hcn,wrap64,hi2',hg1,hge,hgn,go_sem]
 refine goJ (hJ (i+1+1,i+1+1,l++[(s.take i).drop fr],b',cap') H2 (by simp only;omega) ⟨Al4 _,by simp only;omega,by simp;omega,?_,fun _=>hm⟩) (by simp(disch:=first|omega|assumption) only[zaq hne9,Al5,Al2,Al3,Nat.zero_add,Int.natCast_add,go_sem])
 rw[hr2]
 simpa using h4
theorem zqe (s:List UInt8) (hs:s.length≤Lim):zf Tryz.prog 331 [.str s] za.emp (zor s):=by
 refine zf.go ir331 ck331 (Al4 _) fun KP Q hQ=>?_
 have hs':=hs
 simp only[Lim] at hs'
 simp(disch:=first|omega|assumption) only[ir331,go_sem]
 refine zI (fun x:Nat×Nat×List (List UInt8)×Nat×Nat=>[(3,zoJ x.2.2.2.1 x.2.2.2.2 x.2.2.1),(4,.int .i64 x.2.1),(5,.int .i64 x.1)]) (fun x H'=>x.2.1≤x.1∧x.1≤s.length∧x.2.2.1.length≤x.1∧x.2.2.1++yy ((s.take x.1).drop x.2.1) (s.drop x.1)=zQ s∧(x.2.2.1≠[]→MsT H' x.2.2.2.1 x.2.2.2.2 x.2.2.1)) (fun x=>s.length-x.1) (0,0,[],0,0) (by simp(disch:=first|omega|assumption) only[zgP,go_sem]) ⟨Al4 _,Nat.zero_le _,Al4 _,by simp[zQ],fun h=>absurd rfl h⟩ ?_
 rintro⟨i,fr,l,b,cap⟩ H1 J ⟨h1,h2,h3,h4,h5⟩ hJ
 simp only at h1 h2 h3 h4 h5
 by_cases hlt:i<s.length
 case neg =>
  obtain rfl:i=s.length:=by omega
  have hlt':¬ ((s.length:Int)<s.length):=by omega
  have hb1:((fr:Int)≤s.length)=True:=eq_true (by omega)
  rw[List.drop_length,List.take_length] at h4
  simp only[yy] at h4
  simp(disch:=first|omega|assumption) only[hlt',hb1,go_sem]
  refine zbd h5 (by omega) (by simp only[maxLen];omega) fun b' cap' H2 hm=>?_
  simp(disch:=first|omega|assumption) only[go_sem]
  exact hQ _ _ H2 H2 [_] nofun rfl (Low.refl _) ⟨b',cap',by rw[← h4];simp[zb,ze,AV.strip,AV.strip1],by rw[← h4];exact hm⟩
 have hlt':((i:Int)<s.length)=True:=eq_true (by omega)
 obtain⟨c,r,hd⟩:∃ c r,s.drop i=c::r:=by
  cases hx:s.drop i with
  | nil=>have:=congrArg List.length hx;simp at this;omega
  | cons c r=>exact⟨c,r,rfl⟩
 have hc:s.getD i 0=c:=by
  have:(s.drop i).getD 0 0=c:=by rw[hd];rfl
  simpa[List.getD_eq_getElem?_getD] using this
 have hr:s.drop (i+1)=r:=by rw[← List.drop_drop,hd];rfl
 have htk:s.take (i+1)=s.take i++[c]:=by
  rw[List.take_add,hd];rfl
 have hcur:((s.take (i+1)).drop fr)=(s.take i).drop fr++[c]:=by
  rw[htk,zd9 (by simp;omega)]
 rw[hd] at h4
 have hb1:((fr:Int)≤(i:Int))=True:=eq_true (by omega)
 have hne9:l++[(s.take i).drop fr]≠[]:=by simp
 have hb2:((i:Int)≤s.length)=True:=eq_true (by omega)
 by_cases e10:c=10
 case pos =>
  subst e10
  rw[zeX] at h4
  have hcn:((10:UInt8).toNat:Int)=10:=rfl
  simp(disch:=first|omega|assumption) only[hlt',hc,hcn,hb1,hb2,go_sem]
  refine zbd h5 (by omega) (by simp only[maxLen];omega) fun b' cap' H2 hm=>?_
  simp(disch:=first|omega|assumption) only[hc,hcn,wrap64,go_sem]
  refine goJ (hJ (i+1,i+1,l++[(s.take i).drop fr],b',cap') H2 (by simp only;omega) ⟨Al4 _,by simp only;omega,by simp;omega,?_,fun _=>hm⟩) (by simp(disch:=first|omega|assumption) only[zaq hne9,Al5,Al2,Al3,Nat.zero_add,Int.natCast_add,go_sem])
  rw[hr]
  simpa using h4
 by_cases e13:c=13
 case neg =>
  rw[zbW (by simp[e10,e13])] at h4
  have c10:¬ ((c.toNat:Int)=10):=fun e=>e10 (UInt8.toNat_inj.1 (by simpa using (by omega:c.toNat=10)))
  have c13:¬ ((c.toNat:Int)=13):=fun e=>e13 (UInt8.toNat_inj.1 (by simpa using (by omega:c.toNat=13)))
  simp(disch:=first|omega|assumption) only[hlt',hc,c10,c13,wrap64,go_sem]
  refine goJ (hJ (i+1,fr,l,b,cap) H1 (by simp only;omega) ⟨by simp only;omega,by simp only;omega,by simp only;omega,?_,h5⟩) (by simp(disch:=first|omega|assumption) only[Int.natCast_add,go_sem])
  rw[hr,hcur];exact h4
 subst e13
 have hcn:((13:UInt8).toNat:Int)=13:=rfl
 by_cases h10:r.head?=some 10
 case neg =>
  rw[ze8 h10] at h4
  by_cases hi2:i+1<s.length
  case neg =>
   have hi2':¬ ((i:Int)+1<s.length):=by omega
   simp(disch:=first|omega|assumption) only[hlt',hc,hcn,hb1,hb2,go_sem]
   refine zbd h5 (by omega) (by simp only[maxLen];omega) fun b' cap' H2 hm=>?_
   simp(disch:=first|omega|assumption) only[hc,hcn,wrap64,hi2',go_sem]
   refine goJ (hJ (i+1,i+1,l++[(s.take i).drop fr],b',cap') H2 (by simp only;omega) ⟨Al4 _,by simp only;omega,by simp;omega,?_,fun _=>hm⟩) (by simp(disch:=first|omega|assumption) only[zaq hne9,Al5,Al2,Al3,Nat.zero_add,Int.natCast_add,go_sem])
   rw[hr]
   simpa using h4
  have hi2':((i:Int)+1<s.length)=True:=eq_true (by omega)
  obtain⟨e,r',hre⟩:∃ e r',r=e::r':=by
   cases r with
   | nil=>have:=congrArg List.length hr;simp at this;omega
   | cons e r'=>exact⟨e,r',rfl⟩
  have hge:s.getD (i+1) 0=e:=by
   have:(s.drop (i+1)).getD 0 0=e:=by rw[hr,hre];rfl
   simpa[List.getD_eq_getElem?_getD] using this
  have hne:e≠10:=by rw[hre] at h10;simpa using h10
  have hgn:¬ ((e.toNat:Int)=10):=fun x=>hne (UInt8.toNat_inj.1 (by simpa using (by omega:e.toNat=10)))
  have hg1:((i:Int)+1).toNat=i+1:=by omega
  simp(disch:=first|omega|assumption) only[hlt',hc,hcn,hb1,hb2,go_sem]
  refine zbd h5 (by omega) (by simp only[maxLen];omega) fun b' cap' H2 hm=>?_
  simp(disch:=first|omega|assumption) only[hc,hcn,wrap64,hi2',hg1,hge,hgn,go_sem]
  refine goJ (hJ (i+1,i+1,l++[(s.take i).drop fr],b',cap') H2 (by simp only;omega) ⟨Al4 _,by simp only;omega,by simp;omega,?_,fun _=>hm⟩) (by simp(disch:=first|omega|assumption) only[zaq hne9,Al5,Al2,Al3,Nat.zero_add,Int.natCast_add,go_sem])
  rw[hr]
  simpa using h4
 obtain⟨r',hre⟩:∃ r',r=10::r':=by
  cases r with
  | nil=>cases h10
  | cons e r'=>simp only[List.head?_cons,Al1] at h10;subst h10;exact⟨r',rfl⟩
 rw[hre,zdB] at h4
 have hi2:i+1<s.length:=by
  have:=congrArg List.length hr;rw[hre] at this;simp at this;omega
 have hi2':((i:Int)+1<s.length)=True:=eq_true (by omega)
 have hge:s.getD (i+1) 0=10:=by
  have:(s.drop (i+1)).getD 0 0=10:=by rw[hr,hre];rfl
  simpa[List.getD_eq_getElem?_getD] using this
 have hgn:((10:UInt8).toNat:Int)=10:=rfl
 have hg1:((i:Int)+1).toNat=i+1:=by omega
 have hr2:s.drop (i+1+1)=r':=by rw[← List.drop_drop,hr,hre];rfl
 simp(disch:=first|omega|assumption) only[hlt',hc,hcn,hb1,hb2,go_sem]
 refine zbd h5 (by omega) (by simp only[maxLen];omega) fun b' cap' H2 hm=>?_
 simp(disch:=first|omega|assumption) only[hc,hcn,wrap64,hi2',hg1,hge,hgn,go_sem]
 refine goJ (hJ (i+1+1,i+1+1,l++[(s.take i).drop fr],b',cap') H2 (by simp only;omega) ⟨Al4 _,by simp only;omega,by simp;omega,?_,fun _=>hm⟩) (by simp(disch:=first|omega|assumption) only[zaq hne9,Al5,Al2,Al3,Nat.zero_add,Int.natCast_add,go_sem])
 rw[hr2]
 simpa using h4
theorem zen (c:UInt8):zdC c=true↔(c.toNat:Int)=9∨(c.toNat:Int)=32:=by
 simp only[zdC,zd3,z7]
 constructor
 ·rintro(rfl|rfl)
  ·exact .inl rfl
  ·exact .inr rfl
 ·rintro(h|h)
  ·exact .inl (UInt8.toNat_inj.1 (by simpa using (by omega:c.toNat=9)))
  ·exact .inr (UInt8.toNat_inj.1 (by simpa using (by omega:c.toNat=32)))
theorem zhP {a r:List UInt8} {c:UInt8} (ha:∀ x∈a,zdC x=true) (hc:zdC c=false):ZK (a++c::r)=a.length∧yp (a++c::r)=false:=by
 refine⟨?_,?_⟩
 ·unfold ZK
  induction a with
  | nil=>simp[hc]
  | cons x a ih=>simp[ha x (.head _),ih fun y hy=>ha y (.tail _ hy)]
 ·simp[yp,hc]
theorem zks {a:List UInt8} (ha:∀ x∈a,zdC x=true):ZK a=a.length∧yp a=true:=by
 have hb:yp a=true:=za8.2 ha
 exact⟨zik hb,hb⟩
theorem zbl (s:List UInt8) (hs:s.length≤Lim):zr Tryz.prog 345 [.str s] (.tup [.int .i64 (ZK s),.bool (!yp s)]):=by
 refine zr.go ir345 ck345 (Al4 _) fun KP Q hQ=>?_
 have hs':=hs
 simp only[Lim] at hs'
 simp(disch:=first|omega|assumption) only[ir345,go_sem]
 refine Zf s 7 (fun _:AV=>[]) (fun done rest _ H'=>∀ x∈done,zdC x=true) (.int .i64 0) (by simp(disch:=first|omega|assumption) only[go_sem]) (fun x hx=>nomatch hx) ?_ ?_
 ·rintro y H1 J hdn hlt
  obtain⟨g1,g2⟩:=zks hdn
  simp(disch:=first|omega|assumption) only[hlt,go_sem]
  exact hQ _ _ _ _ nofun rfl (by simp[zb,ze,AV.strip,AV.strip1,g1,g2])
 ·rintro done c rest y H1 J hd hlt hlt2 hdn hJ
  have hc:s.getD done.length 0=c:=by rw[hd];simp
  cases hb:zdC c with
  | false =>
   obtain⟨g1,g2⟩:=zhP (r:=rest) hdn hb
   rw[← hd] at g1 g2
   have hn:¬ ((c.toNat:Int)=9∨(c.toNat:Int)=32):=fun h=>by rw[(zen c).2 h] at hb;cases hb
   have n9:¬ ((c.toNat:Int)=9):=fun h=>hn (.inl h)
   have n32:¬ ((c.toNat:Int)=32):=fun h=>hn (.inr h)
   simp(disch:=first|omega|assumption) only[hlt,hc,n9,n32,go_sem]
   exact hQ _ _ _ _ nofun rfl (by simp[zb,ze,AV.strip,AV.strip1,g1,g2])
  | true =>
   have hall:∀ x∈done++[c],zdC x=true:=fun x hx=>by
    rcases List.mem_append.1 hx with h|h
    ·exact hdn x h
    ·simp at h;subst h;exact hb
   rcases(zen c).1 hb with h9|h32
   ·simp(disch:=first|omega|assumption) only[hlt,hc,h9,wrap64,go_sem]
    exact goJ (hJ (.int .i64 0) _ hall) (by simp(disch:=first|omega|assumption) only[go_sem])
   ·have n9:¬ ((c.toNat:Int)=9):=by omega
    simp(disch:=first|omega|assumption) only[hlt,hc,n9,h32,wrap64,go_sem]
    exact goJ (hJ (.int .i64 0) _ hall) (by simp(disch:=first|omega|assumption) only[go_sem])
theorem zgZ (s:List UInt8) (hs:s.length≤Lim):zr Tryz.prog 347 [.str s] (.tup [.int .i64 (ZK s),.bool (!yp s)]):=by
 refine zr.go ir347 ck347 (Al4 _) fun KP Q hQ=>?_
 have hs':=hs
 simp only[Lim] at hs'
 simp(disch:=first|omega|assumption) only[ir347,go_sem]
 refine Zf s 4 (fun _:AV=>[]) (fun done rest _ H'=>∀ x∈done,zdC x=true) (.int .i64 0) (by simp(disch:=first|omega|assumption) only[go_sem]) (fun x hx=>nomatch hx) ?_ ?_
 ·rintro y H1 J hdn hlt
  obtain⟨g1,g2⟩:=zks hdn
  simp(disch:=first|omega|assumption) only[hlt,go_sem]
  exact hQ _ _ _ _ nofun rfl (by simp[zb,ze,AV.strip,AV.strip1,g1,g2])
 ·rintro done c rest y H1 J hd hlt hlt2 hdn hJ
  have hc:s.getD done.length 0=c:=by rw[hd];simp
  cases hb:zdC c with
  | false =>
   obtain⟨g1,g2⟩:=zhP (r:=rest) hdn hb
   rw[← hd] at g1 g2
   have hn:¬ ((c.toNat:Int)=9∨(c.toNat:Int)=32):=fun h=>by rw[(zen c).2 h] at hb;cases hb
   have n9:¬ ((c.toNat:Int)=9):=fun h=>hn (.inl h)
   have n32:¬ ((c.toNat:Int)=32):=fun h=>hn (.inr h)
   simp(disch:=first|omega|assumption) only[hlt,hc,n9,n32,go_sem]
   exact hQ _ _ _ _ nofun rfl (by simp[zb,ze,AV.strip,AV.strip1,g1,g2])
  | true =>
   have hall:∀ x∈done++[c],zdC x=true:=fun x hx=>by
    rcases List.mem_append.1 hx with h|h
    ·exact hdn x h
    ·simp at h;subst h;exact hb
   rcases(zen c).1 hb with h9|h32
   ·simp(disch:=first|omega|assumption) only[hlt,hc,h9,wrap64,go_sem]
    exact goJ (hJ (.int .i64 0) _ hall) (by simp(disch:=first|omega|assumption) only[go_sem])
   ·have n9:¬ ((c.toNat:Int)=9):=by omega
    simp(disch:=first|omega|assumption) only[hlt,hc,n9,h32,wrap64,go_sem]
    exact goJ (hJ (.int .i64 0) _ hall) (by simp(disch:=first|omega|assumption) only[go_sem])
theorem zcj (s:List UInt8) (hs:s.length≤Lim):zr Tryz.prog 325 [.str s] (.bool (yp s)):=by
 refine zr.go ir325 ck325 (Al4 _) fun KP Q hQ=>?_
 simp(disch:=first|omega|assumption) only[ir325,go_sem]
 refine zd (zbl s hs) ?_
 simp(disch:=first|omega|assumption) only[go_sem]
 exact hQ _ _ _ _ nofun rfl (by simp[zb,ze,AV.strip,AV.strip1])
theorem zc0 (s:List UInt8) (hs:s.length≤Lim):zr Tryz.prog 333 [.str s] (.bool (yp s)):=by
 refine zr.go ir333 ck333 (Al4 _) fun KP Q hQ=>?_
 simp(disch:=first|omega|assumption) only[ir333,go_sem]
 refine zd (zgZ s hs) ?_
 simp(disch:=first|omega|assumption) only[go_sem]
 exact hQ _ _ _ _ nofun rfl (by simp[zb,ze,AV.strip,AV.strip1])
theorem zce {l a:List (List UInt8)} {x:List UInt8} {b:List (List UInt8)} (h:l=a++x::b) (tl:List AV):((Zm l++tl).drop (0+a.length*1)).take 1=[.str x]:=by
 subst h;simp[Zm]
theorem zel {l a:List (List UInt8)} {x:List UInt8} {b:List (List UInt8)} (h:l=a++x::b) (tl:List AV):0+a.length*1+1≤(Zm l++tl).length:=by
 subst h;simp[Zm]
theorem zn2 {H:za} {b cap:Nat} {l:List (List UInt8)} (h:MsT H b cap l) (hx:∀ s∈l,s.length≤Lim) (hl:l.length≤Lim) :
  zf Tryz.prog 324 [.ms b 0 l.length cap] H (zsu fun v H'=>v=.int .i64 (indM l)∧H'=H):=by
 obtain⟨tl,hb,hc⟩:=h
 refine zf.go ir324 ck324 (Al4 _) fun KP Q hQ=>?_
 have hl':=hl
 simp only[Lim] at hl'
 simp(disch:=first|omega|assumption) only[ir324,go_sem]
 refine Zf l 10 (fun n:Int=>[(3,.int .i64 n)]) (fun done rest n H'=>H'=H∧((done=[]∧n=-1)∨(done≠[]∧zbR rest n=indM l))) (-1) (by simp(disch:=first|omega|assumption) only[go_sem]) ⟨rfl,.inl ⟨rfl,rfl⟩⟩ ?_ ?_
 ·rintro n H1 J ⟨rfl,hi⟩ hlt
  have e:n=indM l:=by
   rcases hi with ⟨h1,h2⟩|⟨_,h2⟩
   ·subst h1;subst h2;rfl
   ·simpa[zbR] using h2
  simp(disch:=first|omega|assumption) only[hlt,go_sem]
  exact hQ _ _ _ _ [_] nofun rfl (Low.refl _) ⟨by simp[zb,ze,AV.strip,AV.strip1,e],rfl⟩
 ·rintro done x rest n H1 J hd hlt hlt2 ⟨rfl,hi⟩ hJ
  have hg:=zce hd tl
  have hle:=zel hd tl
  have hxl:=hx x (by rw[hd];simp)
  have hne:done++[x]≠[]:=by simp
  by_cases h0:done.length=0
  ·have h0':((done.length:Int)=0)=True:=eq_true (by omega)
   have hdn:=zmU.1 h0
   have e1:n=-1:=by
    rcases hi with ⟨_,h2⟩|⟨h1,_⟩
    ·exact h2
    ·exact absurd hdn h1
   have e2:rest=l.tail:=by rw[hd,hdn];rfl
   simp(disch:=first|omega|assumption) only[hlt,hb,hg,hle,go_sem]
   refine zd (zbl x hxl) ?_
   simp(disch:=first|omega|assumption) only[h0',wrap64,go_sem]
   exact goJ (hJ n _ ⟨rfl,.inr ⟨hne,by rw[e1,e2];rfl⟩⟩) (by simp(disch:=first|omega|assumption) only[go_sem])
  have h0':¬ ((done.length:Int)=0):=by omega
  have e1:zbR (x::rest) n=indM l:=by
   rcases hi with ⟨h1,_⟩|⟨_,h2⟩
   ·rw[h1] at h0;exact absurd rfl h0
   ·exact h2
  simp only[zbR] at e1
  cases hbr:yp x with
  | true =>
   rw[hbr,if_pos rfl] at e1
   simp(disch:=first|omega|assumption) only[hlt,hb,hg,hle,go_sem]
   refine zd (zbl x hxl) ?_
   simp(disch:=first|omega|assumption) only[h0',hbr,wrap64,go_sem]
   exact goJ (hJ n _ ⟨rfl,.inr ⟨hne,e1⟩⟩) (by simp(disch:=first|omega|assumption) only[go_sem])
  | false =>
   rw[hbr,if_neg (by decide)] at e1
   by_cases hn:n<0
   ·rw[if_pos (.inl hn)] at e1
    simp(disch:=first|omega|assumption) only[hlt,hb,hg,hle,go_sem]
    refine zd (zbl x hxl) ?_
    simp(disch:=first|omega|assumption) only[h0',hbr,hn,wrap64,go_sem]
    exact goJ (hJ (ZK x) _ ⟨rfl,.inr ⟨hne,e1⟩⟩) (by simp(disch:=first|omega|assumption) only[go_sem])
   ·by_cases hn2:(ZK x:Int)<n
    ·rw[if_pos (.inr hn2)] at e1
     simp(disch:=first|omega|assumption) only[hlt,hb,hg,hle,go_sem]
     refine zd (zbl x hxl) ?_
     simp(disch:=first|omega|assumption) only[h0',hbr,hn,hn2,wrap64,go_sem]
     exact goJ (hJ (ZK x) _ ⟨rfl,.inr ⟨hne,e1⟩⟩) (by simp(disch:=first|omega|assumption) only[go_sem])
    ·rw[if_neg (by rintro(h|h)<;>contradiction)] at e1
     simp(disch:=first|omega|assumption) only[hlt,hb,hg,hle,go_sem]
     refine zd (zbl x hxl) ?_
     simp(disch:=first|omega|assumption) only[h0',hbr,hn,hn2,wrap64,go_sem]
     exact goJ (hJ n _ ⟨rfl,.inr ⟨hne,e1⟩⟩) (by simp(disch:=first|omega|assumption) only[go_sem])
theorem zmu {α:Type} {l:List α} {i:Nat} (h:i<l.length):∃ a x b,l=a++x::b∧a.length=i:=⟨l.take i,l[i],l.drop (i+1),by simp,by simp;omega⟩
theorem znZ {H:za} {b cap:Nat} {l:List (List UInt8)} (h:MsT H b cap l) (hx:∀ s∈l,s.length≤Lim) (hl:l.length≤Lim) :
  zf Tryz.prog 332 [.ms b 0 l.length cap] H (zsu fun v H'=>v=.int .i64 (indM l)∧H'=H):=by
 obtain⟨tl,hb,hc⟩:=h
 refine zf.go ir332 ck332 (Al4 _) fun KP Q hQ=>?_
 have hl':=hl
 simp only[Lim] at hl'
 simp(disch:=first|omega|assumption) only[ir332,go_sem]
 refine zI (fun x:Nat×Int=>[(3,.int .i64 x.2),(4,.int .i64 ((x.1:Int)+1))]) (fun x H'=>H'=H∧zbR (l.drop (x.1+1)) x.2=indM l) (fun x=>l.length-x.1) (0,-1) (by simp(disch:=first|omega|assumption) only[go_sem]) ⟨rfl,by simp[indM]⟩ ?_
 rintro⟨i,n⟩ H1 J ⟨rfl,hi⟩ hJ
 simp only at hi
 by_cases hlt:i+1<l.length
 case neg =>
  have hlt':¬ ((i:Int)+1<l.length):=by omega
  rw[List.drop_eq_nil_of_le (by omega)] at hi
  have e:n=indM l:=by simpa[zbR] using hi
  simp(disch:=first|omega|assumption) only[hlt',go_sem]
  exact hQ _ _ _ _ [_] nofun rfl (Low.refl _) ⟨by simp[zb,ze,AV.strip,AV.strip1,e],rfl⟩
 have hlt':((i:Int)+1<l.length)=True:=eq_true (by omega)
 obtain⟨a,x,r,hd,ha⟩:=zmu hlt
 have hg:=zce hd tl
 have hle:=zel hd tl
 rw[ha] at hg hle
 have hxl:=hx x (by rw[hd];simp)
 have h1:((i:Int)+1).toNat=i+1:=by omega
 have hdr:l.drop (i+1)=x::r:=by rw[hd,← ha];simp
 have hdr2:l.drop (i+1+1)=r:=by rw[← List.drop_drop,hdr];rfl
 rw[hdr] at hi
 simp only[zbR] at hi
 cases hbr:yp x with
 | true =>
  rw[hbr,if_pos rfl] at hi
  simp(disch:=first|omega|assumption) only[hlt',h1,hb,hg,hle,go_sem]
  refine zd (zgZ x hxl) ?_
  simp(disch:=first|omega|assumption) only[hbr,wrap64,go_sem]
  exact goJ (hJ (i+1,n) _ (by simp only;omega) ⟨rfl,by simp only;rw[hdr2];exact hi⟩) (by simp(disch:=first|omega|assumption) only[Int.natCast_add,go_sem])
 | false =>
  rw[hbr,if_neg (by decide)] at hi
  by_cases hn:n<0
  ·rw[if_pos (.inl hn)] at hi
   simp(disch:=first|omega|assumption) only[hlt',h1,hb,hg,hle,go_sem]
   refine zd (zgZ x hxl) ?_
   simp(disch:=first|omega|assumption) only[hbr,hn,wrap64,go_sem]
   exact goJ (hJ (i+1,ZK x) _ (by simp only;omega) ⟨rfl,by simp only;rw[hdr2];exact hi⟩) (by simp(disch:=first|omega|assumption) only[Int.natCast_add,go_sem])
  ·by_cases hn2:(ZK x:Int)<n
   ·rw[if_pos (.inr hn2)] at hi
    simp(disch:=first|omega|assumption) only[hlt',h1,hb,hg,hle,go_sem]
    refine zd (zgZ x hxl) ?_
    simp(disch:=first|omega|assumption) only[hbr,hn,hn2,wrap64,go_sem]
    exact goJ (hJ (i+1,ZK x) _ (by simp only;omega) ⟨rfl,by simp only;rw[hdr2];exact hi⟩) (by simp(disch:=first|omega|assumption) only[Int.natCast_add,go_sem])
   ·rw[if_neg (by rintro(h|h)<;>contradiction)] at hi
    simp(disch:=first|omega|assumption) only[hlt',h1,hb,hg,hle,go_sem]
    refine zd (zgZ x hxl) ?_
    simp(disch:=first|omega|assumption) only[hbr,hn,hn2,wrap64,go_sem]
    exact goJ (hJ (i+1,n) _ (by simp only;omega) ⟨rfl,by simp only;rw[hdr2];exact hi⟩) (by simp(disch:=first|omega|assumption) only[Int.natCast_add,go_sem])
theorem zf1 (s cur:List UInt8):yy cur s≠[]:=by
 cases s with
 | nil=>simp[yy]
 | cons c s =>
  by_cases h:c=10∨c=13
  ·rcases h with rfl|rfl
   ·rw[zeX];simp
   ·by_cases h10:s.head?=some 10
    ·cases s with
     | nil=>cases h10
     | cons d s=>simp only[List.head?_cons,Al1] at h10;subst h10;rw[zdB];simp
    ·rw[ze8 h10];simp
  ·rw[zbW h];exact zf1 s _
termination_by s.length
theorem zbA:∀(s cur:List UInt8),((yy cur s).map fun x=>x.length+1).sum≤cur.length+s.length+1
 | [],cur=>by simp[yy]
 | [c],cur=>by simp only[yy];split<;>simp
 | c::d::r,cur=>by
  have h1:=zbA (d::r)
  have h2:=zbA r
  simp only[yy]
  repeat' split
  all_goals simp only[Al2,List.map_cons,List.sum_cons] at h1 ⊢
  ·have:=h1 [];simp only[Al3] at this;omega
  ·have:=h2 [];simp only[Al3] at this;omega
  ·have:=h1 [];simp only[Al3] at this;omega
  ·have:=h1 (cur++[c]);simp only[Al5,Al2,Al3] at this;omega
termination_by s=>s.length
theorem zqD {l:List (List UInt8)} {x:List UInt8} (h:x∈l):x.length+1≤(l.map fun x=>x.length+1).sum:=by
 obtain⟨a,b,rfl⟩:=List.append_of_mem h
 simp;omega
def AtR (cells:List AV) (off:Nat) (cur:List (List UInt8)):Prop:=∃ pre post,cells=pre++(Zm cur++post)∧pre.length=off
theorem AtR.get {cells:List AV} {off:Nat} {cur a:List (List UInt8)} {x:List UInt8} {r:List (List UInt8)} (h:AtR cells off cur) (hc:cur=a++x::r):(cells.drop (off+a.length*1)).take 1=[.str x]∧off+a.length*1+1≤cells.length:=by
 obtain⟨pre,post,rfl,rfl⟩:=h
 subst hc
 refine⟨?_,by simp[Zm];omega⟩
 rw[Nat.mul_one,← List.drop_drop,List.drop_left]
 simp[Zm]
theorem AtR.le {cells:List AV} {off:Nat} {cur:List (List UInt8)} (h:AtR cells off cur):off+cur.length≤cells.length:=by
 obtain⟨pre,post,rfl,rfl⟩:=h
 simp[Zm]
theorem AtR.front {cells:List AV} {b off cap:Nat} {x:List UInt8} {r:List (List UInt8)} (h:AtR cells off (x::r)) (hc:r.length+1≤cap) :
  ∃ off2,zev 1 b off (r.length+1) cap (some 1) (some ((r.length+1:Nat):Int))=some (.ms b off2 r.length (cap-1))∧AtR cells off2 r:=by
 obtain⟨pre,post,rfl,rfl⟩:=h
 have e:(((r.length+1:Nat):Int)).toNat-(1:Int).toNat=r.length:=by omega
 by_cases h1:cap=1
 ·obtain rfl:r=[]:=zmU.1 (by omega)
  exact⟨pre.length,by simp[zev,h1],pre,.str x::post,by simp[Zm],rfl⟩
 ·refine⟨pre.length+1,?_,pre++[.str x],post,by simp[Zm],by simp⟩
  unfold zev
  simp only
  rw[if_pos (by omega),if_neg (by simpa using h1),e]
  simp
theorem zgT {b off cap len k:Nat} (h:k≤len):zev 1 b off len cap (some 0) (some (k:Int))=some (.ms b off k cap):=by
 unfold zev
 simp only
 rw[if_pos (by omega)]
 simp
theorem AtR.back {cells:List AV} {off:Nat} {x:List UInt8} {r:List (List UInt8)} (h:AtR cells off (r++[x])):AtR cells off r:=by
 obtain⟨pre,post,rfl,rfl⟩:=h
 exact⟨pre,.str x::post,by simp[Zm],rfl⟩
theorem zht:∀(cur:List (List UInt8)) (post:List AV),zaj 1 cur.length (Zm cur++post)=cT cur
 | [],_=>rfl
 | x::r,post=>by
  have:=zht r post
  simp only[Zm] at this
  simp[zaj,Zm,cT,AV.strip1,this]
theorem AtR.rows {cells:List AV} {off:Nat} {cur:List (List UInt8)} (h:AtR cells off cur):zaj 1 cur.length (cells.drop off)=cT cur:=by
 obtain⟨pre,post,rfl,rfl⟩:=h
 rw[List.drop_left,zht]
def wL (l:List (List UInt8)):Nat:=(l.map fun x=>x.length+1).sum
theorem zag {l:List (List UInt8)} {x:List UInt8} (h:x∈l):x.length+1≤wL l:=zqD h
theorem zct:∀ l:List (List UInt8),l.length≤wL l
 | []=>by simp
 | x::r=>by have:=zct r;simp only[wL,List.map_cons,List.sum_cons,Al2] at this ⊢;omega
theorem zdL (a b:List (List UInt8)):wL (a++b)=wL a+wL b:=by simp[wL]
theorem ZW (x:List UInt8) (b:List (List UInt8)):wL (x::b)=x.length+1+wL b:=by simp[wL]
theorem zfV (n:Nat):∀ l:List (List UInt8),wL (l.map fun s=>s.drop n)≤wL l
 | []=>by simp[wL]
 | x::r=>by have:=zfV n r;simp only[List.map_cons,ZW,yH];omega
theorem zdb:∀ l:List (List UInt8),(Lib.join l [10]).length≤wL l
 | []=>by simp[Lib.join]
 | [x]=>by simp[Lib.join,wL]
 | x::y::r=>by
  have:=zdb (y::r)
  have e:Lib.join (x::y::r) [10]=x++10::Lib.join (y::r) [10]:=by simp[Lib.join]
  rw[e,ZW]
  simp only[Al5,Al2];omega
theorem YQ (r:List (List UInt8)) (x:List UInt8):Yc (r++[x])=if yp x then Yc r else r++[x]:=by
 unfold Yc
 rw[List.reverse_append,List.reverse_singleton,List.singleton_append,List.dropWhile_cons]
 split
 ·rfl
 ·simp
theorem zlM {α:Type} {l:List α} (h:l≠[]):∃ r x,l=r++[x]:=⟨l.dropLast,l.getLast h,(List.dropLast_concat_getLast h).symm⟩
theorem zkx (a:List (List UInt8)) (x y:List UInt8) (r:List (List UInt8)) (tl:List AV):splice (Zm (a++x::r)++tl) (0+a.length*1) [.str y]=Zm (a++y::r)++tl:=by
 have e:Zm (a++x::r)++tl=Zm a++(.str x::(Zm r++tl)):=by simp[Zm]
 rw[e]
 simp only[splice,Al2,Al3,Nat.zero_add,Nat.mul_one]
 rw[List.take_left' (YD a),List.drop_append,List.drop_eq_nil_of_le (by rw[YD];omega),YD,Nat.add_sub_cancel_left]
 simp[Zm]
theorem zqg (raw:List UInt8) (hs:raw.length≤1099511600000):zr Tryz.prog 280 [.str raw] (.str (yv raw)):=by
 refine zr.go ir280 ck280 (Al4 _) fun KP Q hQ=>?_
 have hw0:wL (zQ raw)≤raw.length+1:=by have:=zbA raw [];simpa[wL,zQ] using this
 obtain⟨x0,T,hL⟩:∃ x T,zQ raw=x::T:=by
  cases hx:zQ raw with
  | nil=>exact absurd hx (zf1 raw [])
  | cons x T=>exact⟨x,T,rfl⟩
 have hLl:=zct (zQ raw)
 simp(disch:=first|omega|assumption) only[ir280,go_sem]
 refine zc (zp6 raw (by simp only[Lim];omega)) fun v H1 ⟨b,cap,hv,hm⟩=>?_
 subst hv
 have hm0:=hm
 obtain⟨tl,hb,hcap⟩:=hm
 simp(disch:=first|omega|assumption) only[go_sem]
 refine zc (zn2 hm0 (fun s hsm=>by have:=zag hsm;simp only[Lim];omega) (by simp only[Lim];omega)) fun v H2 ⟨hv,hH⟩=>?_
 subst hv;subst hH
 by_cases hn:0<indM (zQ raw)
 case neg =>
  have hn0:(indM (zQ raw)).toNat=0:=by omega
  obtain⟨D,hDd⟩:∃ D,D=zQ raw:=⟨_,rfl⟩
  have hDM:za3 (zQ raw)=D:=by
   rw[hDd]
   conv=>lhs;rw[hL]
   simp only[za3]
   rw[← hL,hn0]
   simp[hL]
  have hDl:D.length=(zQ raw).length:=by rw[hDd]
  have hbX:H2 b=some (.cells (Zm D++tl)):=by rw[hDd];exact hb
  obtain⟨cells,hcells⟩:∃ cells,cells=Zm D++tl:=⟨_,rfl⟩
  rw[← hcells] at hbX
  have hwD:wL D≤1099511627777:=by rw[hDd];omega
  rw[← hDd] at hcap
  simp(disch:=first|omega|assumption) only[hn,go_sem]
  refine zI (fun x:Nat×Nat×List (List UInt8)=>[(3,.ms b x.1 x.2.2.length x.2.1)]) (fun x H'=>H'=H2∧AtR cells x.1 x.2.2∧x.2.2.length≤x.2.1∧x.2.2.dropWhile yp=D.dropWhile yp∧wL x.2.2≤wL D) (fun x=>x.2.2.length) (0,cap,D) (by simp(disch:=first|omega|assumption) only[hDl,go_sem]) ⟨rfl,⟨[],tl,by rw[hcells,zcD],rfl⟩,by simp only;omega,rfl,Al4 _⟩ ?_
  rintro⟨off,cp,cur⟩ H3 J ⟨rfl,ha,hcp,hdw,hw⟩ hJ
  simp only at ha hcp hdw hw
  have stage2:∀ K:Unit,cur=D.dropWhile yp→True:=fun _ _=>trivial
  by_cases hcur:cur=[]
  case pos =>
   subst hcur
   have hD:D.dropWhile yp=[]:=by rw[← hdw];rfl
   simp(disch:=first|omega|assumption) only[Al3,go_sem]
   refine zI (fun x:Unit=>[]) (fun x H'=>H'=H3) (fun x=>0) () (by simp(disch:=first|omega|assumption) only[Al3,go_sem]) rfl ?_
   rintro⟨⟩ H4 J4 rfl hJ4
   simp(disch:=first|omega|assumption) only[Al3,go_sem]
   refine ze3 hbX (by decide) (by have:=ha.le;simpa using this) ?_
   have hr:=ha.rows
   simp only[Al3] at hr
   simp(disch:=first|omega|assumption) only[hr,go_sem]
   refine zd (zbv [] [10] (by simp[Lib.join]) (by simp)) ?_
   have e:yv raw=Lib.join [] [10]:=by
    unfold yv;rw[hDM,hD];rfl
   simp(disch:=first|omega|assumption) only[go_sem]
   exact hQ _ _ _ _ nofun rfl (by simp[zb,ze,AV.strip,AV.strip1,e])
  obtain⟨x,r,hxr⟩:∃ x r,cur=x::r:=by cases cur with|nil=>exact absurd rfl hcur|cons x r=>exact⟨x,r,rfl⟩
  have hxl:x.length≤Lim:=by have:=zag (l:=cur) (x:=x) (by rw[hxr];simp);simp only[Lim];omega
  obtain⟨hg,hle⟩:=ha.get (a:=[]) (x:=x) (r:=r) hxr
  simp only[Al3,Nat.zero_mul,Nat.add_zero] at hg hle
  have hcl:cur.length=r.length+1:=by rw[hxr];rfl
  have hpos:((0:Int)<(cur.length:Int))=True:=eq_true (by omega)
  have h1l:((1:Int)≤(cur.length:Int))=True:=eq_true (by omega)
  cases hbr:yp x with
  | true =>
   obtain⟨off2,hcut,hat⟩:=AtR.front (b:=b) (cap:=cp) (by rw[← hxr];exact ha) (by omega)
   rw[← hcl] at hcut
   simp(disch:=first|omega|assumption) only[hpos,hbX,hg,hle,Nat.zero_mul,Nat.add_zero,go_sem]
   refine zd (zcj x hxl) ?_
   simp(disch:=first|omega|assumption) only[hbr,hpos,h1l,hcut,go_sem]
   refine goJ (hJ (off2,cp-1,r) H3 (by simp only;omega) ⟨rfl,hat,by simp only;omega,by rw[← hdw,hxr];simp[hbr],by rw[hxr,ZW] at hw;simp only;omega⟩) (by simp(disch:=first|omega|assumption) only[go_sem])
  | false =>
   have hDc:D.dropWhile yp=cur:=by rw[← hdw,hxr];simp[hbr]
   simp(disch:=first|omega|assumption) only[hpos,hbX,hg,hle,Nat.zero_mul,Nat.add_zero,go_sem]
   refine zd (zcj x hxl) ?_
   simp(disch:=first|omega|assumption) only[hbr,go_sem]
   refine zI (fun x:List (List UInt8)=>[(3,.ms b off x.length cp)]) (fun x H'=>H'=H3∧AtR cells off x∧Yc x=Yc cur∧wL x≤wL D∧x.length≤cp) (fun x=>x.length) cur (by simp(disch:=first|omega|assumption) only[go_sem]) ⟨rfl,ha,rfl,hw,hcp⟩ ?_
   rintro u H4 J4 ⟨rfl,ha4,ht4,hw4,hc4⟩ hJ4
   by_cases hu:u=[]
   ·subst hu
    simp(disch:=first|omega|assumption) only[Al3,go_sem]
    refine ze3 hbX (by decide) (by have:=ha4.le;simpa using this) ?_
    have hr:=ha4.rows
    simp only[Al3] at hr
    simp(disch:=first|omega|assumption) only[hr,go_sem]
    refine zd (zbv [] [10] (by simp[Lib.join]) (by simp)) ?_
    have e:yv raw=Lib.join [] [10]:=by
     unfold yv;rw[hDM,hDc,← ht4];rfl
    simp(disch:=first|omega|assumption) only[go_sem]
    exact hQ _ _ _ _ nofun rfl (by simp[zb,ze,AV.strip,AV.strip1,e])
   obtain⟨q,y,hqy⟩:=zlM hu
   have hyl:y.length≤Lim:=by have:=zag (l:=u) (x:=y) (by rw[hqy];simp);simp only[Lim];omega
   obtain⟨hg4,hle4⟩:=ha4.get (a:=q) (x:=y) (r:=[]) hqy
   have hul:u.length=q.length+1:=by rw[hqy];simp
   have hpos4:((0:Int)<(u.length:Int))=True:=eq_true (by omega)
   have wq:IntKind.wrap .i64 ((u.length:Int)-1)=(q.length:Int):=by rw[wrap64 (by omega) (by have:=zct u;omega)];omega
   have h1q:((q.length:Int)<(u.length:Int))=True:=eq_true (by omega)
   have h2q:((q.length:Int)≤(u.length:Int))=True:=eq_true (by omega)
   cases hby:yp y with
   | true =>
    simp(disch:=first|omega|assumption) only[hpos4,wq,h1q,hbX,hg4,hle4,go_sem]
    refine zd (zcj y hyl) ?_
    have hcut:=zgT (b:=b) (off:=off) (cap:=cp) (show q.length≤u.length by omega)
    simp(disch:=first|omega|assumption) only[hby,wq,h1q,h2q,hcut,go_sem]
    refine goJ (hJ4 q H4 (by omega) ⟨rfl,AtR.back (x:=y) (by rw[← hqy];exact ha4),by rw[← ht4,hqy,YQ,hby];rfl,by rw[hqy,zdL] at hw4;omega,by omega⟩) (by simp(disch:=first|omega|assumption) only[go_sem])
   | false =>
    have hlen:=zct u
    simp(disch:=first|omega|assumption) only[hpos4,wq,h1q,hbX,hg4,hle4,go_sem]
    refine zd (zcj y hyl) ?_
    simp(disch:=first|omega|assumption) only[hby,go_sem]
    refine ze3 hbX (by decide) (by have:=ha4.le;omega) ?_
    have hr:=ha4.rows
    have hj:=zdb u
    simp(disch:=first|omega|assumption) only[hr,go_sem]
    refine zd (zbv u [10] (by omega) (by omega)) ?_
    have e:yv raw=Lib.join u [10]:=by
     unfold yv;rw[hDM,hDc,← ht4,hqy,YQ,hby];rfl
    simp(disch:=first|omega|assumption) only[go_sem]
    exact hQ _ _ _ _ nofun rfl (by simp[zb,ze,AV.strip,AV.strip1,e])
 case pos =>
  obtain⟨n,hne⟩:∃ n:Nat,indM (zQ raw)=n:=⟨(indM (zQ raw)).toNat,by omega⟩
  have hnl:n≤1099511627777:=by
   by_cases hall:∀ s∈(zQ raw).tail,yp s=true
   ·have:∀(l:List (List UInt8)),(∀ s∈l,yp s=true)→zbR l (-1)=-1:=by
     intro l
     induction l with
     | nil=>intro _;rfl
     | cons a l ih=>intro h;simp only[zbR,h a (.head _),if_true];exact ih fun s hs=>h s (.tail _ hs)
    have:=this _ hall
    have e:indM (zQ raw)=zbR (zQ raw).tail (-1):=rfl
    omega
   ·obtain⟨s,hs⟩:=Classical.not_forall.1 hall
    obtain⟨hs,hb2⟩:=Classical.not_imp.1 hs
    have h1:=(ziO (zQ raw).tail (-1)).2 s hs (by simpa using hb2)
    have h2:=zag (List.mem_of_mem_tail hs)
    have h3:ZK s≤s.length:=(List.takeWhile_sublist _).length_le
    have e:indM (zQ raw)=zbR (zQ raw).tail (-1):=rfl
    omega
  have hL2:=hL
  rw[hL] at hLl hw0
  have hcap0:=hcap
  rw[hL] at hb hcap0
  have hn':((0:Int)<(n:Int))=True:=eq_true (by omega)
  rw[hne]
  simp(disch:=first|omega|assumption) only[hn',go_sem]
  refine zI (fun x:List (List UInt8)×List (List UInt8)=>[(5,.int .i64 ((x.1.length:Int)+1))]) (fun x H'=>T=x.1++x.2∧H' b=some (.cells (Zm (x0::(x.1.map (fun s=>s.drop n)++x.2))++tl))) (fun x=>x.2.length) ([],T) (by simp(disch:=first|omega|assumption) only[Al3,go_sem]) ⟨rfl,by simpa using hb⟩ ?_
  rintro⟨dn,rest⟩ H3 J3 ⟨hT,hb3⟩ hJ3
  simp only at hT hb3
  have hll:(zQ raw).length=dn.length+rest.length+1:=by rw[hL,hT];simp
  cases rest with
  | nil =>
   have hlt:¬ ((dn.length:Int)+1<((zQ raw).length:Int)):=by simp at hll;omega
   obtain⟨D,hDd⟩:∃ D,D=x0::T.map fun s=>s.drop n:=⟨_,rfl⟩
   have hDM:za3 (zQ raw)=D:=by
    conv=>lhs;rw[hL]
    simp only[za3]
    rw[← hL,hne,hDd];rfl
   have hDl:D.length=(zQ raw).length:=by rw[hDd,hL];simp
   have hbX:H3 b=some (.cells (Zm D++tl)):=by
    rw[hb3,hDd,hT];simp
   obtain⟨cells,hcells⟩:∃ cells,cells=Zm D++tl:=⟨_,rfl⟩
   rw[← hcells] at hbX
   have hwD:wL D≤1099511627777:=by
    have:=zfV n T
    rw[hDd,ZW];rw[ZW] at hw0;omega
   have hcap:D.length+tl.length=cap:=by rw[hDl];exact hcap
   clear hJ3 hb3
   simp(disch:=first|omega|assumption) only[hlt,go_sem]
   refine zI (fun x:Nat×Nat×List (List UInt8)=>[(3,.ms b x.1 x.2.2.length x.2.1)]) (fun x H'=>H'=H3∧AtR cells x.1 x.2.2∧x.2.2.length≤x.2.1∧x.2.2.dropWhile yp=D.dropWhile yp∧wL x.2.2≤wL D) (fun x=>x.2.2.length) (0,cap,D) (by simp(disch:=first|omega|assumption) only[hDl,go_sem]) ⟨rfl,⟨[],tl,by rw[hcells,zcD],rfl⟩,by simp only;omega,rfl,Al4 _⟩ ?_
   rintro⟨off,cp,cur⟩ H5 J5 ⟨rfl,ha,hcp,hdw,hw⟩ hJ5
   simp only at ha hcp hdw hw
   have stage2:∀ K:Unit,cur=D.dropWhile yp→True:=fun _ _=>trivial
   by_cases hcur:cur=[]
   case pos =>
    subst hcur
    have hD:D.dropWhile yp=[]:=by rw[← hdw];rfl
    simp(disch:=first|omega|assumption) only[Al3,go_sem]
    refine zI (fun x:Unit=>[]) (fun x H'=>H'=H5) (fun x=>0) () (by simp(disch:=first|omega|assumption) only[Al3,go_sem]) rfl ?_
    rintro⟨⟩ H4 J4 rfl hJ4
    simp(disch:=first|omega|assumption) only[Al3,go_sem]
    refine ze3 hbX (by decide) (by have:=ha.le;simpa using this) ?_
    have hr:=ha.rows
    simp only[Al3] at hr
    simp(disch:=first|omega|assumption) only[hr,go_sem]
    refine zd (zbv [] [10] (by simp[Lib.join]) (by simp)) ?_
    have e:yv raw=Lib.join [] [10]:=by
     unfold yv;rw[hDM,hD];rfl
    simp(disch:=first|omega|assumption) only[go_sem]
    exact hQ _ _ _ _ nofun rfl (by simp[zb,ze,AV.strip,AV.strip1,e])
   obtain⟨x,r,hxr⟩:∃ x r,cur=x::r:=by cases cur with|nil=>exact absurd rfl hcur|cons x r=>exact⟨x,r,rfl⟩
   have hxl:x.length≤Lim:=by have:=zag (l:=cur) (x:=x) (by rw[hxr];simp);simp only[Lim];omega
   obtain⟨hg,hle⟩:=ha.get (a:=[]) (x:=x) (r:=r) hxr
   simp only[Al3,Nat.zero_mul,Nat.add_zero] at hg hle
   have hcl:cur.length=r.length+1:=by rw[hxr];rfl
   have hpos:((0:Int)<(cur.length:Int))=True:=eq_true (by omega)
   have h1l:((1:Int)≤(cur.length:Int))=True:=eq_true (by omega)
   cases hbr:yp x with
   | true =>
    obtain⟨off2,hcut,hat⟩:=AtR.front (b:=b) (cap:=cp) (by rw[← hxr];exact ha) (by omega)
    rw[← hcl] at hcut
    simp(disch:=first|omega|assumption) only[hpos,hbX,hg,hle,Nat.zero_mul,Nat.add_zero,go_sem]
    refine zd (zcj x hxl) ?_
    simp(disch:=first|omega|assumption) only[hbr,hpos,h1l,hcut,go_sem]
    refine goJ (hJ5 (off2,cp-1,r) H5 (by simp only;omega) ⟨rfl,hat,by simp only;omega,by rw[← hdw,hxr];simp[hbr],by rw[hxr,ZW] at hw;simp only;omega⟩) (by simp(disch:=first|omega|assumption) only[go_sem])
   | false =>
    have hDc:D.dropWhile yp=cur:=by rw[← hdw,hxr];simp[hbr]
    simp(disch:=first|omega|assumption) only[hpos,hbX,hg,hle,Nat.zero_mul,Nat.add_zero,go_sem]
    refine zd (zcj x hxl) ?_
    simp(disch:=first|omega|assumption) only[hbr,go_sem]
    refine zI (fun x:List (List UInt8)=>[(3,.ms b off x.length cp)]) (fun x H'=>H'=H5∧AtR cells off x∧Yc x=Yc cur∧wL x≤wL D∧x.length≤cp) (fun x=>x.length) cur (by simp(disch:=first|omega|assumption) only[go_sem]) ⟨rfl,ha,rfl,hw,hcp⟩ ?_
    rintro u H4 J4 ⟨rfl,ha4,ht4,hw4,hc4⟩ hJ4
    by_cases hu:u=[]
    ·subst hu
     simp(disch:=first|omega|assumption) only[Al3,go_sem]
     refine ze3 hbX (by decide) (by have:=ha4.le;simpa using this) ?_
     have hr:=ha4.rows
     simp only[Al3] at hr
     simp(disch:=first|omega|assumption) only[hr,go_sem]
     refine zd (zbv [] [10] (by simp[Lib.join]) (by simp)) ?_
     have e:yv raw=Lib.join [] [10]:=by
      unfold yv;rw[hDM,hDc,← ht4];rfl
     simp(disch:=first|omega|assumption) only[go_sem]
     exact hQ _ _ _ _ nofun rfl (by simp[zb,ze,AV.strip,AV.strip1,e])
    obtain⟨q,y,hqy⟩:=zlM hu
    have hyl:y.length≤Lim:=by have:=zag (l:=u) (x:=y) (by rw[hqy];simp);simp only[Lim];omega
    obtain⟨hg4,hle4⟩:=ha4.get (a:=q) (x:=y) (r:=[]) hqy
    have hul:u.length=q.length+1:=by rw[hqy];simp
    have hpos4:((0:Int)<(u.length:Int))=True:=eq_true (by omega)
    have wq:IntKind.wrap .i64 ((u.length:Int)-1)=(q.length:Int):=by rw[wrap64 (by omega) (by have:=zct u;omega)];omega
    have h1q:((q.length:Int)<(u.length:Int))=True:=eq_true (by omega)
    have h2q:((q.length:Int)≤(u.length:Int))=True:=eq_true (by omega)
    cases hby:yp y with
    | true =>
     simp(disch:=first|omega|assumption) only[hpos4,wq,h1q,hbX,hg4,hle4,go_sem]
     refine zd (zcj y hyl) ?_
     have hcut:=zgT (b:=b) (off:=off) (cap:=cp) (show q.length≤u.length by omega)
     simp(disch:=first|omega|assumption) only[hby,wq,h1q,h2q,hcut,go_sem]
     refine goJ (hJ4 q H4 (by omega) ⟨rfl,AtR.back (x:=y) (by rw[← hqy];exact ha4),by rw[← ht4,hqy,YQ,hby];rfl,by rw[hqy,zdL] at hw4;omega,by omega⟩) (by simp(disch:=first|omega|assumption) only[go_sem])
    | false =>
     have hlen:=zct u
     simp(disch:=first|omega|assumption) only[hpos4,wq,h1q,hbX,hg4,hle4,go_sem]
     refine zd (zcj y hyl) ?_
     simp(disch:=first|omega|assumption) only[hby,go_sem]
     refine ze3 hbX (by decide) (by have:=ha4.le;omega) ?_
     have hr:=ha4.rows
     have hj:=zdb u
     simp(disch:=first|omega|assumption) only[hr,go_sem]
     refine zd (zbv u [10] (by omega) (by omega)) ?_
     have e:yv raw=Lib.join u [10]:=by
      unfold yv;rw[hDM,hDc,← ht4,hqy,YQ,hby];rfl
     simp(disch:=first|omega|assumption) only[go_sem]
     exact hQ _ _ _ _ nofun rfl (by simp[zb,ze,AV.strip,AV.strip1,e])
  | cons y r =>
   have hlt:((dn.length:Int)+1<((zQ raw).length:Int))=True:=eq_true (by simp at hll;omega)
   have hcur:x0::(dn.map (fun s=>s.drop n)++y::r)=(x0::dn.map (fun s=>s.drop n))++y::r:=rfl
   have hg:=zce hcur tl
   have hle:=zel hcur tl
   have hal:(x0::dn.map (fun s=>s.drop n)).length=dn.length+1:=by simp
   have hst:∀ z,splice (Zm (x0::(dn.map (fun s=>s.drop n)++y::r))++tl) (0+(dn.length+1)*1) [.str z]=Zm (x0::(dn.map (fun s=>s.drop n)++z::r))++tl:=fun z=>by
    have:=zkx (x0::dn.map (fun s=>s.drop n)) y z r tl
    rw[hal] at this
    exact this
   rw[hal] at hg hle
   have h1:((dn.length:Int)+1).toNat=dn.length+1:=by omega
   have hy0:((0:Int)≤(y.length:Int))=True:=eq_true (by omega)
   have hln:dn.length≤1099511627777:=by omega
   by_cases hmin:(y.length:Int)<(n:Int)
   ·have hdr:y.drop y.length=y.drop n:=by rw[List.drop_length,List.drop_eq_nil_of_le (by omega)]
    simp(disch:=first|omega|assumption) only[hlt,h1,hb3,hg,hle,hst,hmin,hy0,List.drop_length,go_sem]
    refine goJ (hJ3 (dn++[y],r) _ (by simp) ⟨by rw[hT];simp,?_⟩) (by simp(disch:=first|omega|assumption) only[wrap64,Al5,Al2,Al3,Int.natCast_add,go_sem])
    rw[upd_same]
    simp[List.drop_eq_nil_of_le (show y.length≤n by omega)]
   ·have hny:((n:Int)≤(y.length:Int))=True:=eq_true (by omega)
    have hn0:((0:Int)≤(n:Int))=True:=eq_true (by omega)
    simp(disch:=first|omega|assumption) only[hlt,h1,hb3,hg,hle,hst,hmin,hny,hn0,go_sem]
    refine goJ (hJ3 (dn++[y],r) _ (by simp) ⟨by rw[hT];simp,?_⟩) (by simp(disch:=first|omega|assumption) only[wrap64,Al5,Al2,Al3,Int.natCast_add,go_sem])
    rw[upd_same]
    simp
end Go.Proofs.YticbbfbpeimkbaaGreatDoor
set_option maxRecDepth 1000000
namespace Go.Proofs.YticbbfbpeimkbaaGreatDoor
open Go.Shelf Go.RowKit Go.Lib
section
variable {P:Program} {ρ:Ren}
def eol:ByteArray:=⟨#[13,10]⟩
theorem zkq (w:World) (k:Nat) (s:ByteArray) (pos:Nat) (ty:TypeId) (hk:w.heap[k]?=some (.stringIter s pos)) (h:pos<s.size) :
  (Instr.next (.pointer (some ⟨k,0,none⟩)) true ty).run P w =
   .ok (.tuple #[.bool true,.int .i64 pos,.int .i32 (Utf8.decode s pos).1]) { w with heap:=w.heap.setIfInBounds k (.stringIter s (pos+(Utf8.decode s pos).2)) }:=by
 simp only[Instr.next,getObj,setObj,Sem.run_bind,Sem.run,hk,Result.andThen,h,if_true]
 simp[goInt]
theorem zhi (w:World) (k:Nat) (s:ByteArray) (pos:Nat) (ty:TypeId) (hk:w.heap[k]?=some (.stringIter s pos)) (h:¬ pos<s.size) :
  (Instr.next (.pointer (some ⟨k,0,none⟩)) true ty).run P w=.ok (.tuple #[.bool false]) w:=by
 simp[Instr.next,getObj,Sem.run,hk,h]
set_option maxHeartbeats 4000000 in
theorem ziv (L:Lays.n152 P ρ) (w:World) :
  Calls P (ρ.f 152) #[.string eol,.int .i32 65533] w fun e w'=>e=.returned (.int .i64 (-1))∧Below w.heap.size w w':=by
 have t3:=L.t3;have a3:=L.a3;have z3:=L.z3;have v3:=L.v3
 have t4:=L.t4;have a4:=L.a4;have z4:=L.z4;have v4:=L.v4
 have t5:=L.t5;have a5:=L.a5;have z5:=L.z5;have v5:=L.v5
 have t9:=L.t9;have a9:=L.a9;have z9:=L.z9;have v9:=L.v9
 have t21:=L.t21;have a21:=L.a21;have z21:=L.z21;have v21:=L.v21
 have hsz:eol.size=2:=rfl
 go_enter L.f152,Body.n152_ntmps ρ
 go_wp2
 go_loopg [5,6] 2 (fun g _ _ wx=>∃ i:Nat,i+g=2∧wx=w.iter eol i)
 case atStart=>exact⟨0,by omega,rfl⟩
 case round =>
  obtain⟨i,hig,rfl⟩:=hrel
  cases gk with
  | zero =>
   obtain rfl:i=2:=by omega
   have hnx:=fun ty=>run_next_end (P:=P) w eol 2 ty (by decide)
   go_wp2
   go_ret
   exact⟨rfl,(Below.refl _ _).alloc (Al4 _) _⟩
  | succ g =>
   obtain⟨x,hx⟩:∃ x:UInt8,eol[i]'(by rw[hsz];omega)=x:=⟨_,rfl⟩
   have hxl:x.toNat=13∨x.toNat=10:=by
    rcases(by omega:i=0∨i=1) with rfl|rfl
    ·left;rw[← hx];rfl
    ·right;rw[← hx];rfl
   have hnx:=fun ty=>run_next_ascii (P:=P) w eol i ty (by rw[hsz];omega) (by rw[hx];omega)
   rw[hx] at hnx
   have hne:¬ ((x.toNat:Int)=65533):=by omega
   clear hx hxl
   go_wp2
   go_roundg g
   case measure=>omega
   case rel=>exact⟨i+1,by omega,rfl⟩
set_option maxHeartbeats 8000000 in
theorem zhg (L:Lays.n152 P ρ) (r:Int) (h0:128≤r) (h1:r≠65533) (w:World) :
  Calls P (ρ.f 152) #[.string eol,.int .i32 r] w fun e w'=>e=.returned (.int .i64 (-1))∧Below w.heap.size w w':=by
 have t3:=L.t3;have a3:=L.a3;have z3:=L.z3;have v3:=L.v3
 have t4:=L.t4;have a4:=L.a4;have z4:=L.z4;have v4:=L.v4
 have t5:=L.t5;have a5:=L.a5;have z5:=L.z5;have v5:=L.v5
 have t9:=L.t9;have a9:=L.a9;have z9:=L.z9;have v9:=L.v9
 have t21:=L.t21;have a21:=L.a21;have z21:=L.z21;have v21:=L.v21
 have hsz:eol.size=2:=rfl
 have mixed:=L.mixed
 have u21:=run_underlying L.t21;have u9:=run_underlying L.t9
 have e137:∀ args w,(callFunc (ρ.f 137) args).run P w=.ok (.enter (ρ.f 137) args) w:=enters_of L.f137 (by kernel_rfl) rfl
 have e119:∀ args w,(callFunc (ρ.f 119) args).run P w=.ok (.enter (ρ.f 119) args) w:=enters_of L.f119 (by kernel_rfl) rfl
 have hr1:¬ (r<128):=by omega
 cases hv:Lib.validRune r with
 | false =>
  go_enter L.f152,Body.n152_ntmps ρ
  go_wp2_with (go_at_fn (ρ.f 119);refine(Any.utf8_ValidRune { L with } _ _).mono ?_;rintro e w' ⟨rfl,hw⟩;rw[hw,hv])
  go_ret
  exact⟨rfl,Below.refl _ _⟩
 | true =>
  have hv':Utf8.valid r=true:=by
   unfold Lib.validRune at hv
   unfold Utf8.valid
   simp only[zd3,Al0,z7] at hv ⊢
   omega
  obtain⟨f1,f2,f3⟩:=encode_facts r hv' h0
  clear hv'
  obtain⟨rs,hrs⟩:∃ rs,Utf8.encode r=rs:=⟨_,rfl⟩
  rw[hrs] at f1 f2 f3
  have hconv:∀ w,(convert (ρ.t 21) (ρ.t 9) (.int .i32 r)).run P w=.ok (.string rs) w:=fun w=>by
   rw[run_convert_int_string w _ _ _ _ (by rw[t21];rfl) t9,hrs]
  have hlast:IntKind.i64.wrap ((rs.size:Int)-1)=(rs.size:Int)-1:=wrap_small _ (by omega) (by omega)
  clear hrs
  by_cases h2:rs.size=2
  ·obtain⟨b0,b1,rfl⟩:∃ b0 b1,rs=⟨#[b0,b1]⟩:=by
    obtain⟨⟨l⟩⟩:=rs
    match l,h2 with
    | [x,y],_=>exact⟨x,y,rfl⟩
   have hb:128≤b1.toNat:=f3 (by show 1<2;decide)
   have hz:(⟨#[b0,b1]⟩:ByteArray).size=2:=rfl
   have hne:¬ ((10:Int)=(b1.toNat:Int)):=by omega
   clear f1 f2 f3 h2
   rw[hz] at hlast
   go_enter L.f152,Body.n152_ntmps ρ
   go_wp2_with (go_at_fn (ρ.f 119);refine(Any.utf8_ValidRune { L with } _ _).mono ?_;rintro e w' ⟨rfl,hw⟩;rw[hw,hv])
   go_step3
   go_wp2
   go_loopg [9,10] 0 (fun g s9 s10 wx=>s9=.int .i64 1∧s10=.int .i64 0∧wx=w)
   case atStart=>exact⟨rfl,rfl,rfl⟩
   case round =>
    obtain⟨rfl,rfl,rfl⟩:=hrel
    go_wp2
    go_step3
    have hx:eol[1]'(by decide)=10:=rfl
    have hy:(⟨#[b0,b1]⟩:ByteArray)[1]'(by show 1<2;decide)=b1:=rfl
    go_wp2
    go_quiet_o (fail)
    go_wp2
    have hsl:∀ w,(Instr.slice (ρ.t 9) (.string eol) (some (.int .i64 2)) none none).run P w=.ok (.string ⟨#[]⟩) w:=fun w=>by
     rw[run_slice_string_from_if w _ eol .i64 2 t9]
     rfl
    generalize hW:World.drewN _ _=W
    have HW:Aside (∃ n,W=wr.drewN n):=⟨_,hW.symm⟩
    clear hW
    have hw2:IntKind.i64.wrap 2=2:=by decide
    go_quiet_o (first|(go_at_fn (ρ.f 137);refine Calls.quiet_of_same (Any.strings_IndexByte { L with } _ _ _)))
    go_wp2
    rw[Exit.noGoto_ret]
    go_wp2
    (try rw[Exit.noGoto_ret])
    (try go_wp2)
    go_ret
    obtain⟨n,rfl⟩:=HW.out
    exact⟨rfl,⟨rfl,rfl,rfl,Al4 _,fun _ _=>rfl⟩⟩
  ·have hlt:¬ ((rs.size:Int)-1<2):=by omega
   go_enter L.f152,Body.n152_ntmps ρ
   go_wp2_with (go_at_fn (ρ.f 119);refine(Any.utf8_ValidRune { L with } _ _).mono ?_;rintro e w' ⟨rfl,hw⟩;rw[hw,hv])
   go_step3
   go_wp2
   go_loopg [9,10] 0 (fun g s9 s10 wx=>s9=.int .i64 ((rs.size:Int)-1)∧s10=.int .i64 0∧wx=w)
   case atStart=>exact⟨rfl,rfl,rfl⟩
   case round =>
    obtain⟨rfl,rfl,rfl⟩:=hrel
    go_wp2
    rw[Exit.noGoto_ret];go_wp2
    go_ret
    exact⟨rfl,Below.refl _ _⟩
theorem zjf (s:ByteArray) (i:Nat) (h:i<s.size):s.data.toList[i]?=some (s.get! i):=by
 rw[Lib.data_getElem? s i h]
 simp[ByteArray.get!,getElem!_pos,h]
 rfl
theorem zfd (s:ByteArray) (pos:Nat) (h:pos<s.size) (ha:128≤(s.get! pos).toNat) :
  128≤(Utf8.decode s pos).1∧1≤(Utf8.decode s pos).2∧pos+(Utf8.decode s pos).2≤s.size∧∀ j,j<(Utf8.decode s pos).2→128≤(s.get! (pos+j)).toNat:=by
 have hn:¬ (s.get! (pos+0)).toNat<128:=by simpa using ha
 have h1:∀(c:Nat),128≤c→128≤(c,1).1∧1≤(c,1).2∧pos+(c,1).2≤s.size∧∀ j,j<(c,1).2→128≤(s.get! (pos+j)).toNat:=fun c hc =>
  ⟨hc,Al4 _,by show pos+1≤s.size;omega,fun j hj=>by
   have hj:j<1:=hj
   obtain rfl:j=0:=by omega
   simpa using ha⟩
 have hb:∀ k,(s.get! (pos+k)).toNat / 64=2→128≤(s.get! (pos+k)).toNat:=fun k hk=>by omega
 simp only[Utf8.decode,hn,if_false,Utf8.runeError]
 split
 ·rename_i hc
  simp only[Al0,beq_iff_eq,z7] at hc
  split
  ·rename_i h2
   refine⟨h2,by show 1≤2;omega,by show pos+2≤s.size;omega,fun j hj=>?_⟩
   have hj:j<2:=hj
   rcases(by omega:j=0∨j=1) with rfl|rfl
   ·simpa using ha
   ·exact hb 1 hc.2.2
  ·exact h1 _ (by decide)
 split
 ·rename_i hc
  simp only[Al0,beq_iff_eq,z7] at hc
  split
  ·rename_i h2
   simp only[Al0,z7] at h2
   refine⟨by have:=h2.1;show 128≤_;simp only;omega,by show 1≤3;omega,by show pos+3≤s.size;omega,fun j hj=>?_⟩
   have hj:j<3:=hj
   rcases(by omega:j=0∨j=1∨j=2) with rfl|rfl|rfl
   ·simpa using ha
   ·exact hb 1 hc.1.2.2
   ·exact hb 2 hc.2.2
  ·exact h1 _ (by decide)
 split
 ·rename_i hc
  simp only[Al0,beq_iff_eq,z7] at hc
  split
  ·rename_i h2
   simp only[Al0,z7] at h2
   refine⟨by have:=h2.1;show 128≤_;simp only;omega,by show 1≤4;omega,by show pos+4≤s.size;omega,fun j hj=>?_⟩
   have hj:j<4:=hj
   rcases(by omega:j=0∨j=1∨j=2∨j=3) with rfl|rfl|rfl|rfl
   ·simpa using ha
   ·exact hb 1 hc.1.1.2.2
   ·exact hb 2 hc.1.2.2
   ·exact hb 3 hc.2.2
  ·exact h1 _ (by decide)
 ·exact h1 _ (by decide)
theorem zpG {s:ByteArray} {i k:Nat} (h:NoAny s.data.toList eol.data.toList i) (hk:i+k≤s.size) (hb:∀ j,j<k→128≤(s.get! (i+j)).toNat):NoAny s.data.toList eol.data.toList (i+k):=fun j b hj hjb=>by
 by_cases hlt:j<i
 ·exact h j b hlt hjb
 ·have h1:=hb (j-i) (by omega)
  rw[show i+(j-i)=j by omega] at h1
  rw[zjf s j (by omega)] at hjb
  cases hjb
  show ([13,10]:List UInt8).contains _=false
  simp only[List.contains_cons,List.contains_nil,Bool.or_false,Bool.or_eq_false_iff,beq_eq_false_iff_ne]
  refine⟨fun e=>?_,fun e=>?_⟩<;>(rw[e] at h1;simp at h1)
set_option maxHeartbeats 8000000 in
theorem zds (L:Lays.n153 P ρ) (s:ByteArray) (w:World) (h8:s.size≤8) :
  Calls P (ρ.f 153) #[.string s,.string eol] w fun e w'=>e=.returned (.int .i64 (Lib.indexAny s.data.toList eol.data.toList))∧Below w.heap.size w w':=by
 have hemp:eol.toList.isEmpty=false:=by rw[Lib.toList_data];rfl
 have hn0:(eol.size:Int)=2:=rfl
 have hn1:((eol.size:Int)==1)=false:=rfl
 have h8z:decide ((8:Int)<(s.size:Int))=false:=decide_eq_false (by omega)
 have t3:=L.t3;have a3:=L.a3;have z3:=L.z3;have v3:=L.v3
 have t4:=L.t4;have a4:=L.a4;have z4:=L.z4;have v4:=L.v4
 have t5:=L.t5;have a5:=L.a5;have z5:=L.z5;have v5:=L.v5
 have t9:=L.t9;have a9:=L.a9;have z9:=L.z9;have v9:=L.v9
 have t21:=L.t21;have a21:=L.a21;have z21:=L.z21;have v21:=L.v21
 have e152:∀ args w,(callFunc (ρ.f 152) args).run P w=.ok (.enter (ρ.f 152) args) w:=enters_of L.f152 (by kernel_rfl) rfl
 have e226:∀ args w,(callFunc (ρ.f 226) args).run P w=.ok (.enter (ρ.f 226) args) w:=enters_of L.f226 (by kernel_rfl) rfl
 go_enter L.f153,Body.n153_ntmps ρ
 go_wp2_with (go_at_fn (ρ.f 226);refine(Any.strings_shouldUseASCIISet { L with } _ _).mono ?_;rintro e w' ⟨rfl,hw⟩;rw[hw,h8z])
 go_loopg [9,10] s.size (fun g _ _ wx=>∃ i:Nat,i+g=s.size∧(wx.heap[w.heap.size]?=some (.stringIter s i)∧Below w.heap.size w wx)∧Lib.NoAny s.data.toList eol.data.toList i)
 case atStart=>exact⟨0,by omega,⟨World.iter_heap w s 0,(Below.refl _ _).alloc (Al4 _) _⟩,Lib.NoAny.zero _ _⟩
 case round =>
  obtain⟨i,hig,hst,hno⟩:=hrel
  obtain⟨hit,hbe⟩:=hst
  have HN:Aside (Lib.NoAny s.data.toList eol.data.toList i∧Below w.heap.size w wr):=⟨hno,hbe⟩
  clear hno hbe
  cases gk with
  | zero =>
   obtain rfl:i=s.size:=by omega
   have hnx:=fun ty=>zhi (P:=P) wr w.heap.size s s.size ty hit (by omega)
   go_wp2
   go_ret
   exact⟨by rw[Lib.indexAny_none (by rw[← Lib.size_eq];exact HN.out.1)];rfl,HN.out.2⟩
  | succ g =>
   have hi:i<s.size:=by omega
   have hnx:=fun ty=>zkq (P:=P) wr w.heap.size s i ty hit hi
   have hwlt:w.heap.size<wr.heap.size:=(zap.1 hit).1
   have hst2:∀ k,({ wr with heap:=wr.heap.setIfInBounds w.heap.size (.stringIter s k) }:World).heap[w.heap.size]?=some (.stringIter s k):=fun k=>by
    show (wr.heap.setIfInBounds w.heap.size (.stringIter s k))[w.heap.size]?=_
    simp[hwlt]
   have hbl2:∀ k,Below w.heap.size w ({ wr with heap:=wr.heap.setIfInBounds w.heap.size (.stringIter s k) }:World):=fun k=>by
    have hb:=HN.out.2
    refine⟨hb.os,hb.tape,hb.output,by simpa using hb.size,fun n hn=>?_⟩
    show (wr.heap.setIfInBounds w.heap.size (.stringIter s k))[n]?=_
    rw[Array.getElem?_setIfInBounds_ne (by omega)]
    exact hb.block n hn
   have HB:Aside ((∀ k,({ wr with heap:=wr.heap.setIfInBounds w.heap.size (.stringIter s k) }:World).heap[w.heap.size]?=some (.stringIter s k))∧(∀ k,Below w.heap.size w ({ wr with heap:=wr.heap.setIfInBounds w.heap.size (.stringIter s k) }:World))∧w.heap.size<wr.heap.size):=⟨hst2,hbl2,hwlt⟩
   clear hst2 hbl2 hwlt hit
   by_cases ha:128≤(s.get! i).toNat
   ·obtain⟨d1,d2,d3,d4⟩:=zfd s i hi ha
    have HD:Aside (1≤(Utf8.decode s i).2∧i+(Utf8.decode s i).2≤s.size∧∀ j,j<(Utf8.decode s i).2→128≤(s.get! (i+j)).toNat):=⟨d2,d3,d4⟩
    clear d2 d3 d4 ha
    generalize hr:(Utf8.decode s i).1=r at hnx d1
    generalize hk:(Utf8.decode s i).2=k at hnx HD
    clear hr hk
    generalize hW:({ wr with heap:=wr.heap.setIfInBounds w.heap.size (.stringIter s (i+k)) }:World)=W at hnx
    have HW:Aside (W.heap[w.heap.size]?=some (.stringIter s (i+k))∧Below w.heap.size w W):=⟨by rw[← hW];exact HB.out.1 _,by rw[← hW];exact HB.out.2.1 _⟩
    clear hW
    have hru:Calls P (ρ.f 152) #[.string eol,.int .i32 (r:Int)] W fun e w'=>e=.returned (.int .i64 (-1))∧Below W.heap.size W w':=by
     by_cases he:(r:Int)=65533
     ·rw[he];exact ziv { L with } W
     ·exact zhg { L with } _ (by omega) he W
    go_wp2_with (go_at_fn (ρ.f 152);refine hru.mono ?_;rintro e w' ⟨rfl,hw⟩)
    go_roundg (s.size-(i+k))
    case measure=>have:=HD.out.1;omega
    case rel =>
     obtain⟨g1,g2⟩:=HW.out
     obtain⟨f1,f2,f3⟩:=HD.out
     have hlt:w.heap.size<W.heap.size:=(zap.1 g1).1
     exact⟨i+k,by omega,⟨by rw[hw.block _ hlt];exact g1,g2.trans (hw.mono (by omega))⟩,zpG HN.out.1 f2 f3⟩
   ·have hx128:(s[i]'hi).toNat<128:=by
     have e:s.get! i=s[i]'hi:=get_at s i hi
     rw[← e];omega
    have hde:Utf8.decode s i=((s[i]'hi).toNat,1):=decode_ascii s i hi hx128
    obtain⟨x,hx⟩:∃ x:UInt8,s[i]'hi=x:=⟨_,rfl⟩
    have hxl:s.data.toList[i]?=some x:=by rw[← hx];exact Lib.data_getElem? s i hi
    have Hx:Aside (s.data.toList[i]?=some x):=hxl
    rw[hde,hx] at hnx
    rw[hx] at hx128
    clear hxl hx ha hde
    have hcon:=Lib.contains_iff_indexByte eol.data.toList x
    have hback:((x.toNat:Int)).toNat.toUInt8=x:=by simp
    generalize hW:({ wr with heap:=wr.heap.setIfInBounds w.heap.size (.stringIter s (i+1)) }:World)=W at hnx
    have HW:Aside (W.heap[w.heap.size]?=some (.stringIter s (i+1))∧Below w.heap.size w W):=⟨by rw[← hW];exact HB.out.1 _,by rw[← hW];exact HB.out.2.1 _⟩
    clear hW
    cases hin:eol.data.toList.contains x
    ·rw[hin] at hcon
     have hlt:¬ ((0:Int)≤Lib.indexByte eol.data.toList x):=of_decide_eq_false hcon.symm
     clear hcon
     go_wp2_with (go_at_fn (ρ.f 152);refine(Any.strings_IndexRune_ascii { L with } _ _ _ (by omega) (by omega)).mono ?_;rintro e w' ⟨rfl,hw⟩;rw[hw,hback])
     go_roundg g
     case measure=>omega
     case rel=>exact⟨i+1,by omega,HW.out,HN.out.1.succ Hx.out hin⟩
    ·rw[hin] at hcon
     have hge:(0:Int)≤Lib.indexByte eol.data.toList x:=of_decide_eq_true hcon.symm
     clear hcon
     go_wp2_with (go_at_fn (ρ.f 152);refine(Any.strings_IndexRune_ascii { L with } _ _ _ (by omega) (by omega)).mono ?_;rintro e w' ⟨rfl,hw⟩;rw[hw,hback])
     go_ret
     exact⟨by rw[Lib.indexAny_hit HN.out.1 Hx.out hin];rfl,HW.out.2⟩
end
end Go.Proofs.YticbbfbpeimkbaaGreatDoor
namespace Go.Proofs.YticbbfbpeimkbaaGreatDoor
open Go.Ab Go.Lib
theorem zp5 (s:List UInt8) (hs:s.length≤4294967000):zr Tryz.prog 218 [.str s,.str [13,10]] (.int .i64 (Lib.indexAny s [13,10])):=by
 refine zr.of_below fun γ w vs ht hv=>?_
 obtain⟨hlv,hr⟩:=hv
 match vs,hlv with
 | [v,u],_ =>
  cases hr 0 _ _ rfl rfl
  cases hr 1 _ _ rfl rfl
  by_cases h8:s.length≤8
  ·exact(zds (P:=Tryz.prog) Tryz.lays153 ⟨s.toArray⟩ w (by simpa[ByteArray.size] using h8)).mono fun e w' ⟨he,hw⟩=>⟨hw,_,he,.int _ _⟩
  ·refine(Tryz.strings_IndexAny_long (zero_of_info (n:=256) (by kernel_rfl)).1 ⟨s.toArray⟩ ⟨#[13,10]⟩ w (by decide) (by simp only[ByteArray.size,List.size_toArray];omega) (by simp only[ByteArray.size,List.size_toArray];omega) (by decide) (fun j b hj=>?_)).mono fun e w' ⟨he,hw⟩=>⟨?_,_,he,.int _ _⟩
   ·have hj:([13,10]:List UInt8)[j]?=some b:=hj
    match j,hj with
    | 0,hj=>cases hj;decide
    | 1,hj=>cases hj;decide
    | j+2,hj=>simp at hj
   ·rw[hw]
    exact((Go.RowKit.Below.refl _ _).alloc (Al4 _) _).alloc (by simp) _
theorem znv (r:List UInt8):Lib.indexAny r [13,10]=if r.all yu then -1 else ((r.takeWhile yu).length:Int):=by
 induction r with
 | nil=>rfl
 | cons c r ih =>
  rw[Lib.indexAny,ih]
  by_cases hc:yu c=true
  ·have h1:([13,10]:List UInt8).contains c=false:=by
    unfold yu at hc
    simp at hc
    simp[hc.1,hc.2]
   rw[h1]
   by_cases ha:r.all yu=true
   ·simp[ha,hc]
   ·have h2:¬ (((r.takeWhile yu).length:Int)=-1):=by omega
    simp[ha,hc,h2]
  ·have h1:([13,10]:List UInt8).contains c=true:=by
    unfold yu at hc
    simp at hc
    simp
    rcases Classical.em (c=13) with h|h
    ·exact .inl h
    ·exact .inr (Classical.byContradiction fun h10=>h (hc h10))
   rw[h1]
   simp[hc]
theorem zkr {p:UInt8→Bool}:∀ r:List UInt8,r.all p=true→r.takeWhile p=r
 | [],_=>rfl
 | c::r,h=>by
  simp only[List.all_cons,Al0] at h
  rw[List.takeWhile_cons,if_pos h.1,zkr r h.2]
theorem ZU (c:UInt8) (r:List UInt8):Z2 (c::r)=if c=9∨c=10∨c=13∨c=32∨c=44 then 1 else if zit.isPrefixOf (c::r) then 3 else if c=35 then 1+(r.takeWhile yu).length else 0:=rfl
theorem ztQ (c:UInt8) (r:List UInt8) (hs:(c::r).length≤1000000):zr Tryz.prog 123 [.str (c::r)] (.int .i64 (Z2 (c::r))):=by
 refine zr.go ir123 ck123 (Al4 _) fun KP Q hQ=>?_
 have hl:((0:Int)<((c::r).length:Int))=True:=eq_true (by simp only[Al2];omega)
 by_cases hw:c=9∨c=10∨c=13∨c=32∨c=44
 ·have e:Z2 (c::r)=1:=by rw[ZU,if_pos hw]
  rw[e] at hQ
  rcases hw with rfl|rfl|rfl|rfl|rfl
  ·have hc:((9:UInt8).toNat:Int)=9:=rfl
   simp(disch:=first|omega|assumption) only[ir123,hl,List.getD_cons_zero,hc,go_sem]
   exact hQ _ _ _ _ nofun rfl (by simp[zb,ze,AV.strip,AV.strip1])
  ·have hc:((10:UInt8).toNat:Int)=10:=rfl
   simp(disch:=first|omega|assumption) only[ir123,hl,List.getD_cons_zero,hc,go_sem]
   exact hQ _ _ _ _ nofun rfl (by simp[zb,ze,AV.strip,AV.strip1])
  ·have hc:((13:UInt8).toNat:Int)=13:=rfl
   simp(disch:=first|omega|assumption) only[ir123,hl,List.getD_cons_zero,hc,go_sem]
   exact hQ _ _ _ _ nofun rfl (by simp[zb,ze,AV.strip,AV.strip1])
  ·have hc:((32:UInt8).toNat:Int)=32:=rfl
   simp(disch:=first|omega|assumption) only[ir123,hl,List.getD_cons_zero,hc,go_sem]
   exact hQ _ _ _ _ nofun rfl (by simp[zb,ze,AV.strip,AV.strip1])
  ·have hc:((44:UInt8).toNat:Int)=44:=rfl
   simp(disch:=first|omega|assumption) only[ir123,hl,List.getD_cons_zero,hc,go_sem]
   exact hQ _ _ _ _ nofun rfl (by simp[zb,ze,AV.strip,AV.strip1])
 have nat:∀ k:Nat,(c.toNat:Int)=k→k<256→c=UInt8.ofNat k:=fun k h hk=>UInt8.toNat_inj.1 (by rw[UInt8.toNat_ofNat'];omega)
 have g9:¬ ((c.toNat:Int)=9):=fun e=>hw (.inl (nat 9 e (by decide)))
 have g10:¬ ((c.toNat:Int)=10):=fun e=>hw (.inr (.inl (nat 10 e (by decide))))
 have g13:¬ ((c.toNat:Int)=13):=fun e=>hw (.inr (.inr (.inl (nat 13 e (by decide)))))
 have g32:¬ ((c.toNat:Int)=32):=fun e=>hw (.inr (.inr (.inr (.inl (nat 32 e (by decide))))))
 have g44:¬ ((c.toNat:Int)=44):=fun e=>hw (.inr (.inr (.inr (.inr (nat 44 e (by decide))))))
 simp(disch:=first|omega|assumption) only[ir123,hl,List.getD_cons_zero,g9,g10,g13,g32,g44,go_sem]
 refine zd (zaX (c::r) [239,187,191]) ?_
 by_cases hb:([239,187,191]:List UInt8).isPrefixOf (c::r)=true
 ·have e:Z2 (c::r)=3:=by rw[ZU,if_neg hw];exact if_pos hb
  rw[e] at hQ
  simp(disch:=first|omega|assumption) only[hb,go_sem]
  exact hQ _ _ _ _ nofun rfl (by simp[zb,ze,AV.strip,AV.strip1])
 have hb':([239,187,191]:List UInt8).isPrefixOf (c::r)=false:=Bool.eq_false_iff.2 hb
 by_cases h35:c=35
 ·subst h35
  have e:Z2 (35::r)=1+(r.takeWhile yu).length:=by rw[ZU,if_neg hw,if_neg (show ¬ (zit.isPrefixOf _=true) from hb),if_pos rfl]
  rw[e] at hQ
  have hc:((35:UInt8).toNat:Int)=35:=rfl
  simp(disch:=first|omega|assumption) only[hb',hc,go_sem]
  have hp:=zp5 (35::r) (by omega)
  rw[znv] at hp
  have n35:yu 35=true:=rfl
  by_cases ha:r.all yu=true
  ·have e2:=zkr r ha
   have e3:(35::r).all yu=true:=by rw[List.all_cons,n35,ha];rfl
   rw[if_pos e3] at hp
   refine zd hp ?_
   have h0:¬ ((0:Int)≤-1):=by decide
   simp(disch:=first|omega|assumption) only[h0,go_sem]
   exact hQ _ _ _ _ nofun rfl (by simp[zb,ze,AV.strip,AV.strip1,e2,Int.add_comm])
  ·have e3:¬ ((35::r).all yu=true):=by rw[List.all_cons,n35,Bool.true_and];exact ha
   have e2:((35::r).takeWhile yu).length=1+(r.takeWhile yu).length:=by rw[List.takeWhile_cons,if_pos n35];simp;omega
   rw[if_neg e3,e2] at hp
   refine zd hp ?_
   have h0:((0:Int)≤((1+(r.takeWhile yu).length:Nat):Int))=True:=eq_true (by omega)
   simp(disch:=first|omega|assumption) only[h0,go_sem]
   exact hQ _ _ _ _ nofun rfl (by simp[zb,ze,AV.strip,AV.strip1])
 ·have e:Z2 (c::r)=0:=by rw[ZU,if_neg hw,if_neg (show ¬ (zit.isPrefixOf _=true) from hb),if_neg h35]
  rw[e] at hQ
  have g35:¬ ((c.toNat:Int)=35):=fun e=>h35 (nat 35 e (by decide))
  simp(disch:=first|omega|assumption) only[hb',g35,go_sem]
  exact hQ _ _ _ _ nofun rfl (by simp[zb,ze,AV.strip,AV.strip1])
theorem zdv (c:UInt8) (r:List UInt8):yU (c::r)=if (isL c||isD c)=true then 1+yU r else 0:=by
 unfold yU
 rw[List.takeWhile_cons]
 split
 ·simp;omega
 ·rfl
theorem zr7 (s:List UInt8) (hs:s.length≤Lim) (h0:isL (s.getD 0 0)=true):zr Tryz.prog 224 [.str s] (.int .i64 (yU s)):=by
 refine zr.go ir224 ck224 (Al4 _) fun KP Q hQ=>?_
 simp only[Lim] at hs
 have hr1:=zd2 s
 simp(disch:=first|omega|assumption) only[ir224,go_sem]
 refine zI (fun n:Nat=>[(3,.int .i64 n)]) (fun n H=>yU s=n+yU (s.drop n)∧n≤s.length) (fun n=>s.length-n) 0 (by simp(disch:=first|omega|assumption) only[go_sem]) ⟨by simp,by omega⟩ ?_
 rintro n H J ⟨hn,hle⟩ hJ
 rcases yJ s n with ⟨h1,h2⟩|⟨h1,h2⟩
 ·have hlt:¬ ((n:Int)<s.length):=by omega
  rw[h1] at hn
  simp only[yU,List.takeWhile_nil,Al3,Nat.add_zero] at hn
  simp(disch:=first|omega|assumption) only[hlt,go_sem]
  exact hQ _ _ _ _ nofun rfl (by simp[zb,ze,AV.strip,AV.strip1,yU,hn])
 ·have hlt:((n:Int)<s.length):=by omega
  rw[h2,zdv] at hn
  simp(disch:=first|omega|assumption) only[hlt,go_sem]
  refine zd (zi8 (s.getD n 0)) ?_
  cases hl:isL (s.getD n 0) with
  | true =>
   simp only[hl,Bool.true_or,if_true] at hn
   simp(disch:=first|omega|assumption) only[hl,go_sem]
   exact goJ (hJ (n+1) _ (by omega) ⟨by omega,by omega⟩) (by simp(disch:=first|omega|assumption) only[wrap64,Int.natCast_add,Int.natCast_one,go_sem])
  | false =>
   have hn0:((0:Int)<(n:Int))=True:=eq_true (by
    rcases Nat.eq_zero_or_pos n with e|e
    ·subst e;rw[h0] at hl;cases hl
    ·omega)
   simp(disch:=first|omega|assumption) only[hl,hn0,hlt,go_sem]
   refine zd (zkC (s.getD n 0)) ?_
   cases hd:isD (s.getD n 0) with
   | true =>
    simp only[hl,hd,Bool.or_true,if_true] at hn
    simp(disch:=first|omega|assumption) only[hd,go_sem]
    exact goJ (hJ (n+1) _ (by omega) ⟨by omega,by omega⟩) (by simp(disch:=first|omega|assumption) only[wrap64,Int.natCast_add,Int.natCast_one,go_sem])
   | false =>
    simp only[hl,hd,Bool.or_false,Al7,if_false,Nat.add_zero] at hn
    simp(disch:=first|omega|assumption) only[hd,go_sem]
    exact hQ _ _ _ _ nofun rfl (by simp[zb,ze,AV.strip,AV.strip1,hn])
def zoX (n:Nat) (x:Option (List UInt8×List UInt8)):AV:=match x with
 | some (raw,t)=>.tup [.str (yv raw),.int .i64 ((n-t.length:Nat):Int)]
 | none=>.tup [.str [],.int .i64 0]
theorem zav:∀(n m:Nat) (raw t:List UInt8),t.length<n→t.length<m→Zl n raw t=Zl m raw t
 | 0,_,_,_,h,_=>absurd h (Nat.not_lt_zero _)
 | _,0,_,_,_,h=>absurd h (Nat.not_lt_zero _)
 | n+1,m+1,raw,[],_,_=>rfl
 | n+1,m+1,raw,c::r,h1,h2=>by
  simp only[Al2] at h1 h2
  simp only[Zl]
  rw[zav n m (raw++yr) (r.drop 3) (by simp;omega) (by simp;omega),zav n m (raw++[c]) r (by omega) (by omega)]
theorem zgt:∀(n:Nat) (raw t b t':List UInt8),Zl n raw t=some (b,t')→b.length+t'.length≤raw.length+t.length∧t'.length≤t.length
 | 0,_,_,_,_,h=>by cases h
 | n+1,raw,[],_,_,h=>by cases h
 | n+1,raw,c::r,b,t',h=>by
  simp only[Zl] at h
  split at h
  ·cases h;simp;omega
  split at h
  ·rename_i h2
   have hl:=Zi _ _ h2
   simp only[zgi,Al2,Al3] at hl
   have:=zgt n _ _ _ _ h
   simp[yr] at this ⊢;omega
  ·have:=zgt n _ _ _ _ h
   simp at this ⊢;omega
theorem zoO (s:List UInt8) (h3:3≤s.length) (hs:s.length≤ZQ):zr Tryz.prog 219 [.str s] (zoX s.length (Zl (s.length-2) [] (s.drop 3))):=by
 refine zr.go ir219 ck219 (Al4 _) fun KP Q hQ=>?_
 simp only[ZQ] at hs
 obtain⟨R,hR⟩:∃ R,Zl (s.length-2) [] (s.drop 3)=R:=⟨_,rfl⟩
 rw[hR] at hQ
 simp(disch:=first|omega|assumption) only[ir219,go_sem]
 refine zI (fun x:Own×List UInt8×Nat=>[(4,.sl x.1 1 (bytesOf x.2.1)),(5,.int .i64 x.2.2)]) (fun x H=>3≤x.2.2∧x.2.2≤s.length∧x.2.1.length+3≤x.2.2∧Zl ((s.drop x.2.2).length+1) x.2.1 (s.drop x.2.2)=R∧yq H x.1 x.2.1.length 1) (fun x=>s.length-x.2.2) (.nil,[],3) (by simp(disch:=first|omega|assumption) only[bytesOf,go_sem]) ⟨Al4 _,h3,Al4 _,by rw[← hR];simp only[yH];rw[show s.length-3+1=s.length-2 by omega],rfl⟩ ?_
 rintro⟨o,raw,i⟩ H J ⟨hi3,hi,hrl,hrw,ho⟩ hJ
 simp only at hi3 hi hrl hrw ho
 have hbl:=yz raw
 by_cases hge:s.length≤i
 ·obtain rfl:i=s.length:=by omega
  rw[List.drop_length] at hrw
  have e:R=none:=by rw[← hrw];rfl
  have h1:((s.length:Int)≤(s.length:Int))=True:=eq_true (Int.le_refl _)
  simp(disch:=first|omega|assumption) only[h1,go_sem]
  exact hQ _ _ _ _ nofun rfl (by simp[zb,ze,AV.strip,AV.strip1,zoX,e])
 have hge':¬ ((s.length:Int)≤(i:Int)):=by omega
 have hle:((i:Int)≤(s.length:Int))=True:=eq_true (by omega)
 have hlt:((i:Int)<(s.length:Int))=True:=eq_true (by omega)
 obtain⟨c,r,hd⟩:∃ c r,s.drop i=c::r:=by
  cases hx:s.drop i with
  | nil=>have:=congrArg List.length hx;simp at this;omega
  | cons c r=>exact⟨c,r,rfl⟩
 have hc:s.getD i 0=c:=by
  have:(s.drop i).getD 0 0=c:=by rw[hd];rfl
  simpa[List.getD_eq_getElem?_getD] using this
 have hdl:s.length=i+(r.length+1):=by have:=congrArg List.length hd;simp at this;omega
 rw[hd] at hrw
 simp only[Zl] at hrw
 simp(disch:=first|omega|assumption) only[hge',hle,go_sem]
 refine zd (zaX (s.drop i) [34,34,34]) ?_
 rw[hd]
 by_cases p1:yr.isPrefixOf (c::r)=true
 ·have p1':([34,34,34]:List UInt8).isPrefixOf (c::r)=true:=p1
  have hl3:=Zi _ _ p1
  simp only[yr,Al2,Al3] at hl3
  rw[if_pos p1] at hrw
  simp(disch:=first|omega|assumption) only[p1',zaU,go_sem]
  refine zd (zqg raw (by omega)) ?_
  have e:((s.length-(r.length-2):Nat):Int)=(i:Int)+3:=by omega
  simp(disch:=first|omega|assumption) only[wrap64,go_sem]
  exact hQ _ _ _ _ nofun rfl (by simp[zb,ze,AV.strip,AV.strip1,zoX,← hrw,e])
 have p1':([34,34,34]:List UInt8).isPrefixOf (c::r)=false:=Bool.eq_false_iff.2 p1
 rw[if_neg p1] at hrw
 simp(disch:=first|omega|assumption) only[p1',hle,go_sem]
 refine zd (zaX (s.drop i) [92,34,34,34]) ?_
 rw[hd]
 by_cases p2:zgi.isPrefixOf (c::r)=true
 ·have p2':([92,34,34,34]:List UInt8).isPrefixOf (c::r)=true:=p2
  have hl4:=Zi _ _ p2
  simp only[zgi,Al2,Al3] at hl4
  rw[if_pos p2] at hrw
  simp(disch:=first|omega|assumption) only[p2',go_sem]
  refine zE (by rw[hbl];exact ho) (by simp[hbl,bytesOf];omega) (by simp[hbl,bytesOf,maxLen];omega) fun o' H' hs2=>?_
  have hdr:s.drop (i+4)=r.drop 3:=by rw[← List.drop_drop,hd];rfl
  simp(disch:=first|omega|assumption) only[wrap64,go_sem]
  refine goJ (hJ (o',raw++yr,i+4) _ (by simp only;omega) ⟨by simp only;omega,by simp only;omega,by simp[yr];omega,?_,?_⟩) (by simp(disch:=first|omega|assumption) only[← Zg,Int.natCast_add,yr,Z6,go_sem])
  ·simp only
   rw[hdr,← hrw]
   exact zav _ _ _ _ (Nat.lt_succ_self _) (by simp;omega)
  ·have h:=hs2.own
   simpa[hbl,bytesOf,yr] using h
 ·have p2':([92,34,34,34]:List UInt8).isPrefixOf (c::r)=false:=Bool.eq_false_iff.2 p2
  rw[if_neg p2] at hrw
  simp(disch:=first|omega|assumption) only[p2',hlt,hc,go_sem]
  refine zE (by rw[hbl];exact ho) (by simp[hbl];omega) (by simp[hbl,maxLen];omega) fun o' H' hs2=>?_
  have hdr:s.drop (i+1)=r:=by rw[← List.drop_drop,hd];rfl
  simp(disch:=first|omega|assumption) only[wrap64,go_sem]
  refine goJ (hJ (o',raw++[c],i+1) _ (by simp only;omega) ⟨by simp only;omega,by simp only;omega,by simp;omega,?_,?_⟩) (by simp(disch:=first|omega|assumption) only[← zfv,Int.natCast_add,go_sem])
  ·simp only
   rw[hdr,← hrw]
   rfl
  ·have h:=hs2.own
   simpa[hbl] using h
theorem zsx (c:UInt8):zr Tryz.prog 221 [.int .u8 (c.toNat:Int)] (.bool (yM c)):=by
 refine zr.go ir221 ck221 (Al4 _) fun KP Q hQ=>?_
 by_cases h10:c=10
 ·subst h10
  have hc:((10:UInt8).toNat:Int)=10:=rfl
  simp(disch:=first|omega|assumption) only[ir221,hc,go_sem]
  exact hQ _ _ _ _ nofun rfl (by simp[zb,ze,AV.strip,AV.strip1,yM])
 have g10:¬ ((c.toNat:Int)=10):=fun e=>h10 (UInt8.toNat_inj.1 (by show c.toNat=10;omega))
 by_cases h13:c=13
 ·subst h13
  have hc:((13:UInt8).toNat:Int)=13:=rfl
  simp(disch:=first|omega|assumption) only[ir221,hc,go_sem]
  exact hQ _ _ _ _ nofun rfl (by simp[zb,ze,AV.strip,AV.strip1,yM])
 have g13:¬ ((c.toNat:Int)=13):=fun e=>h13 (UInt8.toNat_inj.1 (by show c.toNat=13;omega))
 simp(disch:=first|omega|assumption) only[ir221,g10,g13,go_sem]
 exact hQ _ _ _ _ nofun rfl (by simp[zb,ze,AV.strip,AV.strip1,yM,h10,h13])
theorem zfb (c:UInt8) (r:List UInt8):y1 (c::r)=if yr.isPrefixOf (c::r) then (Zl (r.length+1) [] (r.drop 2)).map fun x=>(⟨5,yv x.1⟩,x.2)
  else if c=34 then (ZL yM r).map fun x=>(⟨5,x.1⟩,x.2)
  else if Yq.isPrefixOf (c::r) then some (⟨1,Yq⟩,r.drop 2)
  else if 0≤Lib.indexByte zab c then some (⟨1,[c]⟩,r)
  else if isL c then some (⟨2,(c::r).take (yU (c::r))⟩,(c::r).drop (yU (c::r)))
  else if (yx (c::r)).1=0 then none
  else if ((c::r).drop (yx (c::r)).1).head?.any fun d=>isL d||isD d||decide (d=46) then none
  else some (⟨(yx (c::r)).2,(c::r).take (yx (c::r)).1⟩,(c::r).drop (yx (c::r)).1):=rfl
def zjJ (s:List UInt8):AV:=match y1 s with
 | some (x,t)=>.tup [yl x,.int .i64 ((s.length-t.length:Nat):Int)]
 | none=>.tup [yl ⟨if s.head?=some 34 then 5 else 0,[]⟩,.int .i64 0]
theorem YO {s t:List UInt8} {x:Tok} (h:y1 s=some (x,t)):zjJ s=.tup [yl x,.int .i64 ((s.length-t.length:Nat):Int)]:=by unfold zjJ;rw[h]
theorem zbp {s:List UInt8} (h:y1 s=none):zjJ s=.tup [yl ⟨if s.head?=some 34 then 5 else 0,[]⟩,.int .i64 0]:=by unfold zjJ;rw[h]
theorem ztI (c:UInt8) (r:List UInt8) (hs:(c::r).length≤ZQ):zr Tryz.prog 124 [.str (c::r)] (zjJ (c::r)):=by
 have hcl:(c::r).length=r.length+1:=rfl
 have hg0:(c::r).getD 0 0=c:=rfl
 have ht1:(c::r).take 1=[c]:=rfl
 have ed:(c::r).drop 3=r.drop 2:=rfl
 have hhd:(c::r).head?=some c:=rfl
 have hquo:=fun h34:c=34=>(by rw[h34];exact zpM 221 (by decide +kernel) yM zsx 34 r (by simpa[h34] using hs):zr Tryz.prog 220 [.str (c::r),.clo 221 [] []] (zjU yM r))
 have ot:=zfb c r
 have hpl3:yr.isPrefixOf (c::r)=true→c=34:=fun p1=>by
  simp only[yr,List.isPrefixOf,Al0,beq_iff_eq] at p1
  exact p1.1.symm
 generalize hsc:c::r=s at *
 refine zr.go ir124 ck124 (Al4 _) fun KP Q hQ=>?_
 have hsq:=hs
 simp only[ZQ] at hs
 have hsl:s.length≤Lim:=by simp only[Lim];omega
 have hl:((0:Int)<(s.length:Int))=True:=eq_true (by omega)
 have hl1:((1:Int)≤(s.length:Int))=True:=eq_true (by omega)
 simp(disch:=first|omega|assumption) only[ir124,go_sem]
 refine zh fun b0 hb0=>?_
 simp(disch:=first|omega|assumption) only[hl,hg0,go_sem]
 refine zd (zaX s [34,34,34]) ?_
 by_cases p1:yr.isPrefixOf s=true
 ·have p1':([34,34,34]:List UInt8).isPrefixOf s=true:=p1
  have hl3:=Zi _ _ p1
  simp only[yr,Al2,Al3] at hl3
  have h34:c=34:=hpl3 p1
  simp(disch:=first|omega|assumption) only[p1',go_sem]
  refine zd (zoO s hl3 hsq) ?_
  have ef:Zl (s.length-2) [] (r.drop 2)=Zl (r.length+1) [] (r.drop 2):=zav _ _ _ _ (by rw[yH];omega) (by rw[yH];omega)
  rw[ed,ef]
  have e1:y1 s=(Zl (r.length+1) [] (r.drop 2)).map fun x=>(⟨5,yv x.1⟩,x.2):=by
   rw[ot,if_pos p1]
  cases hx:Zl (r.length+1) [] (r.drop 2) with
  | none =>
   rw[hx] at e1
   have e:=zbp e1
   rw[if_pos (by rw[hhd,h34])] at e
   simp(disch:=first|omega|assumption) only[zoX,go_sem]
   exact hQ _ _ _ [.agg [.int .i64 5,.str []],.int .i64 0] nofun (by simp(disch:=first|omega|assumption) only[ir124,zo,zL,go_sem]) (by simp[zb,AV.strip,AV.strip1,e,yl])
  | some x =>
   obtain⟨raw,t⟩:=x
   rw[hx] at e1
   have e:=YO e1
   simp(disch:=first|omega|assumption) only[zoX,go_sem]
   exact hQ _ _ _ [.agg [.int .i64 5,.str (yv raw)],.int .i64 (((s.length-t.length:Nat)):Int)] nofun (by simp(disch:=first|omega|assumption) only[ir124,zo,zL,go_sem]) (by simp[zb,AV.strip,AV.strip1,e,yl])
 have p1':([34,34,34]:List UInt8).isPrefixOf s=false:=Bool.eq_false_iff.2 p1
 by_cases c34:c=34
 ·have hc:(c.toNat:Int)=34:=by rw[c34];rfl
  simp(disch:=first|omega|assumption) only[p1',hc,go_sem]
  refine zd (hquo c34) ?_
  have e1:y1 s=(ZL yM r).map fun x=>(⟨5,x.1⟩,x.2):=by
   rw[ot,if_neg p1,if_pos c34]
  cases hx:ZL yM r with
  | none =>
   rw[hx] at e1
   have e:=zbp e1
   rw[if_pos (by rw[hhd,c34])] at e
   simp(disch:=first|omega|assumption) only[zjU,hx,go_sem]
   exact hQ _ _ _ [.agg [.int .i64 5,.str []],.int .i64 0] nofun (by simp(disch:=first|omega|assumption) only[ir124,zo,zL,go_sem]) (by simp[zb,AV.strip,AV.strip1,e,yl])
  | some x =>
   obtain⟨b,t⟩:=x
   rw[hx] at e1
   have e:=YO e1
   rw[hcl] at e
   simp(disch:=first|omega|assumption) only[zjU,hx,go_sem]
   exact hQ _ _ _ [.agg [.int .i64 5,.str b],.int .i64 (((r.length+1-t.length:Nat)):Int)] nofun (by simp(disch:=first|omega|assumption) only[ir124,zo,zL,go_sem]) (by simp[zb,AV.strip,AV.strip1,e,yl])
 have g34:¬ ((c.toNat:Int)=34):=fun e=>c34 (UInt8.toNat_inj.1 (by show c.toNat=34;omega))
 have hno:¬ (s.head?=some 34):=by rw[hhd];simpa using c34
 simp(disch:=first|omega|assumption) only[p1',g34,go_sem]
 refine zd (zaX s [46,46,46]) ?_
 by_cases p2:Yq.isPrefixOf s=true
 ·have p2':([46,46,46]:List UInt8).isPrefixOf s=true:=p2
  have hl3:=Zi _ _ p2
  have hd3:Yq.length=3:=rfl
  rw[hd3] at hl3
  have e1:y1 s=some (⟨1,Yq⟩,r.drop 2):=by
   rw[ot,if_neg p1,if_neg c34,if_pos p2]
  have e:=YO e1
  have e2:s.length-(r.drop 2).length=3:=by rw[yH];omega
  rw[e2] at e
  have e3:Yq=[46,46,46]:=rfl
  simp(disch:=first|omega|assumption) only[p2',go_sem]
  exact hQ _ _ _ [.agg [.int .i64 1,.str [46,46,46]],.int .i64 3] nofun (by simp(disch:=first|omega|assumption) only[ir124,zo,zL,go_sem]) (by simp[zb,AV.strip,AV.strip1,e,yl,e3])
 have p2':([46,46,46]:List UInt8).isPrefixOf s=false:=Bool.eq_false_iff.2 p2
 simp(disch:=first|omega|assumption) only[p2',go_sem]
 refine zd (zgO zab c) ?_
 by_cases hm:0≤Lib.indexByte zab c
 ·have e1:y1 s=some (⟨1,[c]⟩,r):=by
   rw[ot,if_neg p1,if_neg c34,if_neg p2,if_pos hm]
  have e:=YO e1
  have e2:s.length-r.length=1:=by omega
  rw[e2] at e
  have e3:=ht1
  simp(disch:=first|omega|assumption) only[hm,hl1,e3,go_sem]
  exact hQ _ _ _ [.agg [.int .i64 1,.str [c]],.int .i64 1] nofun (by simp(disch:=first|omega|assumption) only[ir124,zo,zL,go_sem]) (by simp[zb,AV.strip,AV.strip1,e,yl])
 simp(disch:=first|omega|assumption) only[hm,go_sem]
 refine zd (zi8 c) ?_
 by_cases hL:isL c=true
 ·have e1:y1 s=some (⟨2,s.take (yU s)⟩,s.drop (yU s)):=by
   rw[ot,if_neg p1,if_neg c34,if_neg p2,if_neg hm,if_pos hL]
  have e:=YO e1
  have hwl:=zd2 s
  have e2:s.length-(s.drop (yU s)).length=yU s:=by rw[yH];omega
  rw[e2] at e
  have h2:((yU s:Int)≤(s.length:Int))=True:=eq_true (by omega)
  simp(disch:=first|omega|assumption) only[hL,go_sem]
  refine zd (zr7 s hsl (by rw[hg0];exact hL)) ?_
  simp(disch:=first|omega|assumption) only[h2,go_sem]
  exact hQ _ _ _ [.agg [.int .i64 2,.str (s.take (yU s))],.int .i64 (yU s:Int)] nofun (by simp(disch:=first|omega|assumption) only[ir124,zo,zL,go_sem]) (by simp[zb,AV.strip,AV.strip1,e,yl])
 have hL':isL c=false:=by simpa using hL
 simp(disch:=first|omega|assumption) only[hL',go_sem]
 refine zd (zmb s hsl) ?_
 have hnl:=zcq s
 have hn2:(yx s).1=0→(yx s).2=0:=fun h=>by
  unfold yx at h ⊢
  split at h
  ·rename_i h0;rw[if_pos h0]
  ·rename_i h0;simp only at h;omega
 have e0:y1 s=if (yx s).1=0 then none
   else if (s.drop (yx s).1).head?.any fun d=>isL d||isD d||decide (d=46) then none
   else some (⟨(yx s).2,s.take (yx s).1⟩,s.drop (yx s).1):=by
  rw[ot,if_neg p1,if_neg c34,if_neg p2,if_neg hm,if_neg hL]
 generalize hnn:(yx s).1=n at *
 generalize hkk:(yx s).2=k at *
 have hnle:((n:Int)≤(s.length:Int))=True:=eq_true (by omega)
 have fin:(n≠0→y1 s=some (⟨k,s.take n⟩,s.drop n))→zjJ s=.tup [yl ⟨k,s.take n⟩,.int .i64 (n:Int)]:=fun h=>by
  by_cases hz:n=0
  ·rw[if_pos hz] at e0
   rw[zbp e0,if_neg hno,hz,hn2 hz];rfl
  ·rw[YO (h hz)]
   have e2:s.length-(s.drop n).length=n:=by rw[yH];omega
   rw[e2]
 have bad:(s.drop n).head?.any (fun d=>isL d||isD d||decide (d=46))=true→zjJ s=.tup [yl ⟨0,[]⟩,.int .i64 0]:=fun h=>by
  have:y1 s=none:=by
   rw[e0]
   split
   ·rfl
   ·first|rfl|exact if_pos h
  rw[zbp this,if_neg hno]
 rcases yJ s n with ⟨h1,h2⟩|⟨h1,h2⟩
 ·have hlt:¬ ((n:Int)<(s.length:Int)):=by omega
  have e:=fin fun hz=>by rw[e0,if_neg hz,h1];rfl
  simp(disch:=first|omega|assumption) only[hlt,hnle,go_sem]
  exact hQ _ _ _ [.agg [.int .i64 k,.str (s.take n)],.int .i64 (n:Int)] nofun (by simp(disch:=first|omega|assumption) only[ir124,zo,zL,go_sem]) (by simp[zb,AV.strip,AV.strip1,e,yl])
 ·have hlt:((n:Int)<(s.length:Int))=True:=eq_true (by omega)
  generalize hdd:s.getD n 0=d at *
  have ha:(s.drop n).head?.any (fun d=>isL d||isD d||decide (d=46))=(isL d||isD d||decide (d=46)):=by rw[h2];rfl
  rw[ha] at bad
  simp(disch:=first|omega|assumption) only[hlt,hdd,go_sem]
  refine zd (zi8 d) ?_
  cases hld:isL d with
  | true =>
   have e:=bad (by rw[hld];rfl)
   simp(disch:=first|omega|assumption) only[hld,go_sem]
   exact hQ _ _ _ [.agg [.int .i64 0,.str []],.int .i64 0] nofun (by simp(disch:=first|omega|assumption) only[ir124,zo,zL,go_sem]) (by simp[zb,AV.strip,AV.strip1,e,yl])
  | false =>
   simp(disch:=first|omega|assumption) only[hld,hlt,hdd,go_sem]
   refine zd (zkC d) ?_
   cases hdg:isD d with
   | true =>
    have e:=bad (by rw[hdg];simp)
    simp(disch:=first|omega|assumption) only[hdg,go_sem]
    exact hQ _ _ _ [.agg [.int .i64 0,.str []],.int .i64 0] nofun (by simp(disch:=first|omega|assumption) only[ir124,zo,zL,go_sem]) (by simp[zb,AV.strip,AV.strip1,e,yl])
   | false =>
    by_cases h46:d=46
    ·have e:=bad (by rw[h46];simp)
     have g46:(d.toNat:Int)=46:=by rw[h46];rfl
     simp(disch:=first|omega|assumption) only[hdg,hlt,hdd,g46,go_sem]
     exact hQ _ _ _ [.agg [.int .i64 0,.str []],.int .i64 0] nofun (by simp(disch:=first|omega|assumption) only[ir124,zo,zL,go_sem]) (by simp[zb,AV.strip,AV.strip1,e,yl])
    ·have g46:¬ ((d.toNat:Int)=46):=fun e=>h46 (UInt8.toNat_inj.1 (by show d.toNat=46;omega))
     have e:=fin fun hz=>by rw[e0,if_neg hz,ha,hld,hdg];simp[h46]
     simp(disch:=first|omega|assumption) only[hdg,hlt,hdd,g46,hnle,go_sem]
     exact hQ _ _ _ [.agg [.int .i64 k,.str (s.take n)],.int .i64 (n:Int)] nofun (by simp(disch:=first|omega|assumption) only[ir124,zo,zL,go_sem]) (by simp[zb,AV.strip,AV.strip1,e,yl])
theorem zpy {l:List UInt8} (hne:l≠[]):(ym l).2≤l.length∧(ym l).1≤1114111:=by
 by_cases h:(ym l).2=0
 ·refine⟨by omega,?_⟩
  unfold ym at h ⊢
  split at h
  ·rename_i h0;rw[if_pos h0];decide
  ·split at h
   ·rename_i h0 h1;rw[if_neg h0,if_pos h1];decide
   ·rename_i h0 h1
    have:=zlb h0 h1
    have:=this.pos
    omega
 ·obtain⟨e,h1⟩:=zmD hne h
  have hd:=zlb hne h1
  rw[e]
  refine⟨?_,hd.le⟩
  have hl:=hd.len
  exact hl
theorem zqy (s:List UInt8) (hs:s.length≤Lim):zr Tryz.prog 122 [.str s] (.bool (zdT s)):=by
 refine zr.go ir122 ck122 (Al4 _) fun KP Q hQ=>?_
 have hs':=hs
 simp only[Lim] at hs
 simp(disch:=first|omega|assumption) only[ir122,go_sem]
 refine zI (fun i:Nat=>[(3,.int .i64 i)]) (fun i H=>zdT s=zdT (s.drop i)∧i≤s.length) (fun i=>s.length-i) 0 (by simp(disch:=first|omega|assumption) only[go_sem]) ⟨by simp,by omega⟩ ?_
 rintro i H J ⟨hn,hle⟩ hJ
 by_cases hlt:i<s.length
 case neg =>
  have hlt':¬ ((i:Int)<s.length):=by omega
  rw[List.drop_of_length_le (by omega)] at hn
  simp(disch:=first|omega|assumption) only[hlt',go_sem]
  exact hQ _ _ _ _ nofun rfl (by simp[zb,ze,AV.strip,AV.strip1,hn,zoD])
 have hlt':((i:Int)<s.length)=True:=eq_true (by omega)
 have hne:s.drop i≠[]:=fun e=>by have:=congrArg List.length e;simp at this;omega
 obtain⟨hk,hcm⟩:=zpy hne
 rw[yH] at hk
 simp(disch:=first|omega|assumption) only[hlt',go_sem]
 refine zd (zsO s i hlt hs') ?_
 rw[zhQ hne,List.drop_drop] at hn
 generalize (ym (s.drop i)).1=c at *
 generalize (ym (s.drop i)).2=k at *
 by_cases hk0:0<k
 ·have hk0':((0:Int)<(k:Int))=True:=eq_true (by omega)
  simp(disch:=first|omega|assumption) only[hk0',go_sem]
  refine zd (ztn c hcm) ?_
  cases hsg:zbe c with
  | true =>
   rw[hsg] at hn
   simp only[hk0,decide_true,Bool.true_and] at hn
   simp(disch:=first|omega|assumption) only[wrap64,go_sem]
   exact goJ (hJ (i+k) _ (by omega) ⟨hn,by omega⟩) (by simp(disch:=first|omega|assumption) only[Int.natCast_add,go_sem])
  | false =>
   rw[hsg] at hn
   simp only[Bool.false_and,Bool.and_false] at hn
   simp(disch:=first|omega|assumption) only[go_sem]
   exact hQ _ _ _ _ nofun rfl (by simp[zb,ze,AV.strip,AV.strip1,hn])
 ·have hk0':¬ ((0:Int)<(k:Int)):=by omega
  simp only[hk0,decide_false,Bool.false_and] at hn
  simp(disch:=first|omega|assumption) only[hk0',go_sem]
  exact hQ _ _ _ _ nofun rfl (by simp[zb,ze,AV.strip,AV.strip1,hn])
def readA:Except Int (List Tok)→AV
 | .ok l=>.tup [.sl .no 2 (cKs l),.int .i64 0]
 | .error e=>.tup [.sl .no 2 [],.int .i64 e]
def Ys (l:List Tok) (t:List UInt8):Except Int (List Tok):=Y3 (t.length+1) l t
theorem zij (l:List Tok):Ys l []=.ok l:=rfl
theorem zhR {l:List Tok} {t:List UInt8} (hne:t≠[]) (h:Z2 t≠0):Ys l t=Ys l (t.drop (Z2 t)):=by
 have h1:=zdY t
 have h2:0<t.length:=List.length_pos_iff.2 hne
 unfold Ys
 conv=>lhs;unfold Y3
 rw[if_neg hne,if_pos h]
 exact zbO _ _ _ _ (by simp;omega) (Nat.lt_succ_self _)
theorem zgX {l:List Tok} {t:List UInt8} (hne:t≠[]) (h:Z2 t=0) (h1:y1 t=none):Ys l t=.error 2:=by
 unfold Ys
 conv=>lhs;unfold Y3
 rw[if_neg hne,if_neg (by omega),h1]
theorem zgq {l:List Tok} {t t':List UInt8} {x:Tok} (hne:t≠[]) (h:Z2 t=0) (h1:y1 t=some (x,t')):Ys l t=Ys (l++[x]) t':=by
 have h2:=zc8 h1
 unfold Ys
 conv=>lhs;unfold Y3
 rw[if_neg hne,if_neg (by omega),h1]
 exact zbO _ _ _ _ (by omega) (Nat.lt_succ_self _)
theorem zgA:∀(n:Nat) (raw t b t':List UInt8),Zl n raw t=some (b,t')→t' <:+ t
 | 0,_,_,_,_,h=>by cases h
 | n+1,raw,[],_,_,h=>by cases h
 | n+1,raw,c::r,b,t',h=>by
  simp only[Zl] at h
  split at h
  ·cases h;exact(List.drop_suffix _ _).trans (List.suffix_cons ..)
  split at h
  ·exact(zgA n _ _ _ _ h).trans ((List.drop_suffix _ _).trans (List.suffix_cons ..))
  ·exact(zgA n _ _ _ _ h).trans (List.suffix_cons ..)
theorem zkd {s t:List UInt8} {x:Tok} (h:y1 s=some (x,t)):t <:+ s:=by
 cases s with
 | nil=>cases h
 | cons c r =>
  simp only[y1] at h
  split at h
  ·cases hr:Zl (r.length+1) [] (r.drop 2) with
   | none=>rw[hr] at h;cases h
   | some y =>
    rw[hr] at h
    simp only[yS,Al1,Al8] at h
    obtain⟨_,rfl⟩:=h
    exact(zgA _ _ _ _ _ (show Zl _ _ _=some (y.1,y.2) from hr)).trans ((List.drop_suffix _ _).trans (List.suffix_cons ..))
  split at h
  ·cases hr:ZL yM r with
   | none=>rw[hr] at h;cases h
   | some y =>
    rw[hr] at h
    simp only[yS,Al1,Al8] at h
    obtain⟨_,rfl⟩:=h
    exact(zjq (t':=y.2) (b:=y.1) hr).1.trans (List.suffix_cons ..)
  split at h
  ·cases h;exact(List.drop_suffix _ _).trans (List.suffix_cons ..)
  split at h
  ·cases h;exact List.suffix_cons ..
  split at h
  ·cases h;exact List.drop_suffix _ _
  split at h
  ·cases h
  split at h
  ·cases h
  ·cases h;exact List.drop_suffix _ _
theorem zjm {s t:List UInt8} {x:Tok} (h:y1 s=some (x,t)):s.drop (s.length-t.length)=t:=by
 obtain⟨p,hp⟩:=zkd h
 rw[← hp];simp
theorem ztU {u:List UInt8} (hne:u≠[]) (hs:u.length≤1000000):zr Tryz.prog 123 [.str u] (.int .i64 (Z2 u)):=by
 cases u with
 | nil=>exact absurd rfl hne
 | cons c r=>exact ztQ c r hs
theorem ztR {u:List UInt8} (hne:u≠[]) (hs:u.length≤ZQ):zr Tryz.prog 124 [.str u] (zjJ u):=by
 cases u with
 | nil=>exact absurd rfl hne
 | cons c r=>exact ztI c r hs
theorem zsn (s:List UInt8) (hs:s.length≤ZQ):zr Tryz.prog 57 [.str s] (readA (Zj s)):=by
 refine zr.go ir57 ck57 (Al4 _) fun KP Q hQ=>?_
 have hsq:=hs
 simp only[ZQ] at hs
 by_cases h8:8192<s.length
 ·have g8:((8192:Int)<(s.length:Int))=True:=eq_true (by omega)
  simp(disch:=first|omega|assumption) only[ir57,g8,go_sem]
  exact hQ _ _ _ _ nofun rfl (by simp[zb,ze,AV.strip,AV.strip1,Zj,h8,readA])
 have g8:¬ ((8192:Int)<(s.length:Int)):=by omega
 simp(disch:=first|omega|assumption) only[ir57,g8,go_sem]
 refine zd (zqy s (by simp only[Lim];omega)) ?_
 cases hsb:zdT s with
 | false =>
  simp(disch:=first|omega|assumption) only[go_sem]
  exact hQ _ _ _ _ nofun rfl (by simp[zb,ze,AV.strip,AV.strip1,Zj,h8,hsb,readA])
 | true =>
  have e0:Zj s=Ys [] s:=by unfold Zj Ys;rw[if_neg h8,if_pos hsb]
  rw[e0] at hQ
  simp(disch:=first|omega|assumption) only[go_sem]
  refine zI (fun x:Own×List Tok×Nat=>[(4,.sl x.1 2 (cKs x.2.1)),(5,.int .i64 x.2.2)]) (fun x H=>x.2.2≤s.length∧x.2.1.length≤x.2.2∧Ys [] s=Ys x.2.1 (s.drop x.2.2)∧OwnS za.emp .nil H x.1 x.2.1.length 2) (fun x=>s.length-x.2.2) (.nil,[],0) (by simp(disch:=first|omega|assumption) only[cKs,List.map_nil,go_sem]) ⟨Nat.zero_le _,Al4 _,rfl,OwnS.refl rfl⟩ ?_
  rintro⟨o,l,i⟩ H J ⟨hi,hll,hr,hso⟩ hJ
  simp only at hi hll hr hso
  have hcl:=zcQ l
  by_cases hlt:i<s.length
  case neg =>
   have hlt':¬ ((i:Int)<s.length):=by omega
   rw[List.drop_of_length_le (by omega),zij] at hr
   simp(disch:=first|omega|assumption) only[hlt',go_sem]
   exact hQ _ _ _ _ nofun rfl (by simp[zb,ze,AV.strip,AV.strip1,hr,readA,zhB])
  have hlt':((i:Int)<s.length)=True:=eq_true (by omega)
  have hle':((i:Int)≤s.length)=True:=eq_true (by omega)
  obtain⟨u,hd⟩:∃ u,s.drop i=u:=⟨_,rfl⟩
  have hdl:s.length=i+u.length:=by have:=congrArg List.length hd;rw[yH] at this;omega
  have hne:u≠[]:=fun e=>by rw[e] at hdl;simp at hdl;omega
  rw[hd] at hr
  simp(disch:=first|omega|assumption) only[hlt',hle',hd,go_sem]
  refine zd (ztU hne (by omega)) ?_
  have hgl:=zdY u
  by_cases hg:Z2 u=0
  case neg =>
   have hg':((0:Int)<(Z2 u:Int))=True:=eq_true (by omega)
   simp(disch:=first|omega|assumption) only[hg',wrap64,go_sem]
   refine goJ (hJ (o,l,i+Z2 u) _ (by simp only;omega) ⟨by simp only;omega,by simp only;omega,?_,hso⟩) (by simp(disch:=first|omega|assumption) only[Int.natCast_add,go_sem])
   simp only
   rw[hr,zhR hne hg,← List.drop_drop,hd]
  have hg':¬ ((0:Int)<(Z2 u:Int)):=by omega
  simp(disch:=first|omega|assumption) only[hg',hle',hd,go_sem]
  refine zd (ztR hne (by simp only[ZQ];omega)) ?_
  cases ho:y1 u with
  | none =>
   rw[zgX hne hg ho] at hr
   rw[zbp ho]
   simp(disch:=first|omega|assumption) only[yl,go_sem]
   refine zh fun b1 hb1=>?_
   simp(disch:=first|omega|assumption) only[go_sem]
   exact hQ _ _ _ _ nofun rfl (by simp[zb,ze,AV.strip,AV.strip1,hr,readA])
  | some x =>
   obtain⟨x,t⟩:=x
   have hlt2:=zc8 ho
   have hsf:=zjm ho
   rw[zgq hne hg ho] at hr
   rw[YO ho]
   have hz:¬ (((u.length-t.length:Nat):Int)=0):=by omega
   simp(disch:=first|omega|assumption) only[yl,go_sem]
   refine zh fun b1 hb1=>?_
   simp(disch:=first|omega|assumption) only[hz,go_sem]
   refine zE (by rw[hcl];exact(hso.upd hb1).own) (by simp only[hcl,Al2,Al3];omega) (by simp only[hcl,Al2,Al3,maxLen];omega) fun o' H' hs2=>?_
   simp(disch:=first|omega|assumption) only[wrap64,go_sem]
   refine goJ (hJ (o',l++[x],i+(u.length-t.length)) H' (by simp only;omega) ⟨by simp only;omega,by simp;omega,?_,(hso.upd (x:=.cells [.int .i64 x.k,.str x.s]) hb1).trans (by simpa[hcl] using hs2)⟩) (by simp(disch:=first|omega|assumption) only[← zmm,Int.natCast_add,go_sem])
   simp only
   rw[hr,← List.drop_drop,hd,hsf]
end Go.Proofs.YticbbfbpeimkbaaGreatDoor
