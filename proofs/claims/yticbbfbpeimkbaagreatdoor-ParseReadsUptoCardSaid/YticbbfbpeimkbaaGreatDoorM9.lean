import Derived.Test.YticbbfbpeimkbaaGreatDoorRows
import Derived.Test.YticbbfbpeimkbaaGreatDoorM1
import Derived.Test.YticbbfbpeimkbaaGreatDoorM2
import Derived.Test.YticbbfbpeimkbaaGreatDoorM3
import Derived.Test.YticbbfbpeimkbaaGreatDoorM4
import Derived.Test.YticbbfbpeimkbaaGreatDoorM5
import Derived.Test.YticbbfbpeimkbaaGreatDoorM6
import Derived.Test.YticbbfbpeimkbaaGreatDoorM7
import Derived.Test.YticbbfbpeimkbaaGreatDoorM8
set_option maxRecDepth 100000
set_option linter.all false
namespace Go.Proofs.YticbbfbpeimkbaaGreatDoor
open Go.Ab Go.Lib
theorem zie (l:List (List UInt8)) (x:List UInt8) (h:l≠[]):Lib.join (l++[x]) [10]=Lib.join l [10]++(10::x):=by
 induction l with
 | nil=>exact absurd rfl h
 | cons a l ih =>
  cases l with
  | nil=>simp[Lib.join]
  | cons b l =>
   have:=ih (by simp)
   have e1:∀ r:List (List UInt8),Lib.join (a::b::r) [10]=a++10::Lib.join (b::r) [10]:=fun r=>by simp[Lib.join]
   rw[Al6,Al6,e1,e1]
   rw[Al6] at this
   rw[this];simp
theorem zec (D:List (List UInt8)) (tl:List AV) {i:Nat} (h:i<D.length):∃ x,D.drop i=x::D.drop (i+1)∧((Zm D++tl).drop (0+i*1)).take 1=[.str x]∧0+i*1+1≤(Zm D++tl).length∧x∈D∧D.take (i+1)=D.take i++[x]:=by
 obtain⟨a,x,b,hd,hai⟩:=zmu h
 have hg:=zce hd tl
 have hle:=zel hd tl
 rw[hai] at hg hle
 refine⟨x,?_,hg,hle,by rw[hd];simp,?_⟩
 ·rw[hd,← hai,List.drop_left,← List.drop_drop,List.drop_left];rfl
 ·rw[hd,← hai,List.take_left,show a.length+1=(a++[x]).length by simp,show a++x::b=(a++[x])++b by simp,List.take_left]
theorem zqi (raw:List UInt8) (hs:raw.length≤1099511600000):zr Tryz.prog 302 [.str raw] (.str (yv raw)):=by
 refine zr.go ir302 ck302 (Al4 _) fun KP Q hQ=>?_
 have hw0:wL (zQ raw)≤raw.length+1:=by have:=zbA raw [];simpa[wL,zQ] using this
 obtain⟨x0,T,hL⟩:∃ x T,zQ raw=x::T:=by
  cases hx:zQ raw with
  | nil=>exact absurd hx (zf1 raw [])
  | cons x T=>exact⟨x,T,rfl⟩
 have hLl:=zct (zQ raw)
 simp(disch:=first|omega|assumption) only[ir302,go_sem]
 refine zc (zqe raw (by simp only[Lim];omega)) fun v H1 ⟨b,cap,hv,hm⟩=>?_
 subst hv
 have hm0:=hm
 obtain⟨tl,hb,hcap⟩:=hm
 simp(disch:=first|omega|assumption) only[go_sem]
 refine zc (znZ hm0 (fun s hsm=>by have:=zag hsm;simp only[Lim];omega) (by simp only[Lim];omega)) fun v H2 ⟨hv,hH⟩=>?_
 subst hv;subst hH
 obtain⟨n,hn⟩:∃ n,(indM (zQ raw)).toNat=n:=⟨_,rfl⟩
 have hb':=hb
 rw[hL] at hb'
 have hmx:(if (0:Int) > indM (zQ raw) then (0:Int) else indM (zQ raw))=(n:Int):=by split<;>omega
 have hj0:Lib.join ([]:List (List UInt8)) [10]=[]:=by simp[Lib.join]
 simp(disch:=first|omega|assumption) only[hmx,go_sem]
 refine zI (fun x:List (List UInt8)×List (List UInt8)=>[(5,.int .i64 ((x.1.length:Int)+1))]) (fun x H'=>T=x.1++x.2∧H' b=some (.cells (Zm (x0::(x.1.map (fun s=>s.drop n)++x.2))++tl))) (fun x=>x.2.length) ([],T) (by simp(disch:=first|omega|assumption) only[Al3,go_sem]) ⟨rfl,by simpa using hb'⟩ ?_
 rintro⟨dn,rest⟩ H3 J3 ⟨hT,hb3⟩ hJ3
 simp only at hT hb3
 have hll:(zQ raw).length=dn.length+rest.length+1:=by rw[hL,hT];simp
 cases rest with
 | cons y r =>
  have hlt:((dn.length:Int)+1<((zQ raw).length:Int))=True:=eq_true (by simp at hll;omega)
  have hcur:x0::(dn.map (fun s=>s.drop n)++y::r)=(x0::dn.map (fun s=>s.drop n))++y::r:=rfl
  have hg:=zce hcur tl
  have hle:=zel hcur tl
  have hal:(x0::dn.map (fun s=>s.drop n)).length=dn.length+1:=by simp
  have hst:∀ z,splice (Zm (x0::(dn.map (fun s=>s.drop n)++y::r))++tl) (0+(dn.length+1)*1) [.str z]=Zm (x0::(dn.map (fun s=>s.drop n)++z::r))++tl:=fun z=>by
   have:=zkx (x0::dn.map (fun s=>s.drop n)) y z r tl
   rw[hal] at this
   exact this
  rw[hal] at hg hle
  have h1:((dn.length:Int)+1).toNat=dn.length+1:=by omega
  have hy0:((0:Int)≤(y.length:Int))=True:=eq_true (by omega)
  have hyn:¬ ((y.length:Int)<0):=by omega
  have hln:dn.length≤1099511627777:=by omega
  have hbn:(Zm (x0::(dn.map (fun s=>s.drop n)++y::r))++tl).length=(Zm (x0::(dn.map (fun s=>s.drop n)++y::r))++tl).length:=rfl
  by_cases hmin:(y.length:Int)<(n:Int)
  ·simp(disch:=first|omega|assumption) only[hlt,h1,hb3,hg,hle,hst,hmin,hy0,List.drop_length,go_sem]
   refine goJ (hJ3 (dn++[y],r) _ (by simp) ⟨by rw[hT];simp,?_⟩) (by simp(disch:=first|omega|assumption) only[wrap64,Al5,Al2,Al3,Int.natCast_add,go_sem])
   rw[upd_same]
   simp[List.drop_eq_nil_of_le (show y.length≤n by omega)]
  ·have hny:((n:Int)≤(y.length:Int))=True:=eq_true (by omega)
   have hn0:((0:Int)≤(n:Int))=True:=eq_true (by omega)
   simp(disch:=first|omega|assumption) only[hlt,h1,hb3,hg,hle,hst,hmin,hny,hn0,go_sem]
   refine goJ (hJ3 (dn++[y],r) _ (by simp) ⟨by rw[hT];simp,?_⟩) (by simp(disch:=first|omega|assumption) only[wrap64,Al5,Al2,Al3,Int.natCast_add,go_sem])
   rw[upd_same]
   simp
 | nil =>
  have hlt:¬ ((dn.length:Int)+1<((zQ raw).length:Int)):=by simp at hll;omega
  obtain⟨D,hDd⟩:∃ D,D=x0::T.map fun s=>s.drop n:=⟨_,rfl⟩
  have hDM:za3 (zQ raw)=D:=by
   conv=>lhs;rw[hL]
   simp only[za3]
   rw[← hL,hn,hDd]
  have hDl:D.length=(zQ raw).length:=by rw[hDd,hL];simp
  have hbX:H3 b=some (.cells (Zm D++tl)):=by rw[hb3,hDd,hT];simp
  have hwD:wL D≤1099511627777:=by
   have:=zfV n T
   rw[hL] at hw0
   rw[hDd,ZW];rw[ZW] at hw0;omega
  have hDw:=zct D
  clear hJ3 hb3
  simp(disch:=first|omega|assumption) only[hlt,go_sem]
  refine zI (fun i:Nat=>[(6,.int .i64 (i:Int)),(7,.int .i64 (D.length:Int))]) (fun i H'=>H'=H3∧i≤D.length∧(D.drop i).dropWhile yp=D.dropWhile yp) (fun i=>D.length-i) 0 (by simp(disch:=first|omega|assumption) only[hDl,go_sem]) ⟨rfl,Nat.zero_le _,rfl⟩ ?_
  rintro i H4 J4 ⟨rfl,hi,hdw⟩ hJ4
  by_cases hlt:i<D.length
  case neg =>
   have hlt':¬ ((i:Int)<(D.length:Int)):=by omega
   have hX:D.drop i=D.dropWhile yp:=by
    rw[← hdw,List.drop_eq_nil_of_le (by omega)];rfl
   simp(disch:=first|omega|assumption) only[hlt',go_sem]
   refine zI (fun j:Nat=>[(6,.int .i64 (i:Int)),(7,.int .i64 (j:Int))]) (fun j H'=>H'=H4∧i≤j∧j≤D.length∧Yc ((D.drop i).take (j-i))=Yc (D.drop i)) (fun j=>j) D.length (by simp(disch:=first|omega|assumption) only[go_sem]) ⟨rfl,hi,Al4 _,by rw[List.take_of_length_le (by simp)]⟩ ?_
   rintro j H5 J5 ⟨rfl,hij,hj,htr⟩ hJ5
   by_cases hgt:i<j
   case neg =>
    have hgt':¬ ((i:Int)<(j:Int)):=by omega
    have hF:(D.drop i).take (j-i)=Yc (D.dropWhile yp):=by rw[← hX,← htr,show j-i=0 by omega];simp[Yc]
    have hji:j-i=0:=by omega
    rw[hji,List.take_zero] at hF
    simp(disch:=first|omega|assumption) only[hgt',go_sem]
    refine zI (fun q:Nat=>[(6,.int .i64 (i:Int)),(7,.int .i64 (j:Int)),(8,.str []),(9,.int .i64 (i:Int))]) (fun q H'=>H'=H5) (fun q=>0) 0 (by simp(disch:=first|omega|assumption) only[go_sem]) rfl ?_
    rintro q H6 J6 rfl hJ6
    have e:yv raw=[]:=by unfold yv;rw[hDM,← hF];simp[Lib.join]
    simp(disch:=first|omega|assumption) only[hgt',go_sem]
    exact hQ _ _ _ _ nofun rfl (by simp[zb,ze,AV.strip,AV.strip1,e])
   obtain⟨j1,hj1⟩:∃ q,j=q+1:=⟨j-1,by omega⟩
   have hgt':((i:Int)<(j:Int))=True:=eq_true (by omega)
   obtain⟨y,hy1,hy2,hy3,hy4,hy5⟩:=zec D tl (show j1<D.length by omega)
   have hyl:y.length≤Lim:=by have:=zag hy4;simp only[Lim];omega
   have hw1:IntKind.wrap .i64 ((j:Int)-1)=(j1:Int):=by rw[wrap64 (by omega) (by omega)];omega
   have hjl:((j1:Int)<(D.length:Int))=True:=eq_true (by omega)
   have hsn:(D.drop i).take (j-i)=(D.drop i).take (j1-i)++[y]:=by
    have e1:(D.drop i).drop (j1-i)=y::D.drop (j1+1):=by rw[List.drop_drop,show i+(j1-i)=j1 by omega,hy1]
    rw[show j-i=(j1-i)+1 by omega,List.take_add,e1];rfl
   rw[hsn,YQ] at htr
   cases hby:yp y with
   | true =>
    rw[hby,if_pos rfl] at htr
    simp(disch:=first|omega|assumption) only[hgt',hw1,hjl,hbX,hy2,hy3,← hDl,go_sem]
    refine zd (zc0 y hyl) ?_
    simp(disch:=first|omega|assumption) only[hby,hw1,go_sem]
    exact goJ (hJ5 j1 _ (by omega) ⟨rfl,by omega,by omega,htr⟩) (by simp(disch:=first|omega|assumption) only[← hDl,go_sem])
   | false =>
    rw[hby,if_neg (by decide)] at htr
    have hF:(D.drop i).take (j-i)=Yc (D.dropWhile yp):=by rw[hsn,htr,hX]
    simp(disch:=first|omega|assumption) only[hgt',hw1,hjl,hbX,hy2,hy3,← hDl,go_sem]
    refine zd (zc0 y hyl) ?_
    simp(disch:=first|omega|assumption) only[hby,go_sem]
    have hjD:j≤D.length:=by omega
    refine zI (fun q:Nat=>[(6,.int .i64 (i:Int)),(7,.int .i64 ((j:Nat):Int)),(8,.str (Lib.join ((D.drop i).take (q-i)) [10])),(9,.int .i64 (q:Int))]) (fun q H'=>H'=H5∧i≤q∧q≤j) (fun q=>j-q) i (by simp(disch:=first|omega|assumption) only[Nat.sub_self,List.take_zero,hj0,go_sem]) ⟨rfl,Al4 _,by omega⟩ ?_
    rintro q H6 J6 ⟨rfl,hiq,hqj⟩ hJ6
    by_cases hq:q<j
    case neg =>
     have hq':¬ (((q:Nat):Int)<((j:Nat):Int)):=by omega
     have e:yv raw=Lib.join ((D.drop i).take (q-i)) [10]:=by unfold yv;rw[hDM,← hF,show q=j by omega]
     simp(disch:=first|omega|assumption) only[hq',go_sem]
     exact hQ _ _ _ _ nofun rfl (by simp[zb,ze,AV.strip,AV.strip1,e])
    have hq':(((q:Nat):Int)<((j:Nat):Int))=True:=eq_true (by omega)
    obtain⟨z,hz1,hz2,hz3,hz4,hz5⟩:=zec D tl (show q<D.length by omega)
    have hql:((q:Int)<(D.length:Int))=True:=eq_true (by omega)
    have hz6:(D.drop i).take (q+1-i)=(D.drop i).take (q-i)++[z]:=by
     have e1:(D.drop i).drop (q-i)=z::D.drop (q+1):=by rw[List.drop_drop,show i+(q-i)=q by omega,hz1]
     rw[show q+1-i=(q-i)+1 by omega,List.take_add,e1];rfl
    have hjw:=zdb (((D.drop i).take (q-i)))
    have hwt:wL ((D.drop i).take (q-i))≤wL D:=by
     have h1:=zdL (D.take i) (D.drop i)
     have h2:=zdL ((D.drop i).take (q-i)) ((D.drop i).drop (q-i))
     rw[List.take_append_drop] at h1 h2
     omega
    have hzw:=zag hz4
    have hjz:(Lib.join ((D.drop i).take (q-i)) [10]++[10]).length≤1099511627777+1:=by rw[Al5,List.length_singleton];omega
    by_cases hqi:i<q
    ·have hqi':((i:Int)<(q:Int))=True:=eq_true (by omega)
     have hne:(D.drop i).take (q-i)≠[]:=by
      intro h
      have:=congrArg List.length h
      simp at this
      omega
     have ej:=zie _ z hne
     rw[← hz6] at ej
     simp(disch:=first|omega|assumption) only[hq',hqi',hbX,hz2,hz3,hql,← hDl,wrap64,go_sem]
     refine goJ (hJ6 (q+1) _ (by omega) ⟨rfl,by omega,by omega⟩) (by simp(disch:=first|omega|assumption) only[ej,← hDl,Int.natCast_add,zfM,List.singleton_append,go_sem])
    ·have hqe:q=i:=by omega
     have hqi':¬ ((i:Int)<(q:Int)):=by omega
     have hj1:Lib.join ((D.drop i).take (q-i)) [10]=[]:=by rw[hqe,Nat.sub_self,List.take_zero,hj0]
     have ej:Lib.join ((D.drop i).take (q+1-i)) [10]=z:=by rw[hz6,hqe];simp[Lib.join]
     simp(disch:=first|omega|assumption) only[hq',hqi',hbX,hz2,hz3,hql,← hDl,wrap64,go_sem]
     refine goJ (hJ6 (q+1) _ (by omega) ⟨rfl,by omega,by omega⟩) (by simp(disch:=first|omega|assumption) only[ej,hj1,← hDl,Int.natCast_add,zcD,go_sem])
  obtain⟨x,hx1,hx2,hx3,hx4,hx5⟩:=zec D tl hlt
  have hlt':((i:Int)<(D.length:Int))=True:=eq_true (by omega)
  have hxl:x.length≤Lim:=by have:=zag hx4;simp only[Lim];omega
  cases hbr:yp x with
  | true =>
   simp(disch:=first|omega|assumption) only[hlt',hbX,hx2,hx3,← hDl,go_sem]
   refine zd (zc0 x hxl) ?_
   simp(disch:=first|omega|assumption) only[hbr,wrap64,go_sem]
   exact goJ (hJ4 (i+1) _ (by omega) ⟨rfl,hlt,by rw[← hdw,hx1,List.dropWhile_cons,if_pos hbr]⟩) (by simp(disch:=first|omega|assumption) only[← hDl,Int.natCast_add,go_sem])
  | false =>
   have hX:D.drop i=D.dropWhile yp:=by
    rw[← hdw,hx1,List.dropWhile_cons,if_neg (by rw[hbr];decide)]
   simp(disch:=first|omega|assumption) only[hlt',hbX,hx2,hx3,← hDl,go_sem]
   refine zd (zc0 x hxl) ?_
   simp(disch:=first|omega|assumption) only[hbr,go_sem]
   refine zI (fun j:Nat=>[(6,.int .i64 (i:Int)),(7,.int .i64 (j:Int))]) (fun j H'=>H'=H4∧i≤j∧j≤D.length∧Yc ((D.drop i).take (j-i))=Yc (D.drop i)) (fun j=>j) D.length (by simp(disch:=first|omega|assumption) only[go_sem]) ⟨rfl,hi,Al4 _,by rw[List.take_of_length_le (by simp)]⟩ ?_
   rintro j H5 J5 ⟨rfl,hij,hj,htr⟩ hJ5
   by_cases hgt:i<j
   case neg =>
    have hgt':¬ ((i:Int)<(j:Int)):=by omega
    have hF:(D.drop i).take (j-i)=Yc (D.dropWhile yp):=by rw[← hX,← htr,show j-i=0 by omega];simp[Yc]
    have hji:j-i=0:=by omega
    rw[hji,List.take_zero] at hF
    simp(disch:=first|omega|assumption) only[hgt',go_sem]
    refine zI (fun q:Nat=>[(6,.int .i64 (i:Int)),(7,.int .i64 (j:Int)),(8,.str []),(9,.int .i64 (i:Int))]) (fun q H'=>H'=H5) (fun q=>0) 0 (by simp(disch:=first|omega|assumption) only[go_sem]) rfl ?_
    rintro q H6 J6 rfl hJ6
    have e:yv raw=[]:=by unfold yv;rw[hDM,← hF];simp[Lib.join]
    simp(disch:=first|omega|assumption) only[hgt',go_sem]
    exact hQ _ _ _ _ nofun rfl (by simp[zb,ze,AV.strip,AV.strip1,e])
   obtain⟨j1,hj1⟩:∃ q,j=q+1:=⟨j-1,by omega⟩
   have hgt':((i:Int)<(j:Int))=True:=eq_true (by omega)
   obtain⟨y,hy1,hy2,hy3,hy4,hy5⟩:=zec D tl (show j1<D.length by omega)
   have hyl:y.length≤Lim:=by have:=zag hy4;simp only[Lim];omega
   have hw1:IntKind.wrap .i64 ((j:Int)-1)=(j1:Int):=by rw[wrap64 (by omega) (by omega)];omega
   have hjl:((j1:Int)<(D.length:Int))=True:=eq_true (by omega)
   have hsn:(D.drop i).take (j-i)=(D.drop i).take (j1-i)++[y]:=by
    have e1:(D.drop i).drop (j1-i)=y::D.drop (j1+1):=by rw[List.drop_drop,show i+(j1-i)=j1 by omega,hy1]
    rw[show j-i=(j1-i)+1 by omega,List.take_add,e1];rfl
   rw[hsn,YQ] at htr
   cases hby:yp y with
   | true =>
    rw[hby,if_pos rfl] at htr
    simp(disch:=first|omega|assumption) only[hgt',hw1,hjl,hbX,hy2,hy3,← hDl,go_sem]
    refine zd (zc0 y hyl) ?_
    simp(disch:=first|omega|assumption) only[hby,hw1,go_sem]
    exact goJ (hJ5 j1 _ (by omega) ⟨rfl,by omega,by omega,htr⟩) (by simp(disch:=first|omega|assumption) only[← hDl,go_sem])
   | false =>
    rw[hby,if_neg (by decide)] at htr
    have hF:(D.drop i).take (j-i)=Yc (D.dropWhile yp):=by rw[hsn,htr,hX]
    simp(disch:=first|omega|assumption) only[hgt',hw1,hjl,hbX,hy2,hy3,← hDl,go_sem]
    refine zd (zc0 y hyl) ?_
    simp(disch:=first|omega|assumption) only[hby,go_sem]
    have hjD:j≤D.length:=by omega
    refine zI (fun q:Nat=>[(6,.int .i64 (i:Int)),(7,.int .i64 ((j:Nat):Int)),(8,.str (Lib.join ((D.drop i).take (q-i)) [10])),(9,.int .i64 (q:Int))]) (fun q H'=>H'=H5∧i≤q∧q≤j) (fun q=>j-q) i (by simp(disch:=first|omega|assumption) only[Nat.sub_self,List.take_zero,hj0,go_sem]) ⟨rfl,Al4 _,by omega⟩ ?_
    rintro q H6 J6 ⟨rfl,hiq,hqj⟩ hJ6
    by_cases hq:q<j
    case neg =>
     have hq':¬ (((q:Nat):Int)<((j:Nat):Int)):=by omega
     have e:yv raw=Lib.join ((D.drop i).take (q-i)) [10]:=by unfold yv;rw[hDM,← hF,show q=j by omega]
     simp(disch:=first|omega|assumption) only[hq',go_sem]
     exact hQ _ _ _ _ nofun rfl (by simp[zb,ze,AV.strip,AV.strip1,e])
    have hq':(((q:Nat):Int)<((j:Nat):Int))=True:=eq_true (by omega)
    obtain⟨z,hz1,hz2,hz3,hz4,hz5⟩:=zec D tl (show q<D.length by omega)
    have hql:((q:Int)<(D.length:Int))=True:=eq_true (by omega)
    have hz6:(D.drop i).take (q+1-i)=(D.drop i).take (q-i)++[z]:=by
     have e1:(D.drop i).drop (q-i)=z::D.drop (q+1):=by rw[List.drop_drop,show i+(q-i)=q by omega,hz1]
     rw[show q+1-i=(q-i)+1 by omega,List.take_add,e1];rfl
    have hjw:=zdb (((D.drop i).take (q-i)))
    have hwt:wL ((D.drop i).take (q-i))≤wL D:=by
     have h1:=zdL (D.take i) (D.drop i)
     have h2:=zdL ((D.drop i).take (q-i)) ((D.drop i).drop (q-i))
     rw[List.take_append_drop] at h1 h2
     omega
    have hzw:=zag hz4
    have hjz:(Lib.join ((D.drop i).take (q-i)) [10]++[10]).length≤1099511627777+1:=by rw[Al5,List.length_singleton];omega
    by_cases hqi:i<q
    ·have hqi':((i:Int)<(q:Int))=True:=eq_true (by omega)
     have hne:(D.drop i).take (q-i)≠[]:=by
      intro h
      have:=congrArg List.length h
      simp at this
      omega
     have ej:=zie _ z hne
     rw[← hz6] at ej
     simp(disch:=first|omega|assumption) only[hq',hqi',hbX,hz2,hz3,hql,← hDl,wrap64,go_sem]
     refine goJ (hJ6 (q+1) _ (by omega) ⟨rfl,by omega,by omega⟩) (by simp(disch:=first|omega|assumption) only[ej,← hDl,Int.natCast_add,zfM,List.singleton_append,go_sem])
    ·have hqe:q=i:=by omega
     have hqi':¬ ((i:Int)<(q:Int)):=by omega
     have hj1:Lib.join ((D.drop i).take (q-i)) [10]=[]:=by rw[hqe,Nat.sub_self,List.take_zero,hj0]
     have ej:Lib.join ((D.drop i).take (q+1-i)) [10]=z:=by rw[hz6,hqe];simp[Lib.join]
     simp(disch:=first|omega|assumption) only[hq',hqi',hbX,hz2,hz3,hql,← hDl,wrap64,go_sem]
     refine goJ (hJ6 (q+1) _ (by omega) ⟨rfl,by omega,by omega⟩) (by simp(disch:=first|omega|assumption) only[ej,hj1,← hDl,Int.natCast_add,zcD,go_sem])
theorem zd1 (s:List UInt8) (i:Nat) (t:List UInt8) (hi:i≤s.length) (hs:s.length≤Lim) (ht:t.length≤100):zr Tryz.prog 253 [.str s,.int .i64 i,.str t] (.bool (t.isPrefixOf (s.drop i))):=by
 refine zr.go ir253 ck253 (Al4 _) fun KP Q hQ=>?_
 simp only[Lim] at hs
 by_cases hle:t.length≤s.length-i
 ·have h1:((i:Int)≤(s.length:Int)-(t.length:Int))=True:=eq_true (by omega)
  have h2:((i:Int)≤(i:Int)+(t.length:Int))=True:=eq_true (by omega)
  have h3:((i:Int)+(t.length:Int)≤(s.length:Int))=True:=eq_true (by omega)
  have h4:((i:Int)+(t.length:Int)).toNat=i+t.length:=by omega
  have h5:((i:Int)+(t.length:Int)-(i:Int)).toNat=t.length:=by omega
  have e0:List.drop i (List.take (i+t.length) s)=(s.drop i).take t.length:=by rw[List.drop_take];congr 1;omega
  have e:decide (List.drop i (List.take (i+t.length) s)=t)=t.isPrefixOf (s.drop i):=by
   rw[e0,Bool.eq_iff_iff,decide_eq_true_iff,List.isPrefixOf_iff_prefix]
   exact⟨fun h=>h▸List.take_prefix _ _,fun h=>(List.prefix_iff_eq_take.1 h).symm⟩
  simp(disch:=first|omega|assumption) only[ir253,wrap64,h1,h2,h3,h4,h5,go_sem]
  exact hQ _ _ _ _ nofun rfl (by simp[zb,ze,AV.strip,AV.strip1,e])
 ·have h1:¬ ((i:Int)≤(s.length:Int)-(t.length:Int)):=by omega
  have e:t.isPrefixOf (s.drop i)=false:=by
   rw[← Bool.not_eq_true]
   intro h
   have:=Zi _ _ h
   rw[yH] at this
   omega
  simp(disch:=first|omega|assumption) only[ir253,wrap64,h1,go_sem]
  exact hQ _ _ _ _ nofun rfl (by simp[zb,ze,AV.strip,AV.strip1,e])
def zoo (n:Nat) (x:Option (List UInt8×List UInt8)):AV:=match x with
 | some (raw,t)=>.tup [.str (yv raw),.int .i64 ((n-t.length:Nat):Int),.bool true]
 | none=>.tup [.str [],.int .i64 0,.bool false]
theorem zoW (s:List UInt8) (i0:Nat) (hi0:i0≤s.length) (hs:s.length≤ZQ):zr Tryz.prog 255 [.str s,.int .i64 i0] (zoo s.length (Zl (s.length-i0+1) [] (s.drop i0))):=by
 refine zr.go ir255 ck255 (Al4 _) fun KP Q hQ=>?_
 have hsl:s.length≤Lim:=by simp only[ZQ] at hs;simp only[Lim];omega
 simp only[ZQ] at hs
 obtain⟨R,hR⟩:∃ R,Zl (s.length-i0+1) [] (s.drop i0)=R:=⟨_,rfl⟩
 rw[hR] at hQ
 simp(disch:=first|omega|assumption) only[ir255,go_sem]
 refine zI (fun x:List UInt8×Nat=>[(1,.int .i64 x.2),(7,.str x.1)]) (fun x H=>x.2≤s.length∧x.1.length≤x.2∧Zl ((s.drop x.2).length+1) x.1 (s.drop x.2)=R) (fun x=>s.length-x.2) ([],i0) (by simp(disch:=first|omega|assumption) only[go_sem]) ⟨hi0,Nat.zero_le _,by rw[← hR];simp only[yH]⟩ ?_
 rintro⟨raw,i⟩ H J ⟨hi,hrl,hrw⟩ hJ
 simp only at hi hrl hrw
 by_cases hge:s.length≤i
 ·obtain rfl:i=s.length:=by omega
  rw[List.drop_length] at hrw
  have e:R=none:=by rw[← hrw];rfl
  have h1:¬ ((s.length:Int)<(s.length:Int)):=by omega
  simp(disch:=first|omega|assumption) only[h1,go_sem]
  exact hQ _ _ _ _ nofun rfl (by simp[zb,ze,AV.strip,AV.strip1,zoo,e])
 have hle:((i:Int)≤(s.length:Int))=True:=eq_true (by omega)
 have hlt:((i:Int)<(s.length:Int))=True:=eq_true (by omega)
 obtain⟨c,r,hd⟩:∃ c r,s.drop i=c::r:=by
  cases hx:s.drop i with
  | nil=>have:=congrArg List.length hx;simp at this;omega
  | cons c r=>exact⟨c,r,rfl⟩
 have hdl:s.length=i+(r.length+1):=by have:=congrArg List.length hd;simp at this;omega
 rw[hd] at hrw
 simp only[Zl] at hrw
 simp(disch:=first|omega|assumption) only[hlt,go_sem]
 refine zd (zd1 s i [34,34,34] hi hsl (by decide)) ?_
 rw[hd]
 by_cases p1:yr.isPrefixOf (c::r)=true
 ·have p1':([34,34,34]:List UInt8).isPrefixOf (c::r)=true:=p1
  have hl3:=Zi _ _ p1
  simp only[yr,Al2,Al3] at hl3
  rw[if_pos p1] at hrw
  simp(disch:=first|omega|assumption) only[p1',go_sem]
  refine zd (zqi raw (by omega)) ?_
  have e:((s.length-(r.length-2):Nat):Int)=(i:Int)+3:=by omega
  simp(disch:=first|omega|assumption) only[wrap64,go_sem]
  exact hQ _ _ _ _ nofun rfl (by simp[zb,ze,AV.strip,AV.strip1,zoo,← hrw,e])
 have p1':([34,34,34]:List UInt8).isPrefixOf (c::r)=false:=Bool.eq_false_iff.2 p1
 rw[if_neg p1] at hrw
 simp(disch:=first|omega|assumption) only[p1',go_sem]
 refine zd (zd1 s i [92,34,34,34] hi hsl (by decide)) ?_
 rw[hd]
 by_cases p2:zgi.isPrefixOf (c::r)=true
 ·have p2':([92,34,34,34]:List UInt8).isPrefixOf (c::r)=true:=p2
  have hl4:=Zi _ _ p2
  simp only[zgi,Al2,Al3] at hl4
  rw[if_pos p2] at hrw
  have hdr:s.drop (i+4)=r.drop 3:=by rw[← List.drop_drop,hd];rfl
  simp(disch:=first|omega|assumption) only[p2',wrap64,go_sem]
  refine goJ (hJ (raw++yr,i+4) _ (by simp only;omega) ⟨by simp only;omega,by simp[yr];omega,?_⟩) (by simp(disch:=first|omega|assumption) only[yr,Int.natCast_add,go_sem])
  simp only
  rw[hdr,← hrw]
  exact zav _ _ _ _ (Nat.lt_succ_self _) (by simp;omega)
 ·have p2':([92,34,34,34]:List UInt8).isPrefixOf (c::r)=false:=Bool.eq_false_iff.2 p2
  rw[if_neg p2] at hrw
  have hdr:s.drop (i+1)=r:=by rw[← List.drop_drop,hd];rfl
  have hi1:((i:Int)≤(i:Int)+1)=True:=eq_true (by omega)
  have hi2:((i:Int)+1≤(s.length:Int))=True:=eq_true (by omega)
  have hi3:((i:Int)+1).toNat=i+1:=by omega
  have ht1:List.drop i (List.take (i+1) s)=[c]:=by rw[List.drop_take,hd,Nat.add_sub_cancel_left];rfl
  simp(disch:=first|omega|assumption) only[p2',wrap64,hi1,hi2,hi3,ht1,go_sem]
  refine goJ (hJ (raw++[c],i+1) _ (by simp only;omega) ⟨by simp only;omega,by simp;omega,?_⟩) (by simp(disch:=first|omega|assumption) only[Int.natCast_add,go_sem])
  simp only
  rw[hdr,← hrw]
  rfl
def okC (c:Int):Bool:=decide (c=9)||(decide (c=10)||(decide (c=13)||(decide (32≤c)&&decide (c≤65535))))
theorem zqd (c:Nat):okC (c:Int)=zbe c:=by
 have h:∀ k:Nat,decide ((c:Int)=(k:Int))=decide (c=k):=fun k=>by rw[decide_eq_decide];omega
 have h1:=h 9
 have h2:=h 10
 have h3:=h 13
 have h4:decide ((32:Int)≤(c:Int))=decide (32≤c):=by rw[decide_eq_decide];omega
 have h5:decide ((c:Int)≤65535)=decide (c≤65535):=by rw[decide_eq_decide];omega
 unfold okC zbe
 rw[← h1,← h2,← h3,← h4,← h5];rfl
theorem zh8:∀(n:Nat) (s:List UInt8),s.length≤n→zhj n s=(validD s&&(zaE n s).all okC)
 | 0,s,h=>by
  obtain rfl:s=[]:=zmU.1 (by omega)
  rfl
 | n+1,s,h=>by
  by_cases hne:s=[]
  ·subst hne;rfl
  ·have hl:0<s.length:=List.length_pos_iff.2 hne
   rw[zhj,if_neg hne,zaE,if_neg hne,List.all_cons,zqd]
   by_cases hk:(ym s).2=0
   ·rw[zh2 hne hk,hk];rfl
   ·obtain⟨g1,g2⟩:=zdO hne hk
    rw[zh8 n _ (by rw[yH];omega),← g1]
    have:decide (0<(ym s).2)=true:=decide_eq_true (by omega)
    rw[this,Bool.true_and]
    cases validD s<;>cases zbe (ym s).1<;>rfl
theorem zg6:∀(n:Nat) (s:List UInt8),(zaE n s).length≤n
 | 0,_=>Al4 _
 | n+1,s=>by
  rw[zaE]
  split
  ·exact Nat.zero_le _
  ·have:=zg6 n (s.drop (ym s).2);simp only[Al2];omega
theorem zkX (s:List UInt8):(zcA s).length≤s.length:=by
 unfold zcA;split
 ·exact zg6 _ _
 ·exact Nat.zero_le _
theorem zlk (s:List UInt8):zdT s=(validD s&&(zcA s).all okC):=by
 unfold zdT zcA
 rw[zh8 _ _ (Al4 _)]
 cases validD s<;>rfl
theorem zpu (s:List UInt8) (hs:s.length≤Lim):zr Tryz.prog 166 [.str s] (.bool (zdT s)):=by
 refine zr.go ir166 ck166 (Al4 _) fun KP Q hQ=>?_
 have hs':=hs
 simp only[Lim] at hs
 simp(disch:=first|omega|assumption) only[ir166,go_sem]
 refine zd (zsA s hs') ?_
 rw[zlk] at hQ
 have hlen:=zkX s
 generalize zcA s=l at *
 have hcl:=zpe l
 simp(disch:=first|omega|assumption) only[go_sem]
 refine zI (fun i:Nat=>[(5,.int .i64 i)]) (fun i H=>l.all okC=(l.drop i).all okC∧i≤l.length) (fun i=>l.length-i) 0 (by simp(disch:=first|omega|assumption) only[go_sem]) ⟨by simp,by omega⟩ ?_
 rintro i H J ⟨hn,hle⟩ hJ
 by_cases hlt:i<l.length
 case neg =>
  have hlt':¬ ((i:Int)<l.length):=by omega
  rw[List.drop_of_length_le (by omega)] at hn
  simp(disch:=first|omega|assumption) only[hlt',hcl,go_sem]
  exact hQ _ _ _ _ nofun rfl (by simp[zb,ze,AV.strip,AV.strip1,hn])
 have hlt':((i:Int)<l.length)=True:=eq_true (by omega)
 obtain⟨c,hc⟩:∃ c,l[i]?=some c:=⟨_,Al9 hlt⟩
 have hg:(cZ l).getD i []=[.int .i64 c]:=by simp[cZ,List.getD,hc]
 have hd:l.drop i=c::l.drop (i+1):=by rw[List.drop_eq_getElem_cons hlt];rw[Al9 hlt] at hc;cases hc;rfl
 rw[hd,List.all_cons] at hn
 by_cases h32:c<32
 ·have h65:¬ (65535<c):=by omega
  by_cases h9:c=9
  ·have hk:okC c=true:=by rw[h9];rfl
   rw[hk,Bool.true_and] at hn
   simp(disch:=first|omega|assumption) only[hlt',hcl,hg,h32,h9,h65,go_sem]
   exact goJ (hJ (i+1) _ (by omega) ⟨hn,by omega⟩) (by simp(disch:=first|omega|assumption) only[wrap64,Int.natCast_add,go_sem])
  by_cases h10:c=10
  ·have hk:okC c=true:=by rw[h10];rfl
   rw[hk,Bool.true_and] at hn
   simp(disch:=first|omega|assumption) only[hlt',hcl,hg,h32,h9,h10,h65,go_sem]
   exact goJ (hJ (i+1) _ (by omega) ⟨hn,by omega⟩) (by simp(disch:=first|omega|assumption) only[wrap64,Int.natCast_add,go_sem])
  by_cases h13:c=13
  ·have hk:okC c=true:=by rw[h13];rfl
   rw[hk,Bool.true_and] at hn
   simp(disch:=first|omega|assumption) only[hlt',hcl,hg,h32,h9,h10,h13,h65,go_sem]
   exact goJ (hJ (i+1) _ (by omega) ⟨hn,by omega⟩) (by simp(disch:=first|omega|assumption) only[wrap64,Int.natCast_add,go_sem])
  have hk:okC c=false:=by
   have h:¬ (32≤c):=by omega
   simp[okC,h9,h10,h13,h]
  rw[hk,Bool.false_and] at hn
  rw[hn,Bool.and_false] at hQ
  simp(disch:=first|omega|assumption) only[hlt',hcl,hg,h32,h9,h10,h13,go_sem]
  exact hQ _ _ _ _ nofun rfl (by simp[zb,ze,AV.strip,AV.strip1])
 ·by_cases h65:65535<c
  ·have hk:okC c=false:=by
    have h1:¬ (c=9):=by omega
    have h2:¬ (c=10):=by omega
    have h3:¬ (c=13):=by omega
    have h4:¬ (c≤65535):=by omega
    simp[okC,h1,h2,h3,h4]
   rw[hk,Bool.false_and] at hn
   rw[hn,Bool.and_false] at hQ
   simp(disch:=first|omega|assumption) only[hlt',hcl,hg,h32,h65,go_sem]
   exact hQ _ _ _ _ nofun rfl (by simp[zb,ze,AV.strip,AV.strip1])
  ·have hk:okC c=true:=by
    have h3:32≤c:=by omega
    have h4:c≤65535:=by omega
    simp[okC,h3,h4]
   rw[hk,Bool.true_and] at hn
   simp(disch:=first|omega|assumption) only[hlt',hcl,hg,h32,h65,go_sem]
   exact goJ (hJ (i+1) _ (by omega) ⟨hn,by omega⟩) (by simp(disch:=first|omega|assumption) only[wrap64,Int.natCast_add,go_sem])
def SkQ (s:List UInt8) (i j:Nat):Prop:=i≤j∧j≤s.length∧(∀ l,Ys l (s.drop i)=Ys l (s.drop j))∧(validD (s.drop i)=true→validD (s.drop j)=true)
theorem SkQ.refl {s:List UInt8} {i:Nat} (h:i≤s.length):SkQ s i i:=⟨Al4 _,h,fun _=>rfl,fun h=>h⟩
theorem SkQ.gap {s:List UInt8} {i j:Nat} (h:SkQ s i j) (hj:j<s.length) (hg:Z2 (s.drop j)≠0):SkQ s i (j+Z2 (s.drop j)):=by
 have h1:=zdY (s.drop j)
 rw[yH] at h1
 have hne:s.drop j≠[]:=fun e=>by have:=congrArg List.length e;simp at this;omega
 refine⟨by have:=h.1;omega,by omega,fun l=>?_,fun hv=>?_⟩
 ·rw[h.2.2.1 l,zhR hne hg,List.drop_drop]
 ·rw[← List.drop_drop];exact zjo (h.2.2.2 hv)
theorem zq0 (s:List UInt8) (i0:Nat) (hi0:i0≤s.length) (hs:s.length≤ZQ) (H:za) :
  zf Tryz.prog 167 [.str s,.int .i64 i0] H (fun e H'=>∃ v,e=.ret v∧((∃ j,v=.int .i64 (j:Nat)∧SkQ s i0 j∧(j<s.length→Z2 (s.drop j)=0))∧H'=H)):=by
 refine zf.go ir167 ck167 (Al4 _) fun KP Q hQ=>?_
 have hsl:s.length≤Lim:=by simp only[ZQ] at hs;simp only[Lim];omega
 simp only[ZQ] at hs
 simp(disch:=first|omega|assumption) only[ir167,go_sem]
 refine zI (fun i:Nat=>[(1,.int .i64 i)]) (fun i H'=>SkQ s i0 i∧H'=H) (fun i=>s.length-i) i0 (by simp(disch:=first|omega|assumption) only[go_sem]) ⟨SkQ.refl hi0,rfl⟩ ?_
 rintro i H' J ⟨hk,hH⟩ hJ
 subst hH
 rcases yJ s i with ⟨h1,h2⟩|⟨hi,hd⟩
 ·have hlt:¬ ((i:Int)<(s.length:Int)):=by omega
  simp(disch:=first|omega|assumption) only[hlt,go_sem]
  exact hQ _ _ _ H' [_] nofun rfl (Low.refl _) ⟨⟨i,rfl,hk,fun h=>absurd h (by omega)⟩,rfl⟩
 have hlt:((i:Int)<(s.length:Int))=True:=eq_true (by omega)
 have hb:=zd1 s i [239,187,191] (by omega) hsl (by decide)
 obtain⟨c,hg⟩:∃ c,s.getD i 0=c:=⟨_,rfl⟩
 rw[hg] at hd
 have hgl:=zdY (s.drop i)
 rw[yH] at hgl
 have nat:∀ k:Nat,(c.toNat:Int)=k→k<256→c=UInt8.ofNat k:=fun k h hk=>UInt8.toNat_inj.1 (by rw[UInt8.toNat_ofNat'];omega)
 have one:(c=9∨c=10∨c=13∨c=32∨c=44)→SkQ s i0 (i+1):=fun hw=>by
  have e:Z2 (s.drop i)=1:=by rw[hd,ZU,if_pos hw]
  have:=hk.gap hi (by rw[e];decide)
  rw[e] at this;exact this
 by_cases g9:(c.toNat:Int)=9
 ·have hw:=one (.inl (nat 9 g9 (by decide)))
  simp(disch:=first|omega|assumption) only[hlt,hg,g9,go_sem]
  exact goJ (hJ (i+1) _ (by omega) ⟨hw,rfl⟩) (by simp(disch:=first|omega|assumption) only[wrap64,Int.natCast_add,go_sem])
 by_cases g10:(c.toNat:Int)=10
 ·have hw:=one (.inr (.inl (nat 10 g10 (by decide))))
  simp(disch:=first|omega|assumption) only[hlt,hg,g9,g10,go_sem]
  exact goJ (hJ (i+1) _ (by omega) ⟨hw,rfl⟩) (by simp(disch:=first|omega|assumption) only[wrap64,Int.natCast_add,go_sem])
 by_cases g13:(c.toNat:Int)=13
 ·have hw:=one (.inr (.inr (.inl (nat 13 g13 (by decide)))))
  simp(disch:=first|omega|assumption) only[hlt,hg,g9,g10,g13,go_sem]
  exact goJ (hJ (i+1) _ (by omega) ⟨hw,rfl⟩) (by simp(disch:=first|omega|assumption) only[wrap64,Int.natCast_add,go_sem])
 by_cases g32:(c.toNat:Int)=32
 ·have hw:=one (.inr (.inr (.inr (.inl (nat 32 g32 (by decide))))))
  simp(disch:=first|omega|assumption) only[hlt,hg,g9,g10,g13,g32,go_sem]
  exact goJ (hJ (i+1) _ (by omega) ⟨hw,rfl⟩) (by simp(disch:=first|omega|assumption) only[wrap64,Int.natCast_add,go_sem])
 by_cases g44:(c.toNat:Int)=44
 ·have hw:=one (.inr (.inr (.inr (.inr (nat 44 g44 (by decide))))))
  simp(disch:=first|omega|assumption) only[hlt,hg,g9,g10,g13,g32,g44,go_sem]
  exact goJ (hJ (i+1) _ (by omega) ⟨hw,rfl⟩) (by simp(disch:=first|omega|assumption) only[wrap64,Int.natCast_add,go_sem])
 have hw:¬ (c=9∨c=10∨c=13∨c=32∨c=44):=by
  rintro(h|h|h|h|h)<;>subst h<;>first|exact g9 rfl|exact g10 rfl|exact g13 rfl|exact g32 rfl|exact g44 rfl
 simp(disch:=first|omega|assumption) only[hlt,hg,g9,g10,g13,g32,g44,go_sem]
 refine zd hb ?_
 rw[hd]
 by_cases hp:([239,187,191]:List UInt8).isPrefixOf (c::s.drop (i+1))=true
 ·have e:Z2 (s.drop i)=3:=by rw[hd,ZU,if_neg hw];exact if_pos hp
  have hq:=hk.gap hi (by rw[e];decide)
  rw[e] at hq hgl
  simp(disch:=first|omega|assumption) only[hp,go_sem]
  exact goJ (hJ (i+3) _ (by omega) ⟨hq,rfl⟩) (by simp(disch:=first|omega|assumption) only[wrap64,Int.natCast_add,go_sem])
 have hp':([239,187,191]:List UInt8).isPrefixOf (c::s.drop (i+1))=false:=Bool.eq_false_iff.2 hp
 by_cases g35:(c.toNat:Int)=35
 ·have hc:c=35:=nat 35 g35 (by decide)
  have e:Z2 (s.drop i)=((s.drop i).takeWhile yu).length:=by
   rw[hd,ZU,if_neg hw,if_neg (show ¬ (zit.isPrefixOf _=true) from hp),if_pos hc,List.takeWhile_cons,hc,if_pos (show yu 35=true from rfl)]
   simp only[Al2];omega
  have e1:0<Z2 (s.drop i):=by rw[hd,ZU,if_neg hw,if_neg (show ¬ (zit.isPrefixOf _=true) from hp),if_pos hc];omega
  have hq:=hk.gap hi (by omega)
  simp(disch:=first|omega|assumption) only[hp',hlt,hg,g35,go_sem]
  refine zI (fun j:Nat=>[(1,.int .i64 j)]) (fun j H2=>H2=H'∧i≤j∧j≤s.length∧Z2 (s.drop i)=(j-i)+((s.drop j).takeWhile yu).length) (fun j=>s.length-j) i (by simp(disch:=first|omega|assumption) only[go_sem]) ⟨rfl,Al4 _,by omega,by rw[e];omega⟩ ?_
  rintro j H2 J2 ⟨hH,hij,hjs,hj⟩ hJ2
  subst hH
  have out:((s.drop j).takeWhile yu).length=0→J ((ZF _ [(1,.int .i64 (j:Int))]).keep [0,1]) H2:=fun h0=>by
   have ej:i+Z2 (s.drop i)=j:=by omega
   rw[ej] at hq
   exact hJ j _ (by omega) ⟨hq,rfl⟩
  rcases yJ s j with ⟨h1,h2⟩|⟨hj1,hd1⟩
  ·have hl2:¬ ((j:Int)<(s.length:Int)):=by omega
   simp(disch:=first|omega|assumption) only[hl2,go_sem]
   exact goJ (out (by rw[h1];rfl)) (by simp(disch:=first|omega|assumption) only[go_sem])
  have hl2:((j:Int)<(s.length:Int))=True:=eq_true (by omega)
  obtain⟨d,hg1⟩:∃ d,s.getD j 0=d:=⟨_,rfl⟩
  rw[hg1] at hd1
  have natd:∀ k:Nat,(d.toNat:Int)=k→k<256→d=UInt8.ofNat k:=fun k h hk=>UInt8.toNat_inj.1 (by rw[UInt8.toNat_ofNat'];omega)
  by_cases k10:(d.toNat:Int)=10
  ·have hn:yu d=false:=by rw[natd 10 k10 (by decide)];rfl
   simp(disch:=first|omega|assumption) only[hl2,hg1,k10,go_sem]
   exact goJ (out (by rw[hd1,List.takeWhile_cons,hn];rfl)) (by simp(disch:=first|omega|assumption) only[go_sem])
  by_cases k13:(d.toNat:Int)=13
  ·have hn:yu d=false:=by rw[natd 13 k13 (by decide)];rfl
   simp(disch:=first|omega|assumption) only[hl2,hg1,k10,k13,go_sem]
   exact goJ (out (by rw[hd1,List.takeWhile_cons,hn];rfl)) (by simp(disch:=first|omega|assumption) only[go_sem])
  have hn:yu d=true:=by
   unfold yu
   have h1:d≠10:=fun e=>k10 (by rw[e];rfl)
   have h2:d≠13:=fun e=>k13 (by rw[e];rfl)
   simp[h1,h2]
  rw[hd1,List.takeWhile_cons,hn,if_pos rfl,Al2] at hj
  simp(disch:=first|omega|assumption) only[hl2,hg1,k10,k13,go_sem]
  exact goJ (hJ2 (j+1) _ (by omega) ⟨rfl,by omega,by omega,by omega⟩) (by simp(disch:=first|omega|assumption) only[wrap64,Int.natCast_add,go_sem])
 ·have e:Z2 (s.drop i)=0:=by
   rw[hd,ZU,if_neg hw,if_neg (show ¬ (zit.isPrefixOf _=true) from hp),if_neg (fun h=>g35 (by rw[h];rfl))]
  simp(disch:=first|omega|assumption) only[hp',hlt,hg,g35,go_sem]
  exact hQ _ _ _ H' [_] nofun rfl (Low.refl _) ⟨⟨i,rfl,hk,fun _=>e⟩,rfl⟩
def NxQ (s:List UInt8) (i:Nat) (v:AV):Prop:=match y1 (s.drop i) with
 | some (x,t)=>v=.tup [yl x,.int .i64 ((s.length-t.length:Nat):Int),.bool true]
 | none=>∃(x:Tok) (n:Int),v=.tup [yl x,.int .i64 n,.bool false]
theorem NxQ.some {s t:List UInt8} {i:Nat} {x:Tok} {n:Int} (h:y1 (s.drop i)=some (x,t)) (hn:n=((s.length-t.length:Nat):Int)):NxQ s i (.tup [yl x,.int .i64 n,.bool true]):=by
 unfold NxQ;rw[h,hn]
theorem NxQ.none {s:List UInt8} {i:Nat} {x:Tok} {n:Int} (h:y1 (s.drop i)=.none):NxQ s i (.tup [yl x,.int .i64 n,.bool false]):=by
 unfold NxQ;rw[h];exact⟨x,n,rfl⟩
theorem yY {A H:za} {b:Nat} {o:AObj} (h:Sub A H) (hb:A b=none):Sub A (H.upd b o):=fun c x hc=>by
 rw[upd_ne (fun e=>by rw[e,hb] at hc;cases hc)];exact h c x hc
set_option maxHeartbeats 2000000 in
theorem zsB (s:List UInt8) (i:Nat) (hi:i<s.length) (hv:validD (s.drop i)=true) (hs:s.length≤ZQ) (H:za) :
  zf Tryz.prog 168 [.str s,.int .i64 i] H (fun e H'=>∃ v,e=.ret v∧(NxQ s i v∧H'=H)):=by
 refine zf.go ir168 ck168 (Al4 _) fun KP Q hQ=>?_
 have hsl:s.length≤Lim:=by simp only[ZQ] at hs;simp only[Lim];omega
 have hsq:=hs
 simp only[ZQ] at hs
 obtain⟨c,hg⟩:∃ c,s.getD i 0=c:=⟨_,rfl⟩
 obtain⟨r,hd⟩:∃ r,s.drop i=c::r:=by
  rcases yJ s i with ⟨h1,h2⟩|⟨h1,h2⟩
  ·omega
  ·exact⟨_,by rw[h2,hg]⟩
 have hdl:s.length=i+(r.length+1):=by have:=congrArg List.length hd;rw[yH,Al2] at this;omega
 have hd1:s.drop (i+1)=r:=by rw[← List.drop_drop,hd];rfl
 have hd3:s.drop (i+3)=r.drop 2:=by rw[← List.drop_drop,hd];rfl
 have hlt:((i:Int)<(s.length:Int))=True:=eq_true (by omega)
 have hle:((i:Int)≤(s.length:Int))=True:=eq_true (by omega)
 have hle1:((i:Int)+1≤(s.length:Int))=True:=eq_true (by omega)
 have ot:y1 (s.drop i)=_:=(congrArg y1 hd).trans (zfb c r)
 have hb1:=zd1 s i [46,46,46] (by omega) hsl (by decide)
 have hb2:=zd1 s i [34,34,34] (by omega) hsl (by decide)
 rw[hd] at hb1 hb2
 have nat:∀ k:Nat,(c.toNat:Int)=k→k<256→c=UInt8.ofNat k:=fun k h hk=>UInt8.toNat_inj.1 (by rw[UInt8.toNat_ofNat'];omega)
 simp(disch:=first|omega|assumption) only[ir168,go_sem]
 refine zh fun b4 hb4=>?_
 simp(disch:=first|omega|assumption) only[go_sem]
 refine zh fun b7 hb7=>?_
 have h74:b7≠b4:=fun e=>by subst e;rw[upd_same] at hb7;cases hb7
 have hb7H:H b7=.none:=by rw[upd_ne h74] at hb7;exact hb7
 have h47:=Ne.symm h74
 simp(disch:=first|omega|assumption) only[h74,h47,go_sem]
 refine zd hb1 ?_
 by_cases c34:c=34
 ·-- a quote
  have p1:([46,46,46]:List UInt8).isPrefixOf (c::r)=false:=by rw[c34];rfl
  have p1':¬ (Yq.isPrefixOf (c::r)=true):=by rw[c34];exact Bool.eq_false_iff.1 rfl
  have hix:¬ ((0:Int)≤Lib.indexByte zab c):=by rw[c34];decide
  simp(disch:=first|omega|assumption) only[p1,hlt,hg,go_sem]
  refine zd (zkN zab c (by decide)) ?_
  simp(disch:=first|omega|assumption) only[hix,go_sem]
  refine zd hb2 ?_
  by_cases p2:([34,34,34]:List UInt8).isPrefixOf (c::r)=true
  ·have hl3:=Zi _ _ p2
   simp only[Al2,Al3] at hl3
   have hbl:=zoW s (i+3) (by omega) hsq
   rw[hd3,show ((i+3:Nat):Int)=(i:Int)+3 by omega] at hbl
   have ef:Zl (s.length-(i+3)+1) [] (r.drop 2)=Zl (r.length+1) [] (r.drop 2):=zav _ _ _ _ (by rw[yH];omega) (by rw[yH];omega)
   rw[ef] at hbl
   have e1:y1 (s.drop i)=(Zl (r.length+1) [] (r.drop 2)).map fun x=>(⟨5,yv x.1⟩,x.2):=by rw[ot,if_pos (show yr.isPrefixOf (c::r)=true from p2)]
   simp(disch:=first|omega|assumption) only[p2,wrap64,go_sem]
   refine zd hbl ?_
   cases hx:Zl (r.length+1) [] (r.drop 2) with
   | none =>
    rw[hx] at e1
    simp(disch:=first|omega|assumption) only[zoo,h74,h47,go_sem]
    refine hQ _ _ _ H [(yl ⟨5,[]⟩),(.int .i64 0),(.bool false)] nofun (by simp(disch:=first|omega|assumption) only[ir168,zo,zL,yl,go_sem]) (Low.of_sub (by repeat (first|exact Zq _|refine yY ?_ (by assumption)))) ⟨?_,rfl⟩
    exact NxQ.none e1
   | some x =>
    obtain⟨raw,t⟩:=x
    rw[hx] at e1
    simp(disch:=first|omega|assumption) only[zoo,h74,h47,go_sem]
    refine hQ _ _ _ H [(yl ⟨5,yv raw⟩),(.int .i64 ((s.length-t.length:Nat):Int)),(.bool true)] nofun (by simp(disch:=first|omega|assumption) only[ir168,zo,zL,yl,go_sem]) (Low.of_sub (by repeat (first|exact Zq _|refine yY ?_ (by assumption)))) ⟨?_,rfl⟩
    exact NxQ.some e1 rfl
  ·have p2':([34,34,34]:List UInt8).isPrefixOf (c::r)=false:=Bool.eq_false_iff.2 p2
   have hc:(c.toNat:Int)=34:=by rw[c34];rfl
   have hvr:validD r=true:=by rw[hd,c34] at hv;exact Yj (by decide) hv
   have hqu:=zpq s (i+1) (by omega) (by rw[hd1];exact hvr) hsq
   rw[hd1,show ((i+1:Nat):Int)=(i:Int)+1 by omega] at hqu
   have e1:y1 (s.drop i)=(ZL yM r).map fun x=>(⟨5,x.1⟩,x.2):=by rw[ot,if_neg (show ¬ (yr.isPrefixOf (c::r)=true) from p2),if_pos c34]
   simp(disch:=first|omega|assumption) only[p2',hlt,hg,hc,wrap64,go_sem]
   refine zd hqu ?_
   cases hx:ZL yM r with
   | none =>
    rw[hx] at e1
    simp(disch:=first|omega|assumption) only[zew,h74,h47,go_sem]
    refine hQ _ _ _ H [(yl ⟨5,[]⟩),(.int .i64 0),(.bool false)] nofun (by simp(disch:=first|omega|assumption) only[ir168,zo,zL,yl,go_sem]) (Low.of_sub (by repeat (first|exact Zq _|refine yY ?_ (by assumption)))) ⟨?_,rfl⟩
    exact NxQ.none e1
   | some x =>
    obtain⟨b,t⟩:=x
    rw[hx] at e1
    simp(disch:=first|omega|assumption) only[zew,h74,h47,go_sem]
    refine hQ _ _ _ H [(yl ⟨5,b⟩),(.int .i64 ((s.length-t.length:Nat):Int)),(.bool true)] nofun (by simp(disch:=first|omega|assumption) only[ir168,zo,zL,yl,go_sem]) (Low.of_sub (by repeat (first|exact Zq _|refine yY ?_ (by assumption)))) ⟨?_,rfl⟩
    exact NxQ.some e1 rfl
 have g34:¬ ((c.toNat:Int)=34):=fun e=>c34 (nat 34 e (by decide))
 have p2':([34,34,34]:List UInt8).isPrefixOf (c::r)=false:=by
  rw[← Bool.not_eq_true]
  intro h
  simp only[List.isPrefixOf,Al0,beq_iff_eq] at h
  exact c34 h.1.symm
 have p2:¬ (yr.isPrefixOf (c::r)=true):=by rw[show yr=[34,34,34] from rfl,p2'];decide
 rw[if_neg p2,if_neg c34] at ot
 by_cases p1:([46,46,46]:List UInt8).isPrefixOf (c::r)=true
 ·have hl3:=Zi _ _ p1
  simp only[Al2,Al3] at hl3
  rw[if_pos (show Yq.isPrefixOf (c::r)=true from p1)] at ot
  simp(disch:=first|omega|assumption) only[p1,wrap64,go_sem]
  refine hQ _ _ _ H [(yl ⟨1,[46,46,46]⟩),(.int .i64 ((i:Int)+3)),(.bool true)] nofun (by simp(disch:=first|omega|assumption) only[ir168,zo,zL,yl,go_sem]) (Low.of_sub (by repeat (first|exact Zq _|refine yY ?_ (by assumption)))) ⟨?_,rfl⟩
  exact NxQ.some (x:=⟨1,Yq⟩) ot (by rw[yH];omega)
 have p1':([46,46,46]:List UInt8).isPrefixOf (c::r)=false:=Bool.eq_false_iff.2 p1
 rw[if_neg (show ¬ (Yq.isPrefixOf (c::r)=true) from p1)] at ot
 simp(disch:=first|omega|assumption) only[p1',hlt,hg,go_sem]
 refine zd (zkN zab c (by decide)) ?_
 by_cases hix:(0:Int)≤Lib.indexByte zab c
 ·rw[if_pos hix] at ot
  have ht1:List.drop i (List.take (i+1) s)=[c]:=by rw[List.drop_take,hd,Nat.add_sub_cancel_left];rfl
  have hi1:((i:Int)≤(i:Int)+1)=True:=eq_true (by omega)
  have hi3:((i:Int)+1).toNat=i+1:=by omega
  simp(disch:=first|omega|assumption) only[hix,wrap64,hi1,hle1,hi3,ht1,go_sem]
  refine hQ _ _ _ H [(yl ⟨1,[c]⟩),(.int .i64 ((i:Int)+1)),(.bool true)] nofun (by simp(disch:=first|omega|assumption) only[ir168,zo,zL,yl,go_sem]) (Low.of_sub (by repeat (first|exact Zq _|refine yY ?_ (by assumption)))) ⟨?_,rfl⟩
  exact NxQ.some ot (by omega)
 rw[if_neg hix] at ot
 simp(disch:=first|omega|assumption) only[hix,go_sem]
 refine zd hb2 ?_
 simp(disch:=first|omega|assumption) only[p2',hlt,hg,g34,go_sem]
 refine zd (ziA c) ?_
 cases hL:isL c with
 | true =>
  rw[if_pos hL] at ot
  have hwl:=zd2 (s.drop i)
  rw[yH] at hwl
  rw[← hd] at ot
  simp(disch:=first|omega|assumption) only[go_sem]
  refine zI (fun k:Nat=>[(14,.int .i64 k)]) (fun k H'=>H'=((H.upd b4 (.cells [.int .i64 0,.str []])).upd b7 (.cells [.int .i64 0,.str []]))∧i≤k∧k≤s.length∧yU (s.drop i)=(k-i)+yU (s.drop k)) (fun k=>s.length-k) i (by simp(disch:=first|omega|assumption) only[go_sem]) ⟨by first|rfl|simp only[Yv],Al4 _,by omega,by omega⟩ ?_
  rintro k H2 J ⟨hH,hik,hks,hk⟩ hJ
  have hb42:H2 b4=some (.cells [.int .i64 0,.str []]):=by rw[hH,upd_ne h47,upd_same]
  have hsub:Sub H H2:=by rw[hH];exact yY (yY (Zq _) hb4) hb7H
  have done:yU (s.drop k)=0→y1 (s.drop i)=some (⟨2,(s.take k).drop i⟩,s.drop k):=fun h0=>by
   have e:i+yU (s.drop i)=k:=by omega
   rw[ot,List.drop_drop,e]
   congr 3
   rw[List.drop_take];congr 1;omega
  have hik':((i:Int)≤(k:Int))=True:=eq_true (by omega)
  have hks':((k:Int)≤(s.length:Int))=True:=eq_true (by omega)
  rcases yJ s k with ⟨h1,h2⟩|⟨hk1,hdk⟩
  ·have hl2:¬ ((k:Int)<(s.length:Int)):=by omega
   have e1:=done (by rw[h1];rfl)
   simp(disch:=first|omega|assumption) only[hl2,hik',hks',hb42,go_sem]
   refine hQ _ _ _ H [yl ⟨2,(s.take k).drop i⟩,.int .i64 k,.bool true] nofun (by simp(disch:=first|omega|assumption) only[ir168,zo,zL,yl,go_sem]) (Low.of_sub (yY hsub hb4)) ⟨NxQ.some e1 (by rw[yH];omega),rfl⟩
  have hl2:((k:Int)<(s.length:Int))=True:=eq_true (by omega)
  rw[hdk,zdv] at hk
  simp(disch:=first|omega|assumption) only[hl2,go_sem]
  refine zd (ziA (s.getD k 0)) ?_
  cases hl:isL (s.getD k 0) with
  | true =>
   simp only[hl,Bool.true_or,if_true] at hk
   simp(disch:=first|omega|assumption) only[hl,go_sem]
   exact goJ (hJ (k+1) _ (by omega) ⟨hH,by omega,by omega,by omega⟩) (by simp(disch:=first|omega|assumption) only[wrap64,Int.natCast_add,go_sem])
  | false =>
   simp(disch:=first|omega|assumption) only[hl,hl2,go_sem]
   refine zd (zga (s.getD k 0)) ?_
   cases hdg:isD (s.getD k 0) with
   | true =>
    simp only[hl,hdg,Bool.or_true,if_true] at hk
    simp(disch:=first|omega|assumption) only[hdg,go_sem]
    exact goJ (hJ (k+1) _ (by omega) ⟨hH,by omega,by omega,by omega⟩) (by simp(disch:=first|omega|assumption) only[wrap64,Int.natCast_add,go_sem])
   | false =>
    have e1:=done (by rw[hdk,zdv,hl,hdg];rfl)
    simp(disch:=first|omega|assumption) only[hdg,hik',hks',hb42,go_sem]
    refine hQ _ _ _ H [yl ⟨2,(s.take k).drop i⟩,.int .i64 k,.bool true] nofun (by simp(disch:=first|omega|assumption) only[ir168,zo,zL,yl,go_sem]) (Low.of_sub (yY hsub hb4)) ⟨NxQ.some e1 (by rw[yH];omega),rfl⟩
 | false =>
  rw[if_neg (by rw[hL];decide)] at ot
  rw[← hd] at ot
  have hul:(s.drop i).length≤Lim:=by rw[yH];omega
  have hnr:=zn6 (s.drop i) hul
  have hnl:=zcq (s.drop i)
  rw[yH] at hnl
  have htl:List.drop i (List.take s.length s)=s.drop i:=by rw[List.take_length]
  simp(disch:=first|omega|assumption) only[hle,htl,go_sem]
  refine zd hnr ?_
  generalize hnn:(yx (s.drop i)).1=n at *
  generalize hkk:(yx (s.drop i)).2=k at *
  by_cases hn0:n=0
  ·have hz:((n:Int)=0)=True:=eq_true (by omega)
   rw[if_pos hn0] at ot
   simp(disch:=first|omega|assumption) only[hz,h74,h47,go_sem]
   refine hQ _ _ _ H [(yl ⟨0,[]⟩),(.int .i64 0),(.bool false)] nofun (by simp(disch:=first|omega|assumption) only[ir168,zo,zL,yl,go_sem]) (Low.of_sub (by repeat (first|exact Zq _|refine yY ?_ (by assumption)))) ⟨?_,rfl⟩
   exact NxQ.none ot
  have hz:¬ ((n:Int)=0):=by omega
  rw[if_neg hn0] at ot
  have hw:IntKind.wrap .i64 ((i:Int)+(n:Int))=((i+n:Nat):Int):=by rw[wrap64 (by omega) (by omega)];omega
  have hin:((i:Int)≤((i+n:Nat):Int))=True:=eq_true (by omega)
  have hns:(((i+n:Nat):Int)≤(s.length:Int))=True:=eq_true (by omega)
  have etk:List.drop i (List.take (i+n) s)=(s.drop i).take n:=by rw[List.drop_take];congr 1;omega
  have edr:(s.drop i).drop n=s.drop (i+n):=by rw[List.drop_drop]
  rw[edr] at ot
  have good:∀ x,y1 (s.drop i)=some (⟨k,(s.drop i).take n⟩,s.drop (i+n))→NxQ s i (.tup [yl ⟨k,(s.drop i).take n⟩,.int .i64 x,.bool true])∨x≠((i+n:Nat):Int):=fun x h=>by
   by_cases e:x=((i+n:Nat):Int)
   ·exact .inl (NxQ.some h (by rw[e,yH];omega))
   ·exact .inr e
  rcases yJ s (i+n) with ⟨h1,h2⟩|⟨hk1,hdk⟩
  ·have hl2:¬ (((i+n:Nat):Int)<(s.length:Int)):=by omega
   rw[h1] at ot
   have e1:y1 (s.drop i)=some (⟨k,(s.drop i).take n⟩,[]):=ot
   simp(disch:=first|omega|assumption) only[hz,hw,hl2,hin,hns,etk,h74,h47,go_sem]
   refine hQ _ _ _ H [(yl ⟨k,(s.drop i).take n⟩),(.int .i64 ((i+n:Nat):Int)),(.bool true)] nofun (by simp(disch:=first|omega|assumption) only[ir168,zo,zL,yl,go_sem]) (Low.of_sub (by repeat (first|exact Zq _|refine yY ?_ (by assumption)))) ⟨?_,rfl⟩
   exact NxQ.some e1 (by simp;omega)
  have hl2:(((i+n:Nat):Int)<(s.length:Int))=True:=eq_true (by omega)
  obtain⟨d,hgd⟩:∃ d,s.getD (i+n) 0=d:=⟨_,rfl⟩
  rw[hgd] at hdk
  rw[hdk] at ot
  have ha:(d::s.drop (i+n+1)).head?.any (fun d=>isL d||isD d||decide (d=46))=(isL d||isD d||decide (d=46)):=rfl
  rw[ha] at ot
  simp(disch:=first|omega|assumption) only[hz,hw,hl2,hgd,go_sem]
  refine zd (ziA d) ?_
  cases hld:isL d with
  | true =>
   rw[hld] at ot
   have e1:y1 (s.drop i)=.none:=ot
   simp(disch:=first|omega|assumption) only[h74,h47,go_sem]
   refine hQ _ _ _ H [(yl ⟨0,[]⟩),(.int .i64 0),(.bool false)] nofun (by simp(disch:=first|omega|assumption) only[ir168,zo,zL,yl,go_sem]) (Low.of_sub (by repeat (first|exact Zq _|refine yY ?_ (by assumption)))) ⟨?_,rfl⟩
   exact NxQ.none e1
  | false =>
   simp(disch:=first|omega|assumption) only[hl2,hgd,go_sem]
   refine zd (zga d) ?_
   cases hdg:isD d with
   | true =>
    rw[hld,hdg] at ot
    have e1:y1 (s.drop i)=.none:=ot
    simp(disch:=first|omega|assumption) only[h74,h47,go_sem]
    refine hQ _ _ _ H [(yl ⟨0,[]⟩),(.int .i64 0),(.bool false)] nofun (by simp(disch:=first|omega|assumption) only[ir168,zo,zL,yl,go_sem]) (Low.of_sub (by repeat (first|exact Zq _|refine yY ?_ (by assumption)))) ⟨?_,rfl⟩
    exact NxQ.none e1
   | false =>
    by_cases h46:d=46
    ·have g46:((d.toNat:Int)=46)=True:=eq_true (by rw[h46];rfl)
     rw[hld,hdg,h46] at ot
     have e1:y1 (s.drop i)=.none:=ot
     simp(disch:=first|omega|assumption) only[hl2,hgd,g46,h74,h47,go_sem]
     refine hQ _ _ _ H [(yl ⟨0,[]⟩),(.int .i64 0),(.bool false)] nofun (by simp(disch:=first|omega|assumption) only[ir168,zo,zL,yl,go_sem]) (Low.of_sub (by repeat (first|exact Zq _|refine yY ?_ (by assumption)))) ⟨?_,rfl⟩
     exact NxQ.none e1
    ·have g46:¬ ((d.toNat:Int)=46):=fun e=>h46 (UInt8.toNat_inj.1 (by show d.toNat=46;omega))
     rw[hld,hdg,decide_eq_false h46] at ot
     have e1:y1 (s.drop i)=some (⟨k,(s.drop i).take n⟩,d::s.drop (i+n+1)):=ot
     simp(disch:=first|omega|assumption) only[hl2,hgd,g46,hin,hns,etk,h74,h47,go_sem]
     refine hQ _ _ _ H [(yl ⟨k,(s.drop i).take n⟩),(.int .i64 ((i+n:Nat):Int)),(.bool true)] nofun (by simp(disch:=first|omega|assumption) only[ir168,zo,zL,yl,go_sem]) (Low.of_sub (by repeat (first|exact Zq _|refine yY ?_ (by assumption)))) ⟨?_,rfl⟩
     exact NxQ.some e1 (by rw[← hdk,yH];omega)
theorem zp2 (s:List UInt8) (hs:s.length≤ZQ):zr Tryz.prog 93 [.str s] (readA (Zj s)):=by
 refine zr.go ir93 ck93 (Al4 _) fun KP Q hQ=>?_
 have hsq:=hs
 simp only[ZQ] at hs
 by_cases h8:8192<s.length
 ·have g8:((8192:Int)<(s.length:Int))=True:=eq_true (by omega)
  simp(disch:=first|omega|assumption) only[ir93,g8,go_sem]
  exact hQ _ _ _ _ nofun rfl (by simp[zb,ze,AV.strip,AV.strip1,Zj,h8,readA])
 have g8:¬ ((8192:Int)<(s.length:Int)):=by omega
 simp(disch:=first|omega|assumption) only[ir93,g8,go_sem]
 refine zd (zpu s (by simp only[Lim];omega)) ?_
 cases hsb:zdT s with
 | false =>
  simp(disch:=first|omega|assumption) only[go_sem]
  exact hQ _ _ _ _ nofun rfl (by simp[zb,ze,AV.strip,AV.strip1,Zj,h8,hsb,readA])
 | true =>
  have e0:Zj s=Ys [] s:=by unfold Zj Ys;rw[if_neg h8,if_pos hsb]
  have hvs:=zdz _ s (Al4 _) hsb
  rw[e0] at hQ
  simp(disch:=first|omega|assumption) only[go_sem]
  refine zc (zq0 s 0 (Nat.zero_le _) hsq _) fun v H1 ⟨⟨i0,hv,hsk,hgp⟩,hH⟩=>?_
  subst hv;subst hH
  simp(disch:=first|omega|assumption) only[go_sem]
  refine zI (fun x:Own×List Tok×Nat=>[(4,.sl x.1 2 (cKs x.2.1)),(5,.int .i64 x.2.2)]) (fun x H=>x.2.2≤s.length∧x.2.1.length≤x.2.2∧Ys [] s=Ys x.2.1 (s.drop x.2.2)∧validD (s.drop x.2.2)=true∧(x.2.2<s.length→Z2 (s.drop x.2.2)=0)∧OwnS za.emp .nil H x.1 x.2.1.length 2) (fun x=>s.length-x.2.2) (.nil,[],i0) (by simp(disch:=first|omega|assumption) only[cKs,List.map_nil,go_sem]) ⟨hsk.2.1,Nat.zero_le _,by simpa using hsk.2.2.1 [],hsk.2.2.2 (by simpa using hvs),hgp,OwnS.refl rfl⟩ ?_
  rintro⟨o,l,i⟩ H J ⟨hi,hll,hr,hvi,hg0,hso⟩ hJ
  simp only at hi hll hr hvi hg0 hso
  have hcl:=zcQ l
  by_cases hlt:i<s.length
  case neg =>
   have hlt':¬ ((i:Int)<s.length):=by omega
   rw[List.drop_of_length_le (by omega),zij] at hr
   simp(disch:=first|omega|assumption) only[hlt',go_sem]
   exact hQ _ _ _ _ nofun rfl (by simp[zb,ze,AV.strip,AV.strip1,hr,readA,zhB])
  have hlt':((i:Int)<s.length)=True:=eq_true (by omega)
  have hg:=hg0 hlt
  obtain⟨u,hd⟩:∃ u,s.drop i=u:=⟨_,rfl⟩
  have hdl:s.length=i+u.length:=by have:=congrArg List.length hd;rw[yH] at this;omega
  have hne:u≠[]:=fun e=>by rw[e] at hdl;simp at hdl;omega
  simp(disch:=first|omega|assumption) only[hlt',go_sem]
  refine zc (zsB s i hlt hvi hsq _) fun v H1 ⟨hx,hH⟩=>?_
  subst hH
  unfold NxQ at hx
  rw[hd] at hx hr hg hvi
  cases ho:y1 u with
  | none =>
   rw[ho] at hx
   obtain⟨a,n,hx⟩:=hx
   subst hx
   rw[zgX hne hg ho] at hr
   simp(disch:=first|omega|assumption) only[yl,go_sem]
   refine zh fun b1 hb1=>?_
   simp(disch:=first|omega|assumption) only[go_sem]
   exact hQ _ _ _ _ nofun rfl (by simp[zb,ze,AV.strip,AV.strip1,hr,readA])
  | some x =>
   obtain⟨x,t⟩:=x
   rw[ho] at hx
   simp only at hx
   subst hx
   have hlt2:=zc8 ho
   have hsf:=zjm ho
   have hgd:=zig hvi ho
   rw[zgq hne hg ho] at hr
   have hk:s.length-t.length≤s.length:=Nat.sub_le _ _
   have hdt:s.drop (s.length-t.length)=t:=by
    have e:s.length-t.length=i+(u.length-t.length):=by omega
    rw[e,← List.drop_drop,hd,hsf]
   simp(disch:=first|omega|assumption) only[yl,go_sem]
   refine zh fun b1 hb1=>?_
   simp(disch:=first|omega|assumption) only[go_sem]
   refine zE (by rw[hcl];exact(hso.upd hb1).own) (by simp only[hcl,Al2,Al3];omega) (by simp only[hcl,Al2,Al3,maxLen];omega) fun o' H' hs2=>?_
   simp(disch:=first|omega|assumption) only[go_sem]
   refine zc (zq0 s (s.length-t.length) hk hsq _) fun v H3 ⟨⟨j,hv3,hsk3,hgp3⟩,hH3⟩=>?_
   subst hv3;subst hH3
   have hvt:validD (s.drop (s.length-t.length))=true:=by rw[hdt];exact hgd.2
   simp(disch:=first|omega|assumption) only[go_sem]
   refine goJ (hJ (o',l++[x],j) H3 (by simp only;have:=hsk3.1;omega) ⟨hsk3.2.1,by have:=hsk3.1;simp;omega,?_,hsk3.2.2.2 hvt,hgp3,(hso.upd (x:=.cells [.int .i64 x.k,.str x.s]) hb1).trans (by simpa[hcl] using hs2)⟩) (by simp(disch:=first|omega|assumption) only[← zmm,go_sem])
   simp only
   rw[hr,← hsk3.2.2.1,hdt]
end Go.Proofs.YticbbfbpeimkbaaGreatDoor
namespace Go.Proofs.YticbbfbpeimkbaaGreatDoor
open Go.Ab
open Go.Lib
end Go.Proofs.YticbbfbpeimkbaaGreatDoor
namespace Go.Proofs.YticbbfbpeimkbaaGreatDoor
open Go.Ab
theorem GP.low {α:Type} {b:α→Nat} {ok:α→Prop} {c c':Nat} {f:TS→PR α} (h:GP b ok c f) (hc:c'≤c):GP b ok c' f:=fun t a t' e=>by
 have g:=h t a t' e
 have w:=g.w
 exact⟨g.suf,by omega,g.ok⟩
section
variable (L:TS)
end
theorem zmZ {x:Tok} (h:YS x=true):Zh x:=fun hk=>by
 unfold YS at h
 rw[if_neg (by omega),if_neg (by omega),if_pos hk] at h
 simpa using h
def sp89 : ASp := ⟨27, 2, 5, (.reg [] [⟨some 4, none, .alloc [.int .i64 0], []⟩]), (.seq (.reg [] [⟨some 13, none, .mv (.t 6), []⟩, ⟨some 14, none, .bi .neq .i64 (.t 13) (.k (.int .i64 0)), []⟩])
 (.cond (.t 14) (.seq (.reg [] [⟨some 15, none, .mv (.t 6), []⟩, ⟨none, none, .st 1 (.t 4) (.t 15), []⟩])
 (.ret)) (.skip))), [⟨some 16, none, .mkfn 159 [] [(.t 4)], []⟩], 16, (.seq (.reg [] [⟨some 17, none, .mv (.t 5), []⟩, ⟨some 18, none, .bld [.sl .nil 2 [], .int .i64 0, .int .i64 0] [(0, 1, (.t 17))], []⟩, ⟨some 19, none, .box (.t 18), []⟩, ⟨some 7, none, .mv (.t 19), []⟩])
 (.seq (.reg [] [⟨some 20, none, .mv (.t 1), []⟩, ⟨some 21, none, .mv (.t 7), []⟩, ⟨some 22, none, .callv (.t 20) [(.t 21)], []⟩])
 (.seq (.seq (.reg [] [⟨some 23, none, .mv (.t 7), []⟩, ⟨some 24, none, .call 92 [(.t 23)], []⟩])
 (.cond (.t 24) (.reg [] [⟨some 25, none, .mv (.t 7), []⟩, ⟨some 26, none, .call 160 [(.t 25), (.k (.int .i64 2))], []⟩]) (.skip)))
 (.seq (.reg [] [⟨none, none, .st 1 (.t 4) (.k (.int .i64 0)), []⟩])
 (.ret))))), [.c 4 1 false], some (.reg [] [⟨some 9, none, .mv (.t 0), []⟩, ⟨some 10, none, .call 57 [(.t 9)], []⟩, ⟨some 8, none, .mv (.t 10), []⟩, ⟨some 11, none, .ext (.t 8) 0, []⟩, ⟨some 12, none, .ext (.t 8) 1, []⟩, ⟨some 5, none, .mv (.t 11), []⟩, ⟨some 6, none, .mv (.t 12), []⟩])⟩
theorem ckS89:znW Tryz.prog 89 sp89=true:=by kernel_rfl
def df159 : ADfn := ⟨16, 1, 4, [⟨some 1, none, .mv (.t 4), []⟩], (.seq (.reg [] [⟨some 6, none, .mv (.t 1), []⟩, ⟨some 7, none, .tas 186 (.agg [.int .i64 0]) (.t 6), []⟩, ⟨some 5, none, .mv (.t 7), []⟩, ⟨some 8, none, .ext (.t 5) 0, []⟩, ⟨some 9, none, .ext (.t 5) 1, []⟩, ⟨some 2, none, .alloc [.int .i64 0], []⟩, ⟨none, none, .st 1 (.t 2) (.t 8), []⟩, ⟨some 3, none, .mv (.t 9), []⟩])
 (.seq (.reg [] [⟨some 10, none, .mv (.t 3), []⟩])
 (.cond (.t 10) (.reg [] [⟨some 11, none, .fa 0 (.t 2), []⟩, ⟨some 12, none, .ld 1 false (.t 11), []⟩, ⟨none, none, .st 1 (.t 0) (.t 12), []⟩]) (.seq (.reg [] [⟨some 13, none, .mv (.t 1), []⟩, ⟨some 14, none, .ifnil true (.t 13), []⟩])
 (.cond (.t 14) (.reg [] [⟨some 15, none, .mv (.t 1), []⟩, ⟨none, none, .pan (.t 15), []⟩]) (.skip))))))⟩
theorem ckD159:zlc Tryz.prog 159 df159=true:=by kernel_rfl
theorem ze1 {P:Program} {KP:AV→za→Prop} {items:List AItem} {ρ:Env} {H:za} {K:Env→za→Prop} (h:∀ Q:AExit→Env→za→Prop,(∀ ρ' H',K ρ' H'→Q .normal ρ' H')→goI P KP Q items items [] ρ H):yC P KP (YB items) ρ H K :=
 h (fun e ρ H=>match e with|.normal=>K ρ H|_=>True) (fun _ _ h=>h)
theorem zbZ {P:Program} {KP:AV→za→Prop} {c:AC} {ρ:Env} {H:za} {K:AExit→Env→za→Prop} (h:∀(KP':AV→za→Prop) (Q:AExit→Env→za→Prop),(∀ v H',KP v H'→KP' v H')→(∀ e ρ' H',K e ρ' H'→Q e ρ' H')→goC P KP' Q c [] ρ H):awp P KP c K ρ H :=
 h KP K (fun _ _ h=>h) (fun _ _ _ h=>h)
theorem zrM (H:za) (r:Nat) (n:Int):zf Tryz.prog 160 [.ptr r 0,.int .i64 n] H (fun e H'=>match e with|.ret v=>False|.pan v=>v=Za n∧H'=H):=by
 refine zf.goO (R:=fun _ _=>False) (RP:=fun v H'=>v=Za n∧H'=H) ir160 ck160 (Al4 _) fun KP Q hQ hP=>?_
 simp(disch:=first|omega|assumption) only[ir160,go_sem]
 exact hP _ _ H (Low.refl _) ⟨rfl,rfl⟩
theorem zsX {H:za} {b4:Nat} {Q:za→Prop} (hq:∀ b x,H b=none→Q (H.upd b x)):Zv Tryz.prog 159 [.ptr b4 0] none H Q:=by
 refine Zv.of_fn df159 ckD159 (Al4 _) (ze1 fun Q1 hQ1=>?_)
 simp(disch:=first|omega|assumption) only[df159,Option.getD_none,go_sem]
 refine hQ1 _ _ (zbZ fun KP' Q2 hKP hQ2=>?_)
 simp(disch:=first|omega|assumption) only[df159,go_sem]
 refine zh fun b hb=>?_
 simp(disch:=first|omega|assumption) only[go_sem]
 exact hQ2 _ _ _ (hq _ _ hb)
theorem zrb {H:za} {b4:Nat} {c4:List AV} {n:Int} {Q:za→Prop} (h4:H b4=some (.cells c4)) (l4:c4.length=1)
  (hq:∀ b x,H b=none→Q ((H.upd b x).upd b4 (.cells [.int .i64 n]))):Zv Tryz.prog 159 [.ptr b4 0] (some (Za n)) H Q:=by
 refine Zv.of_fn df159 ckD159 (Al4 _) (ze1 fun Q1 hQ1=>?_)
 simp(disch:=first|omega|assumption) only[df159,Option.getD_some,Za,go_sem]
 refine hQ1 _ _ (zbZ fun KP' Q2 hKP hQ2=>?_)
 simp(disch:=first|omega|assumption) only[df159,go_sem]
 refine zh fun b hb=>?_
 have n1:b4≠b:=fun e=>by subst e;rw[hb] at h4;cases h4
 simp(disch:=first|omega|assumption) only[h4,n1,l4,go_sem]
 have e4:splice c4 0 [.int .i64 n]=[.int .i64 n]:=by
  unfold splice;simp only[List.take_zero,zcD,Al2,Al3];rw[List.drop_eq_nil_of_le (by rw[l4];decide),List.append_nil]
 rw[e4]
 exact hQ2 _ _ _ (hq _ _ hb)
theorem zeI:∀(n:Nat) (l:List Tok) (s:List UInt8) (e:Int),s.length<n→Y3 n l s=.error e→e=2
 | 0,_,_,_,h,_=>absurd h (Nat.not_lt_zero _)
 | n+1,l,s,e,h,hr=>by
  simp only[Y3] at hr
  split at hr
  ·cases hr
  split at hr
  ·rename_i hne hg
   have h1:=zdY s
   have h2:0<s.length:=List.length_pos_iff.2 hne
   exact zeI n _ _ _ (by simp;omega) hr
  ·cases ho:y1 s with
   | none=>rw[ho] at hr;cases hr;rfl
   | some x =>
    rw[ho] at hr
    have:=zc8 (show y1 s=some (x.1,x.2) from ho)
    exact zeI n _ _ _ (by omega) hr
theorem zcZ {s:List UInt8} {e:Int} (h:Zj s=.error e):e≠0:=by
 unfold Zj at h
 split at h
 ·cases h;decide
 split at h
 ·rw[zeI _ _ _ _ (Nat.lt_succ_self _) h];decide
 ·cases h;decide
def zrU (Out:Int→za→Prop):AEnd→za→Prop:=fun e H'=>match e with|.ret v=>∃ n:Int,v=.int .i64 n∧Out n H'|.pan _=>False
theorem zcR {ρ:Env} {H:za} {b4:Nat} {e:Int} (r4:ρ 4=.ptr b4 0) (h4:H b4=some (.cells [.int .i64 e])):zo ρ H sp89.res=some [.int .i64 e]:=by
 simp(disch:=first|omega|assumption) only[sp89,zo,zL,r4,h4,go_sem]
theorem zsC {s:List UInt8} {Hc:za} {clo:FuncId} {caps:List AV} (hl:s.length≤ZQ) (hcal:Program.callable Tryz.prog clo=true) (Out:Int→za→Prop)
  (h1:∀ n,Zj s=.error n→Out n Hc)
  (h2:∀ L,Zj s=.ok L→∀ r,Hc r=none→zf Tryz.prog clo (.ptr r 0::caps) (Hc.upd r (prc L [] 0)) (fun e H'=>match e with
   | .ret _=>∃ p t dp,p++t=L∧H' r=some (prc L p dp)∧Out (if t=[] then 0 else 2) H'
   | .pan v=>∃ n,v=Za n∧∀ H,Out n H)) :
  zf Tryz.prog 89 [.str s,.clo clo [] caps] Hc (zrU Out):=by
 refine zf.of_sp sp89 ckS89 (Al4 _) ?_
 unfold zsU
 refine zbZ fun KP Q hKP hQ=>?_
 simp(disch:=first|omega|assumption) only[sp89,go_sem]
 refine zh fun b4 hb4=>?_
 simp(disch:=first|omega|assumption) only[go_sem]
 refine hQ _ _ _ (zbZ fun KP1 Q1 hKP1 hQ1=>?_)
 simp(disch:=first|omega|assumption) only[sp89,go_sem]
 refine zd (zr.low (zsn s hl)) ?_
 cases hR:Zj s with
 | error n =>
  have hn:¬ (n=0):=zcZ hR
  simp(disch:=first|omega|assumption) only[readA,go_sem]
  refine hQ1 _ _ _ (zbZ fun KP2 Q2 hKP2 hQ2=>?_)
  simp(disch:=first|omega|assumption) only[sp89,hn,go_sem]
  refine hQ2 _ _ _ ?_
  show zdg sp89.res (zrU Out) .ret _ _
  simp only[zdg]
  rw[zcR (b4:=b4) (e:=n) rfl (upd_same ..)]
  exact⟨Hc,(Low.refl _).upd hb4,n,rfl,h1 n hR⟩
 | ok L =>
  simp(disch:=first|omega|assumption) only[readA,go_sem]
  refine hQ1 _ _ _ (zbZ fun KP2 Q2 hKP2 hQ2=>?_)
  simp(disch:=first|omega|assumption) only[sp89,go_sem]
  refine hQ2 _ _ _ (ze1 fun Q3 hQ3=>?_)
  simp(disch:=first|omega|assumption) only[sp89,go_sem]
  refine hQ3 _ _ ⟨159,_,rfl,by decide +kernel,zbZ fun KP4 Q4 hKP4 hQ4=>?_⟩
  have fin:∀(ρ1:Env) (H H2:za) (e:Int),ρ1 4=.ptr b4 0→H b4=some (.cells [.int .i64 e])→Low H2 H→Out e H2→zqh sp89 (zrU Out) ρ1 H:=by
   intro ρ1 H H2 e r4 g4 hlow ho
   refine⟨_,zcR (b4:=b4) (e:=e) ?_ g4,H2,hlow,e,rfl,ho⟩
   rw[zj1,if_pos (by decide)];exact r4
  have hpan:∀(n:Int) (H0 H':za) (c4:List AV),Low H0 H'→H0 b4=some (.cells c4)→c4.length=1→(∀ H,Out n H)→KP4 (Za n) H':=by
   intro n H0 H' c4 hlow g4 l4 ho
   exact hKP4 _ _ ⟨H0,hlow,zrb g4 l4 fun b x hb=>fin _ _ za.emp n rfl (upd_same ..) (Low.of_sub (zpS _)) (ho _)⟩
  simp(disch:=first|omega|assumption) only[sp89,go_sem]
  refine zh fun br hbr=>?_
  have hbr4:br≠b4:=fun e=>by subst e;rw[upd_same] at hbr;cases hbr
  have hbrH:Hc br=none:=by rw[upd_ne hbr4] at hbr;exact hbr
  simp(disch:=first|omega|assumption) only[hcal,go_sem]
  obtain⟨x4,hx4⟩:∃ x4:AObj,x4=.cells [.int .i64 0]:=⟨_,rfl⟩
  have hun:(Hc.upd b4 (.cells [.int .i64 0])).upd br (.cells [.sl .no 2 (cKs L),.int .i64 0,.int .i64 0])=za.union (Hc.upd br (prc L [] 0)) (za.one b4 x4):=by
   funext c
   by_cases e1:c=br
   ·subst e1;rw[upd_same];simp[za.union,za.upd,prc]
   ·rw[upd_ne e1]
    by_cases e2:c=b4
    ·subst e2;rw[upd_same];simp[za.union,za.upd,za.one,e1,hb4,hx4]
    ·rw[upd_ne e2];simp[za.union,za.upd,za.one,e1,e2]
  have hd:za.Disj (Hc.upd br (prc L [] 0)) (za.one b4 x4):=fun c=>by
   by_cases e:c=b4
   ·subst e;exact .inl (by rw[upd_ne (Ne.symm hbr4)];exact hb4)
   ·exact .inr (by simp[za.one,e])
  have hc:=zf.frame hd (h2 L hR br hbrH)
  rw[hun]
  refine zaA hc fun e H' ⟨A',hq,hd',hH'⟩=>?_
  subst hH'
  have hB4:za.one b4 x4 b4=some (.cells [.int .i64 0]):=by simp[za.one,hx4]
  have hA4:A' b4=none:=by
   rcases hd' b4 with h|h
   ·exact h
   ·rw[hB4] at h;cases h
  have g4:za.union A' (za.one b4 x4) b4=some (.cells [.int .i64 0]):=by simp[za.union,hA4,hB4]
  cases e with
  | pan v =>
   obtain⟨n,hv,ho⟩:=hq
   subst hv
   exact hpan n (za.one b4 x4) _ _ (Low.of_sub fun c x hc=>by
    rcases hd' c with h|h
    ·simp[za.union,h,hc]
    ·rw[hc] at h;cases h) hB4 rfl ho
  | ret v =>
   obtain⟨p,t,dp,hp,hr,ho⟩:=hq
   have gr:za.union A' (za.one b4 x4) br=some (prc L p dp):=by simp[za.union,hr]
   have lowA:∀ b x (Hx:za),(∀ c y,A' c=some y→Hx c=some y)→Hx b=none→Low A' ((Hx.upd b x).upd b4 (.cells [.int .i64 0]))∧Low A' ((Hx.upd b x).upd b4 (.cells [.int .i64 2])):=fun b x Hx hs hb=>by
    have sub:∀ z,∀ c y,A' c=some y→((Hx.upd b x).upd b4 z) c=some y:=fun z c y hcy=>by
     rw[upd_ne (fun e=>by rw[e,hA4] at hcy;cases hcy),upd_ne (fun e=>by rw[← e,hs _ _ hcy] at hb;cases hb)]
     exact hs _ _ hcy
    exact⟨Low.of_sub (sub _),Low.of_sub (sub _)⟩
   have subU:∀ c y,A' c=some y→za.union A' (za.one b4 x4) c=some y:=fun c y hc=>by simp[za.union,hc]
   show goR _ _ _ _ _ _ _ _ _
   simp(disch:=first|omega|assumption) only[go_sem]
   refine zc (zn3 hp gr) fun v5 H5 ⟨hv5,hH5⟩=>?_
   subst hv5;subst hH5
   cases t with
   | nil =>
    simp only[if_true] at ho
    simp(disch:=first|omega|assumption) only[g4,go_sem]
    refine hQ4 _ _ _ ⟨_,Low.refl _,zsX fun b y hb=>?_⟩
    have n4:b4≠b:=fun e=>by subst e;rw[upd_same] at hb;cases hb
    refine fin _ _ A' 0 rfl (by rw[upd_ne n4,upd_same]) ?_ ho
    refine Low.of_sub fun c z hcz=>?_
    have hc4:c≠b4:=fun e=>by rw[e,hA4] at hcz;cases hcz
    have hcb:c≠b:=fun e=>by rw[← e,upd_ne hc4,subU _ _ hcz] at hb;cases hb
    rw[upd_ne hcb,upd_ne hc4];exact subU _ _ hcz
   | cons a u =>
    rw[if_neg (by simp)] at ho
    simp(disch:=first|omega|assumption) only[go_sem]
    exact zk (zrM _ br 2) (fun _ _ h=>h.elim) fun v H6 ⟨h6,h7⟩=>by
     subst h6;subst h7
     exact hKP4 _ _ ⟨_,Low.refl _,zrb g4 rfl fun b y hb=>fin _ _ A' 2 rfl (upd_same ..) (lowA b y _ subU hb).2 ho⟩
def YZ {α:Type} (f:TS→PR α):Prop:=∀ t n,f t=.error n→n≠0
theorem z8 {α β:Type} {x:PR α} {f:α→TS→PR β} {e:Int} (h:pb x f=.error e) (hx:∀ n,x=.error n→n≠0) (hf:∀ a t,x=.ok (a,t)→f a t=.error e→e≠0):e≠0:=by
 rcases x with n|⟨a,t⟩
 ·cases h;exact hx _ rfl
 ·exact hf a t rfl h
theorem zcv (m:List UInt8):YZ (ZY m):=fun t n h=>by
 unfold ZY at h
 split at h
 ·cases h
 ·cases h;decide
theorem Zo:YZ yP:=fun t n h=>by
 unfold yP at h
 split at h
 ·cases h
 ·cases h;decide
theorem zgf (ty:TyD):YZ (zck ty):=fun t n h=>by
 unfold zck at h
 split at h<;>cases h
theorem zdX {α:Type} {m:List UInt8} {f:TS→PR α} (hf:YZ f) (hl:∀ t a t',f t=.ok (a,t')→t'.length<t.length):∀(n:Nat) (l:List α) (t:TS) (e:Int),t.length<n→yK m f n l t=.error e→e≠0
 | 0,_,_,_,h,_=>absurd h (Nat.not_lt_zero _)
 | n+1,l,t,e,hn,h=>by
  rw[yK] at h
  split at h
  ·cases h
  ·exact z8 h (fun k hk=>hf _ _ hk) fun a t' ha h'=>zdX hf hl n _ _ _ (by have:=hl _ _ _ ha;omega) h'
theorem zfh {α:Type} {m:List UInt8} {f:TS→PR α} (hf:YZ f) (hl:∀ t a t',f t=.ok (a,t')→t'.length<t.length):YZ (Z1 m f):=fun t n h =>
 z8 h (fun k hk=>hf _ _ hk) fun a t' ha h'=>zdX hf hl _ _ _ _ (Nat.lt_succ_self _) h'
theorem zhS {α:Type} {m:List UInt8} {f:TS→PR α} (hf:YZ f) (hl:∀ t a t',f t=.ok (a,t')→t'.length<t.length):∀(n:Nat) (l:List α) (t:TS) (e:Int),t.length<n→zaf m f n l t=.error e→e≠0
 | 0,_,_,_,h,_=>absurd h (Nat.not_lt_zero _)
 | n+1,l,t,e,hn,h=>by
  rw[zaf] at h
  split at h
  ·rename_i hp
   have hlt:=ziM hp
   exact z8 h (fun k hk=>hf _ _ hk) fun a t' ha h'=>zhS hf hl n _ _ _ (by have:=hl _ _ _ ha;omega) h'
  ·cases h
theorem zlo:∀ k,YZ (zcl k)
 | 0=>fun t n h=>by
  rw[zar,zfK.eq_def] at h
  split at h
  ·cases h;decide
  ·exact z8 h (fun k hk=>Zo _ _ hk) fun s t1 _ h'=>zgf _ _ _ h'
 | k+1=>fun t n h=>by
  rw[zar,zfK.eq_def] at h
  split at h
  ·exact z8 h (fun e he=>zlo k _ _ he) fun ty t1 _ h'=>z8 h' (fun e he=>zcv _ _ _ he) fun _ t2 _ h''=>zgf _ _ _ h''
  ·exact z8 h (fun k hk=>Zo _ _ hk) fun s t1 _ h'=>zgf _ _ _ h'
theorem zgc {f:TS→PR Val} (hf:YZ f):YZ (yW f):=fun t n h =>
 z8 h (fun e he=>Zo _ _ he) fun s t1 _ h'=>z8 h' (fun e he=>zcv _ _ _ he) fun _ t2 _ h2=>z8 h2 (fun e he=>hf _ _ he) fun x t3 _ h3=>by cases h3
theorem zl1 {fixed:Bool} {sub:Option (TS→PR Val)} (hs:∀ f,sub=some f→YZ f∧GP bV wfV 1 f):YZ (za6 fixed sub):=fun t n h=>by
 rw[za6.eq_def] at h
 split at h
 ·cases h
 split at h
 ·cases h
 split at h
 ·cases h
 split at h
 ·cases sub with
  | none=>cases h;decide
  | some f =>
   obtain⟨h1,h2⟩:=hs f rfl
   exact z8 h (fun e he=>zdX h1 (h2.lt (by decide)) _ _ _ _ (Nat.lt_succ_self _) he) fun l t' _ h'=>by cases h'
 split at h
 ·cases sub with
  | none=>cases h;decide
  | some f =>
   obtain⟨h1,h2⟩:=hs f rfl
   exact z8 h (fun e he=>zdX (zgc h1) ((yQ h2).lt (by decide)) _ _ _ _ (Nat.lt_succ_self _) he) fun l t' _ h'=>by cases h'
 split at h
 ·cases h;decide
 ·exact z8 h (fun e he=>zcv _ _ _ he) fun _ t1 _ h1=>z8 h1 (fun e he=>Zo _ _ he) fun s t2 _ h2=>by cases h2
theorem ziD (fixed:Bool):∀ k,YZ (ZA fixed k)
 | 0=>fun t n h=>zl1 (sub:=none) (fun f hf=>by cases hf) t n (by rw[y9] at h;exact h)
 | k+1=>fun t n h=>zl1 (sub:=some (ZA fixed k)) (fun f hf=>by cases hf;exact⟨ziD fixed k,y8 fixed k⟩) t n (by rw[y9] at h;exact h)
theorem zjH (fixed:Bool) (k:Nat):YZ (Y2 fixed k):=fun t n h=>by
 unfold Y2 at h
 split at h
 ·exact zfh (zgc (ziD fixed k)) ((yQ (y8 fixed k)).lt (by decide)) _ _ h
 ·cases h
theorem zqq (fixed:Bool) (k:Nat):YZ (zf7 fixed k):=fun t n h =>
 z8 h (fun e he=>Zo _ _ he) fun s t1 _ h1=>z8 h1 (fun e he=>zjH _ _ _ _ he) fun a t2 _ h2=>by cases h2
theorem zco (fixed:Bool) (k:Nat):YZ (Ya fixed k):=fun t n h =>
 zhS (zqq fixed k) ((zcc fixed k).lt (by decide)) _ _ _ _ (Nat.lt_succ_self _) h
theorem zkV {sels:TS→PR (List SelD)} (hs:YZ sels) (k:Nat):YZ (ZG sels k):=fun t n h=>by
 unfold ZG at h
 split at h
 ·exact z8 h (fun e he=>Zo _ _ he) fun s t1 _ h1=>z8 h1 (fun e he=>zco _ _ _ _ he) fun a t2 _ h2=>by cases h2
 ·refine z8 h (fun e he=>?_) fun o t1 _ h1=>z8 h1 (fun e he=>zco _ _ _ _ he) fun a t2 _ h2=>z8 h2 (fun e he=>hs _ _ he) fun l t3 _ h3=>by cases h3
  split at he
  ·exact Zo _ _ he
  ·cases he
theorem zqf {sels:TS→PR (List SelD)} (hs:YZ sels) (k:Nat):YZ (zaQ sels k):=fun t n h=>by
 unfold zaQ at h
 split at h
 ·exact zkV hs k _ _ h
 ·refine z8 h (fun e he=>Zo _ _ he) fun s t1 _ h1=>z8 h1 (fun e he=>?_) fun an t2 _ h2=>z8 h2 (fun e he=>zjH _ _ _ _ he) fun a t3 _ h3=>z8 h3 (fun e he=>zco _ _ _ _ he) fun d t4 _ h4=>z8 h4 (fun e he=>?_) fun l t5 _ h5=>by cases h5
  ·split at he
   ·exact z8 he (fun e he=>Zo _ _ he) fun s t2 _ h2=>by cases h2
   ·cases he
  ·split at he
   ·exact hs _ _ he
   ·cases he
theorem zd6:∀ k,YZ (yo k)
 | 0=>fun t n h=>by
  rw[yo] at h
  split at h<;>(cases h;decide)
 | k+1=>fun t n h=>by
  rw[yo] at h
  split at h
  ·exact zfh (zqf (zd6 k) k) ((zbq (Zr k)).lt (by decide)) _ _ h
  ·cases h;decide
theorem zqw:YZ zao:=fun t n h =>
 z8 h (fun e he=>zcv _ _ _ he) fun _ t1 _ h1=>z8 h1 (fun e he=>Zo _ _ he) fun s t2 _ h2=>z8 h2 (fun e he=>zcv _ _ _ he) fun _ t3 _ h3=>z8 h3 (fun e he=>zlo 4 _ _ he) fun ty t4 _ h4=>by
  split at h4
  ·exact z8 h4 (fun e he=>ziD true 16 _ _ he) fun v t5 _ h5=>by cases h5
  ·cases h4
theorem zoP (kind:Int):YZ (opP kind):=fun t n h=>by
 refine z8 h (fun e he=>?_) fun s t1 _ h1=>z8 h1 (fun e he=>?_) fun vs t2 _ h2=>z8 h2 (fun e he=>zco _ _ _ _ he) fun d t3 _ h3=>z8 h3 (fun e he=>zd6 16 _ _ he) fun l t4 _ h4=>by cases h4
 ·split at he
  ·exact Zo _ _ he
  ·cases he
 ·split at he
  ·exact zfh zqw (Y5.lt (by decide)) _ _ he
  ·cases he
theorem zoA:YZ zdn:=fun t n h=>by
 refine z8 h (fun e he=>?_) fun s t1 _ h1=>z8 h1 (fun e he=>?_) fun _ t2 _ h2=>z8 h2 (fun e he=>Zo _ _ he) fun o t3 _ h3=>z8 h3 (fun e he=>zco _ _ _ _ he) fun d t4 _ h4=>z8 h4 (fun e he=>zd6 16 _ _ he) fun l t5 _ h5=>by cases h5
 ·split at he
  ·cases he;decide
  ·exact Zo _ _ he
 ·split at he
  ·cases he
  ·cases he;decide
theorem zlp (d:DocD):YZ (Yp d):=fun t n h=>by
 unfold Yp at h
 split at h
 ·exact z8 h (fun e he=>zd6 16 _ _ he) fun l t1 _ h1=>by cases h1
 split at h
 ·exact z8 h (fun e he=>zoP _ _ _ he) fun l t1 _ h1=>by cases h1
 split at h
 ·exact z8 h (fun e he=>zoP _ _ _ he) fun l t1 _ h1=>by cases h1
 split at h
 ·exact z8 h (fun e he=>zoA _ _ he) fun l t1 _ h1=>by cases h1
 ·cases h;decide
theorem zkj {d d' : DocD} {t t' : TS} (h : Yp d t = .ok (d', t')) : t'.length < t.length := by
  unfold Yp at h
  split at h
  · obtain ⟨l, t1, h1, h2⟩ := zZ h
    cases h2; exact (Zr 16).lt (by decide) _ _ _ h1
  split at h
  · rename_i hq
    obtain ⟨l, t1, h1, h2⟩ := zZ h
    have : t.tail.length < t.length := by conv => rhs; rw [YX (zcK hq)]
                                          simp
    have h3 := (zee 0).lt (by decide) _ _ _ h1
    cases h2; omega
  split at h
  · rename_i hq
    obtain ⟨l, t1, h1, h2⟩ := zZ h
    have : t.tail.length < t.length := by conv => rhs; rw [YX (zcK hq)]
                                          simp
    have h3 := (zee 1).lt (by decide) _ _ _ h1
    cases h2; omega
  split at h
  · rename_i hq
    obtain ⟨l, t1, h1, h2⟩ := zZ h
    have : t.tail.length < t.length := by conv => rhs; rw [YX (zcK hq)]
                                          simp
    have h3 := zeR.lt (by decide) _ _ _ h1
    cases h2; omega
  · cases h
theorem zjT:∀(n:Nat) (d:DocD) (t:TS) (e:Int),t.length<n→zbn n d t=.error e→e≠0
 | 0,_,_,_,h,_=>absurd h (Nat.not_lt_zero _)
 | n+1,d,t,e,hn,h=>by
  rw[zbn] at h
  split at h
  ·cases h
  ·exact z8 h (fun k hk=>zlp _ _ _ hk) fun d' t' ha h'=>zjT n _ _ _ (by have:=zkj ha;omega) h'
theorem zpW:YZ zfg:=fun t n h =>
 z8 h (fun e he=>zlp _ _ _ he) fun d t1 ha h1=>zjT _ _ _ _ (by have:=zkj ha;omega) h1
theorem zn9 (p:List UInt8→Bool):∀ l:List (List UInt8),wL (l.dropWhile p)≤wL l
 | []=>Al4 _
 | x::r=>by
  rw[List.dropWhile_cons]
  split
  ·have:=zn9 p r;rw[ZW];omega
  ·exact Al4 _
theorem zon (l:List (List UInt8)):wL l.reverse=wL l:=by
 induction l with
 | nil=>rfl
 | cons x r ih=>rw[List.reverse_cons,zdL,ih,ZW,ZW];simp[wL];omega
theorem zk3 (raw:List UInt8):(yv raw).length≤raw.length+1:=by
 have h1:=zbA raw []
 have h2:wL (za3 (zQ raw))≤wL (zQ raw):=by
  cases hx:zQ raw with
  | nil=>exact Al4 _
  | cons x r =>
   simp only[za3]
   rw[ZW,ZW]
   have:=zfV (indM (x::r)).toNat r
   omega
 unfold yv Yc
 have h3:=zdb ((((za3 (zQ raw)).dropWhile yp).reverse.dropWhile yp).reverse)
 rw[zon] at h3
 have h4:=zn9 yp ((za3 (zQ raw)).dropWhile yp).reverse
 rw[zon] at h4
 have h5:=zn9 yp (za3 (zQ raw))
 have h6:wL (zQ raw)≤raw.length+1:=by simpa[wL,zQ] using h1
 omega
theorem zsr {s t:List UInt8} {x:Tok} (h:y1 s=some (x,t)):x.s.length+t.length≤s.length+1:=by
 cases s with
 | nil=>cases h
 | cons c r =>
  rw[zfb] at h
  split at h
  ·cases hr:Zl (r.length+1) [] (r.drop 2) with
   | none=>rw[hr] at h;cases h
   | some y =>
    rw[hr] at h
    simp only[yS,Al1,Al8] at h
    obtain⟨rfl,rfl⟩:=h
    have h1:=(zgt _ _ _ _ _ (show Zl _ _ _=some (y.1,y.2) from hr)).1
    have h2:=zk3 y.1
    simp at h1 ⊢
    omega
  split at h
  ·cases hr:ZL yM r with
   | none=>rw[hr] at h;cases h
   | some y =>
    rw[hr] at h
    simp only[yS,Al1,Al8] at h
    obtain⟨rfl,rfl⟩:=h
    have h1:=zsp (show ZL yM r=some (y.1,y.2) from hr)
    simp only[Al2]
    omega
  split at h
  ·rename_i hp
   have hl:=Zi _ _ hp
   have hd3:Yq.length=3:=rfl
   rw[hd3] at hl
   cases h;simp[hd3] at hl ⊢;omega
  split at h
  ·cases h;simp;omega
  split at h
  ·cases h;simp;omega
  split at h
  ·cases h
  split at h
  ·cases h
  ·cases h;simp;omega
theorem ziW:∀(n:Nat) (l:List Tok) (s:List UInt8) (l':List Tok),Y3 n l s=.ok l'→wT l'≤wT l+6*s.length
 | 0,_,_,_,h=>by cases h
 | n+1,l,s,l',h=>by
  simp only[Y3] at h
  split at h
  ·cases h;omega
  split at h
  ·have:=ziW n _ _ _ h
   simp at this;omega
  ·cases ho:y1 s with
   | none=>rw[ho] at h;cases h
   | some x =>
    rw[ho] at h
    have h1:=zc8 (show y1 s=some (x.1,x.2) from ho)
    have h2:=zsr (show y1 s=some (x.1,x.2) from ho)
    have h3:=ziW n _ _ _ h
    have h4:wT (l++[x.1])=wT l+wK x.1:=by simp[wT]
    rw[h4,wK] at h3
    omega
theorem ziP {s:List UInt8} {L:List Tok} (h:Zj s=.ok L):wT L≤z1:=by
 obtain⟨h1,_,h3⟩:=zjC h
 have h4:=ziW _ _ _ _ h3
 have e:wT ([]:List Tok)=0:=rfl
 rw[e] at h4
 simp only[z1];omega
def YJ (s:List UInt8):DocD×Int:=match Zj s with
 | .error n=>(⟨[],[]⟩,n)
 | .ok L=>match zfg L with
  | .error n=>(⟨[],[]⟩,n)
  | .ok (d,_)=>(d,0)
theorem zmw {s:List UInt8} {L:List Tok} {n:Int} (h:Zj s=.ok L) (he:zfg L=.error n):n≠0:=zpW _ _ he
theorem zrY {b4 b6:Nat} {x y:AObj} (h:b6≠b4):(za.emp.upd b4 x).upd b6 y=za.union (za.one b6 y) (za.one b4 x):=by
 funext c
 by_cases e1:c=b6
 ·subst e1;simp[za.union,za.upd,za.one]
 ·by_cases e2:c=b4
  ·subst e2;simp[za.union,za.upd,za.one,e1]
  ·simp[za.union,za.upd,za.one,e1,e2,za.emp]
theorem zpI {b4 b6:Nat} {x y:AObj} (h:b6≠b4):za.Disj (za.one b6 y) (za.one b4 x):=fun c=>by
 by_cases e:c=b4
 ·subst e;exact .inl (by simp[za.one,Ne.symm h])
 ·exact .inr (by simp[za.one,e])
theorem zsE {A:za} {b4:Nat} {x:AObj} (h:za.Disj A (za.one b4 x)):za.union A (za.one b4 x) b4=some x:=by
 have hB:za.one b4 x b4=some x:=by simp[za.one]
 rcases h b4 with h|h
 ·simp[za.union,h,hB]
 ·rw[hB] at h;cases h
theorem zt3 {A B:za} {b:Nat} {x:AObj} (h:A b=some x):za.union A B b=some x:=by simp[za.union,h]
abbrev zlj:List AV:=[.sl .nil 5 [],.sl .nil 4 []]
def zpf (s:List UInt8) (b:Nat) (n:Int) (H:za):Prop:=(n≠0∧YJ s=(⟨[],[]⟩,n))∨(n=0∧∃ d o1 o2,YJ s=(d,0)∧H b=some (.cells [.sl o1 5 (cOs d.ops),.sl o2 4 (cFs d.frags)]))
theorem zpO {s:List UInt8} {L:List Tok} (hR:Zj s=.ok L) {Hc:za} {b6 r:Nat} (h6:Hc b6=some (.cells zlj)) (hr:Hc r=none) :
  zf Tryz.prog 90 [.ptr r 0,.ptr b6 0] (Hc.upd r (prc L [] 0)) (fun e H'=>match e with
   | .ret _=>∃ p t dp,p++t=L∧H' r=some (prc L p dp)∧zpf s b6 (if t=[] then 0 else 2) H'
   | .pan v=>∃ n,v=Za n∧∀ H,zpf s b6 n H):=by
 refine zf.goO (R:=fun _ H'=>∃ p t dp,p++t=L∧H' r=some (prc L p dp)∧zpf s b6 (if t=[] then 0 else 2) H') (RP:=fun v _=>∃ n,v=Za n∧∀ H,zpf s b6 n H) ir90 ck90 (Al4 _) fun KP Q hQ hP=>?_
 have n6:b6≠r:=fun e=>by subst e;rw[hr] at h6;cases h6
 have hw:=ziP hR
 have pan:∀(v:AV) (H1:za) (n:Int),v=Za n→zfg L=.error n→KP v H1:=fun v H1 n h1 h2=>hP v H1 H1 (Low.refl _) ⟨n,h1,fun H=>.inl ⟨zmw hR h2,by unfold YJ;rw[hR];simp only[h2]⟩⟩
 have D0:DI L r b6 (Hc.upd r (prc L [] 0)) L ⟨[],[]⟩ .nil .nil:=⟨⟨[],rfl,upd_same ..⟩,by rw[upd_ne n6];exact h6,rfl,rfl,nofun,n6⟩
 simp(disch:=first|omega|assumption) only[ir90,go_sem]
 refine zaA (zqV D0 hw (Nat.zero_le _)) fun e H1 hq=>?_
 cases e with
 | pan v =>
  obtain⟨n,hv,he⟩:=hq
  exact pan v H1 n hv (by unfold zfg;rw[he];rfl)
 | ret v =>
  obtain⟨d1,t1,o1,o2,e1,hv,D1,hl1,hlt1⟩:=hq
  subst hv
  obtain⟨R,hRR⟩:∃ R,zbn (L.length+1-0) d1 t1=R:=⟨_,rfl⟩
  have hx:zfg L=zbn (t1.length+1) d1 t1:=by unfold zfg;rw[e1];rfl
  obtain⟨R,hRR⟩:∃ R,zbn (t1.length+1) d1 t1=R:=⟨_,rfl⟩
  rw[hRR] at hx
  show goR _ _ _ _ _ _ _ _ _
  simp(disch:=first|omega|assumption) only[go_sem]
  refine zI (fun x:DocD×TS×Own×Own=>[]) (fun x H'=>DI L r b6 H' x.2.1 x.1 x.2.2.1 x.2.2.2∧(∃ m,x.2.1.length<m∧zbn m x.1 x.2.1=R)∧x.1.ops.length+x.1.frags.length+x.2.1.length≤L.length) (fun x=>x.2.1.length) (d1,t1,o1,o2) (by simp(disch:=first|omega|assumption) only[go_sem]) ⟨D1,⟨_,Nat.lt_succ_self _,hRR⟩,by simpa using hl1⟩ ?_
  rintro⟨d,t,p1,p2⟩ H2 J ⟨D2,⟨m,hm,hR2⟩,hlen⟩ hJ
  simp only at D2 hm hR2 hlen
  obtain⟨m,rfl⟩:∃ j,m=j+1:=⟨m-1,by omega⟩
  obtain⟨q,hq,hr2⟩:=D2.rd
  rw[zbn] at hR2
  simp(disch:=first|omega|assumption) only[go_sem]
  refine zc (zn3 hq hr2) fun v3 H3 ⟨hv3,hH3⟩=>?_
  subst hv3;subst hH3
  by_cases ht:t=[]
  ·rw[if_pos ht] at hR2
   have hd:decide (t≠[])=false:=by simp[ht]
   rw[hd]
   simp(disch:=first|omega|assumption) only[go_sem]
   refine hQ _ _ _ _ [] nofun rfl (Low.refl _) ⟨q,t,16-16,hq,hr2,?_⟩
   rw[if_pos ht]
   exact .inr ⟨rfl,d,p1,p2,by unfold YJ;rw[hR];simp only[hx,← hR2],D2.box⟩
  ·rw[if_neg ht] at hR2
   have hd:decide (t≠[])=true:=by simp[ht]
   rw[hd]
   simp(disch:=first|omega|assumption) only[go_sem]
   refine zaA (zqV D2 hw (by omega)) fun e H4 hq4=>?_
   cases e with
   | pan v =>
    obtain⟨n,hv,he⟩:=hq4
    exact pan v H4 n hv (by rw[hx,← hR2,he];rfl)
   | ret v =>
    obtain⟨d4,t4,o3,o4,e4,hv,D4,hl4,hlt4⟩:=hq4
    subst hv
    rw[e4,zJ] at hR2
    show goR _ _ _ _ _ _ _ _ _
    simp(disch:=first|omega|assumption) only[go_sem]
    exact goJ (hJ (d4,t4,o3,o4) _ (by simp only;omega) ⟨D4,⟨m,by simp only;omega,hR2⟩,by simp only;omega⟩) (by simp(disch:=first|omega|assumption) only[go_sem])
theorem zdt (s:List UInt8) (hl:s.length≤ZQ):zr Tryz.prog 40 [.str s] (.tup [.agg (zdW (YJ s).1),.int .i64 (YJ s).2]):=by
 refine zr.go ir40 ck40 (Al4 _) fun KP Q hQ=>?_
 simp(disch:=first|omega|assumption) only[ir40,go_sem]
 refine zh fun b4 hb4=>?_
 simp(disch:=first|omega|assumption) only[go_sem]
 refine zh fun b6 hb6=>?_
 have h64:b6≠b4:=fun e=>by subst e;rw[upd_same] at hb6;cases hb6
 have h6c:(za.one b6 (.cells zlj)) b6=some (.cells zlj):=by simp[za.one]
 have hc:=zf.frame (zpI (x:=.cells zlj) h64) (zsC (s:=s) (Hc:=za.one b6 (.cells zlj)) (clo:=90) (caps:=[.ptr b6 0]) hl (by decide +kernel) (zpf s b6)
  (fun n h=>.inl ⟨zcZ h,by unfold YJ;rw[h]⟩) (fun L hR r hr=>zpO hR h6c hr))
 rw[← zrY h64] at hc
 simp(disch:=first|omega|assumption) only[go_sem]
 refine zaA hc fun e H' ⟨A',hq,hd',hH'⟩=>?_
 subst hH'
 cases e with
 | pan v=>exact hq.elim
 | ret v =>
  obtain⟨n,hv,ho⟩:=hq
  subst hv
  have g4:=zsE hd'
  simp only[zlj] at g4
  show goR _ _ _ _ _ _ _ _ _
  rcases ho with ⟨hn,he⟩|⟨hn,x,o1,o2,he,h6⟩
  ·rw[he] at hQ
   simp(disch:=first|omega|assumption) only[hn,g4,go_sem]
   exact hQ _ _ _ [.agg [.sl .nil 5 [],.sl .nil 4 []],.int .i64 n] nofun (by simp(disch:=first|omega|assumption) only[ir40,zo,zL,go_sem]) (by simp[zb,AV.strip,AV.strip1,zdW,cOs,cFs])
  ·subst hn
   rw[he] at hQ
   have g6:=zt3 (B:=za.one b4 (.cells zlj)) h6
   simp(disch:=first|omega|assumption) only[g4,g6,go_sem]
   exact hQ _ _ _ [.agg [.sl o1 5 (cOs x.ops),.sl o2 4 (cFs x.frags)],.int .i64 0] nofun (by simp(disch:=first|omega|assumption) only[ir40,zo,zL,go_sem]) (by simp[zb,AV.strip,AV.strip1,zdW])
structure DS (L:TS) (r bd:Nat) (H:za) (s:St) (d:DocD) (o1 o2:Own):Prop where
 rd:H r=some (poc L s)
 box:H bd=some (.cells [.sl o1 5 (cOs d.ops),.sl o2 4 (cFs d.frags)])
 own1:yq H o1 d.ops.length 5
 own2:yq H o2 d.frags.length 4
 sep:∀ b x c y,o1=.tip b x→o2=.tip c y→b≠c
 ne:r≠bd
section
variable {L:TS} {r bd b:Nat} {H H':za} {s s':St} {d:DocD} {o1 o2 o':Own}
theorem DS.call (h:DS L r bd H s d o1 o2) (e:H'=H.upd r (poc L s')):DS L r bd H' s' d o1 o2:=by
 subst e
 have hr:H r=some (.cells _):=h.rd
 exact⟨upd_same ..,by rw[upd_ne (Ne.symm h.ne)];exact h.box,yG h.own1 hr,yG h.own2 hr,h.sep,h.ne⟩
theorem DS.new (h:DS L r bd H s d o1 o2) (hb:H b=none) (x:AObj):DS L r bd (H.upd b x) s d o1 o2 :=
 ⟨by rw[upd_ne (fun e=>by have:=h.rd;rw[e,hb] at this;cases this)];exact h.rd,by rw[upd_ne (fun e=>by have:=h.box;rw[e,hb] at this;cases this)];exact h.box,h.own1.upd hb,h.own2.upd hb,h.sep,h.ne⟩
theorem DS.cell {cs:List AV} (h:DS L r bd H s d o1 o2) (hb:H b=some (.cells cs)) (h1:r≠b) (h2:b≠bd) (x:AObj):DS L r bd (H.upd b x) s d o1 o2 :=
 ⟨by rw[upd_ne h1];exact h.rd,by rw[upd_ne (Ne.symm h2)];exact h.box,yG h.own1 hb,yG h.own2 hb,h.sep,h.ne⟩
theorem DS.op {n:Nat} {xs:List (List AV)} (h:DS L r bd H s d o1 o2) (x:OpD) (hs:OwnS H o1 H' o' n 5) (hn:n=(d.ops++[x]).length) (hx:xs=cOs (d.ops++[x])) :
  DS L r bd (H'.upd bd (.cells [.sl o' 5 xs,.sl o2 4 (cFs d.frags)])) s ⟨d.ops++[x],d.frags⟩ o' o2:=by
 have hb:=yh h.own1 h.box hs.kept
 have hr2:=yh h.own1 (show H r=some (.cells _) from h.rd) hs.kept
 subst hn;subst hx
 refine⟨by rw[upd_ne h.ne];exact hr2,upd_same ..,yG hs.own hb,yG (zc9 h.own2 hs.kept h.sep) hb,fun b x c y e1 e2=>?_,h.ne⟩
 rcases hs.new b x e1 with h2|⟨d0,h2⟩
 ·subst e2
  exact fun e=>zez h.own2 (e▸h2)
 ·exact h.sep b d0 c y h2 e2
theorem DS.frag {n:Nat} {xs:List (List AV)} (h:DS L r bd H s d o1 o2) (x:FragD) (hs:OwnS H o2 H' o' n 4) (hn:n=(d.frags++[x]).length) (hx:xs=cFs (d.frags++[x])) :
  DS L r bd (H'.upd bd (.cells [.sl o1 5 (cOs d.ops),.sl o' 4 xs])) s ⟨d.ops,d.frags++[x]⟩ o1 o':=by
 have hb:=yh h.own2 h.box hs.kept
 have hr2:=yh h.own2 (show H r=some (.cells _) from h.rd) hs.kept
 subst hn;subst hx
 refine⟨by rw[upd_ne h.ne];exact hr2,upd_same ..,yG (zc9 h.own1 hs.kept fun b x c y e1 e2=>Ne.symm (h.sep c y b x e2 e1)) hb,yG hs.own hb,fun b x c y e1 e2=>?_,h.ne⟩
 rcases hs.new c y e2 with h2|⟨d0,h2⟩
 ·subst e1
  exact fun e=>zez h.own1 (by rw[e];exact h2)
 ·exact h.sep b x c d0 e1 h2
end
def zt0 (L:TS) (r bd:Nat) (s:St) (d:DocD) (v:AV) (H':za):Prop:=v=.tup []∧∃ o1 o2,DS L r bd H' s d o1 o2
theorem zay {L:TS} {w:List UInt8} {s:St} (h:ZZ L w s=true):zg L s=(w,stepS s):=by
 simp only[ZZ,Al0,z7] at h
 simp[zg,h.1,h.2]
theorem zmk {n:Int} {s:St} {D:Int} (h:s.e=0→s.dp=D):(yV n s).e=0→(yV n s).dp=D:=by
 unfold yV;split
 ·rename_i h0;intro _;exact h h0
 ·exact h
theorem znT {L:TS} {s:St} {D:Int} (h:s.e=0→s.dp=D):(Zk L s).2.e=0→(Zk L s).2.dp=D:=by
 unfold Zk;split
 ·exact y5 (zmk h)
 ·exact y5 h
theorem zea {L:TS} (hn:∀ x∈L,Zh x) {s:St} (h:s.e=0→s.dp=16-((16:Nat):Int)):(Zw L s).2.e=0→(Zw L s).2.dp=16-((16:Nat):Int):=by
 have hs:SimS L (fun t=>if isP [40] t then Z1 [41] zao t.tail else .ok ([],t)) (16-((16:Nat):Int)) (Zw L):=⟨fun i=>zin hn i,fun s h=>by rw[zih h]⟩
 exact Yk hs h
theorem zs3 {L:TS} {H:za} {r bd:Nat} {s:St} {d:DocD} {o1 o2:Own} (hl:wT L≤z1) (hn:∀ x∈L,Zh x) (h:DS L r bd H s d o1 o2) (hd:s.e=0→s.dp=16-((16:Nat):Int)) (hb:d.ops.length+d.frags.length≤L.length+1) :
  zf Tryz.prog 94 [.ptr r 0,.ptr bd 0] H (fun e H'=>∃ v,e=.ret v∧zt0 L r bd (ZD L d s).2 (ZD L d s).1 v H'):=by
 refine zf.go ir94 ck94 (Al4 _) fun KP Q hQ=>?_
 have hll:L.length≤z1:=Nat.le_trans (ZH L) hl
 simp only[z1] at hll
 have hc1:=zfW d.ops
 have hc2:=zfP d.frags
 simp(disch:=first|omega|assumption) only[ir94,go_sem]
 refine zc (zaJ hl h.rd _) fun v H1 ⟨hv1,hH⟩=>?_
 subst hv1;subst hH
 cases hi:isS L [123] s with
 | true =>
  have g0:=h.box
  simp(disch:=first|omega|assumption) only[g0,go_sem]
  refine zc (zcg hl hn 16 (Al4 _) h.rd hd) fun v H2 ⟨hv2,h2⟩=>?_
  subst hv2
  have DX:=h.call h2
  have eD:ZD L d s=(⟨d.ops++[⟨0,[],[],[],(yc L 16 s).1⟩],d.frags⟩,(yc L 16 s).2):=by simp[ZD,hi]
  have gb:=DX.box
  simp(disch:=first|omega|assumption) only[gb,zci,za2,Yo,go_sem]
  refine zE (by rw[hc1];exact DX.own1) (by simp only[hc1,Al2,Al3];omega) (by simp only[hc1,Al2,Al3,maxLen];omega) fun oY HY hsY=>?_
  have gY:=yh DX.own1 gb hsY.kept
  simp(disch:=first|omega|assumption) only[gY,zci,za2,Yo,go_sem]
  refine hQ _ _ _ _ [] nofun rfl (Low.refl _) ⟨rfl,oY,o2,?_⟩
  rw[eD]
  exact DX.op ⟨0,[],[],[],(yc L 16 s).1⟩ (by simpa[hc1] using hsY) (by simp) (by rw[zaW];simp[cO,AV.strip1,cWs,cDs,ze4])
 | false =>
  simp(disch:=first|omega|assumption) only[go_sem]
  refine zc (ze5 hl h.rd _) fun v H1 ⟨hv1,hH⟩=>?_
  subst hv1;subst hH
  cases hq:ZZ L [113,117,101,114,121] s with
  | true =>
   have hW:(([113,117,101,114,121]:List UInt8)=[109,117,116,97,116,105,111,110])=False:=eq_false (by decide)
   have e1:ZD L d s=(⟨d.ops++[(opS L 0 (stepS s)).1],d.frags⟩,(opS L 0 (stepS s)).2):=by
    unfold ZD;rw[hi,hq,zay hq];simp
   have hN0:=zay hq
   simp(disch:=first|omega|assumption) only[go_sem]
   refine zh fun b4 hb4=>?_
   have n4:r≠b4:=fun e=>by subst e;rw[h.rd] at hb4;cases hb4
   have n4d:b4≠bd:=fun e=>by subst e;rw[h.box] at hb4;cases hb4
   simp(disch:=first|omega|assumption) only[go_sem]
   have D1:=h.new hb4 (.cells [.int .i64 0,.str [],.sl .nil 10 [],.sl .nil 2 [],.sl .nil 7 []])
   have hN:=Zb hl D1.rd
   rw[hN0] at hN
   refine zc hN fun v H2 ⟨hv2,h2⟩=>?_
   subst hv2
   have D2:=D1.call h2
   have g2:=oth h2 n4 (upd_same ..)
   have P2:(stepS s).e=0→(stepS s).dp=16-((16:Nat):Int):=hd
   clear hN hN0 D1
   generalize stepS s=s1 at *
   simp(disch:=first|omega|assumption) only[hW,go_sem]
   refine zc (zg3 hl D2.rd) fun v H3 ⟨hv3,hH⟩=>?_
   subst hv3;subst hH
   by_cases hk:(s1.hd L).k=2
   ·have hk':=eq_true hk
    have e0:=e1
    simp(disch:=first|omega|assumption) only[yl,hk',go_sem]
    refine zc (Zb hl D2.rd) fun v H4 ⟨hv4,h4⟩=>?_
    subst hv4
    have D4:=D2.call h4
    have g4:=oth h4 n4 g2
    have P4:=y5 (L:=L) P2
    have eO:opS L 0 s1=opE L 0 (zg L s1).1 (zg L s1).2:=by simp[opS,hk]
    rw[eO] at e0
    generalize (zg L s1).1=nm at *
    generalize (zg L s1).2=s2 at *
    simp(disch:=first|omega|assumption) only[g4,go_sem]
    have D5:=D4.cell g4 n4 n4d (.cells [.int .i64 0,.str nm,.sl .nil 10 [],.sl .nil 2 [],.sl .nil 7 []])
    have g5:(H4.upd b4 (.cells [.int .i64 0,.str nm,.sl .nil 10 [],.sl .nil 2 [],.sl .nil 7 []])) b4=some (.cells [.int .i64 0,.str nm,.sl .nil 10 [],.sl .nil 2 [],.sl .nil 7 []]):=upd_same ..
    refine zc (ziG hl hn D5.rd P4) fun v H6 ⟨hv6,h6⟩=>?_
    subst hv6
    have D6:=D5.call h6
    have g6:=oth h6 n4 g5
    have P6:=zea hn P4
    generalize hvs:(Zw L s2).1=vs at *
    generalize hs6:(Zw L s2).2=s6 at *
    simp(disch:=first|omega|assumption) only[g6,go_sem]
    refine zc (zaB (k:=16) hl hn (Al4 _) (D6.cell g6 n4 n4d _).rd P6) fun v H7 ⟨hv7,h7⟩=>?_
    subst hv7
    have D7:=(D6.cell g6 n4 n4d _).call h7
    have g7:=oth h7 n4 (upd_same ..)
    have P7:=Yk (yN hn true 16 (Al4 _)) P6
    generalize hds:(z6 L true 16 s6).1=ds at *
    generalize hs7:(z6 L true 16 s6).2=s7 at *
    simp(disch:=first|omega|assumption) only[g7,go_sem]
    refine zc (zcg hl hn 16 (Al4 _) (D7.cell g7 n4 n4d _).rd P7) fun v H8 ⟨hv8,h8⟩=>?_
    subst hv8
    have D8:=(D7.cell g7 n4 n4d _).call h8
    have g8:=oth h8 n4 (upd_same ..)
    generalize hss:(yc L 16 s7).1=ss at *
    generalize hs8:(yc L 16 s7).2=s8 at *
    have eD:ZD L d s=(⟨d.ops++[⟨0,nm,vs,ds,ss⟩],d.frags⟩,s8):=by
     rw[e0];simp only[opE,hvs,hs6,hds,hs7,hss,hs8]
    have gb8:=D8.box
    have n4ds:=Ne.symm n4d
    simp(disch:=first|omega|assumption) only[g8,gb8,n4d,n4ds,go_sem]
    have DX:=D8.cell g8 n4 n4d (.cells [.int .i64 0,.str nm,.sl .no 10 (cWs vs),.sl .no 2 (cDs ds),.sl .no 7 (cSs ss)])
    have gb:=DX.box
    refine zE (by rw[hc1];exact DX.own1) (by simp only[hc1,Al2,Al3];omega) (by simp only[hc1,Al2,Al3,maxLen];omega) fun oY HY hsY=>?_
    have gY:=yh DX.own1 gb hsY.kept
    simp(disch:=first|omega|assumption) only[gY,go_sem]
    refine hQ _ _ _ _ [] nofun rfl (Low.refl _) ⟨rfl,oY,o2,?_⟩
    rw[eD]
    exact DX.op ⟨0,nm,vs,ds,ss⟩ (by simpa[hc1] using hsY) (by simp) (by rw[zaW];simp[cO,AV.strip1])
   ·have e0:=e1
    have eO:opS L 0 s1=opE L 0 [] s1:=by simp[opS,hk]
    rw[eO] at e0
    simp(disch:=first|omega|assumption) only[yl,hk,go_sem]
    refine zc (ziG hl hn D2.rd P2) fun v H6 ⟨hv6,h6⟩=>?_
    subst hv6
    have D6:=D2.call h6
    have g6:=oth h6 n4 g2
    have P6:=zea hn P2
    generalize hvs:(Zw L s1).1=vs at *
    generalize hs6:(Zw L s1).2=s6 at *
    simp(disch:=first|omega|assumption) only[g6,go_sem]
    refine zc (zaB (k:=16) hl hn (Al4 _) (D6.cell g6 n4 n4d _).rd P6) fun v H7 ⟨hv7,h7⟩=>?_
    subst hv7
    have D7:=(D6.cell g6 n4 n4d _).call h7
    have g7:=oth h7 n4 (upd_same ..)
    have P7:=Yk (yN hn true 16 (Al4 _)) P6
    generalize hds:(z6 L true 16 s6).1=ds at *
    generalize hs7:(z6 L true 16 s6).2=s7 at *
    simp(disch:=first|omega|assumption) only[g7,go_sem]
    refine zc (zcg hl hn 16 (Al4 _) (D7.cell g7 n4 n4d _).rd P7) fun v H8 ⟨hv8,h8⟩=>?_
    subst hv8
    have D8:=(D7.cell g7 n4 n4d _).call h8
    have g8:=oth h8 n4 (upd_same ..)
    generalize hss:(yc L 16 s7).1=ss at *
    generalize hs8:(yc L 16 s7).2=s8 at *
    have eD:ZD L d s=(⟨d.ops++[⟨0,[],vs,ds,ss⟩],d.frags⟩,s8):=by
     rw[e0];simp only[opE,hvs,hs6,hds,hs7,hss,hs8]
    have gb8:=D8.box
    have n4ds:=Ne.symm n4d
    simp(disch:=first|omega|assumption) only[g8,gb8,n4d,n4ds,go_sem]
    have DX:=D8.cell g8 n4 n4d (.cells [.int .i64 0,.str [],.sl .no 10 (cWs vs),.sl .no 2 (cDs ds),.sl .no 7 (cSs ss)])
    have gb:=DX.box
    refine zE (by rw[hc1];exact DX.own1) (by simp only[hc1,Al2,Al3];omega) (by simp only[hc1,Al2,Al3,maxLen];omega) fun oY HY hsY=>?_
    have gY:=yh DX.own1 gb hsY.kept
    simp(disch:=first|omega|assumption) only[gY,go_sem]
    refine hQ _ _ _ _ [] nofun rfl (Low.refl _) ⟨rfl,oY,o2,?_⟩
    rw[eD]
    exact DX.op ⟨0,[],vs,ds,ss⟩ (by simpa[hc1] using hsY) (by simp) (by rw[zaW];simp[cO,AV.strip1])
  | false =>
   simp(disch:=first|omega|assumption) only[go_sem]
   refine zc (ze5 hl h.rd _) fun v H1 ⟨hv1,hH⟩=>?_
   subst hv1;subst hH
   cases hm:ZZ L [109,117,116,97,116,105,111,110] s with
   | true =>
    have e1:ZD L d s=(⟨d.ops++[(opS L 1 (stepS s)).1],d.frags⟩,(opS L 1 (stepS s)).2):=by
     unfold ZD;rw[hi,hq,hm,zay hm];simp
    have hN0:=zay hm
    simp(disch:=first|omega|assumption) only[go_sem]
    refine zh fun b4 hb4=>?_
    have n4:r≠b4:=fun e=>by subst e;rw[h.rd] at hb4;cases hb4
    have n4d:b4≠bd:=fun e=>by subst e;rw[h.box] at hb4;cases hb4
    simp(disch:=first|omega|assumption) only[go_sem]
    have D1:=h.new hb4 (.cells [.int .i64 0,.str [],.sl .nil 10 [],.sl .nil 2 [],.sl .nil 7 []])
    have hN:=Zb hl D1.rd
    rw[hN0] at hN
    refine zc hN fun v H2 ⟨hv2,h2⟩=>?_
    subst hv2
    have D2:=D1.call h2
    have g2:=oth h2 n4 (upd_same ..)
    have P2:(stepS s).e=0→(stepS s).dp=16-((16:Nat):Int):=hd
    clear hN hN0 D1
    generalize stepS s=s1 at *
    simp(disch:=first|omega|assumption) only[g2,go_sem]
    have D3:=D2.cell g2 n4 n4d (.cells [.int .i64 1,.str [],.sl .nil 10 [],.sl .nil 2 [],.sl .nil 7 []])
    have g3:(H2.upd b4 (.cells [.int .i64 1,.str [],.sl .nil 10 [],.sl .nil 2 [],.sl .nil 7 []])) b4=some (.cells [.int .i64 1,.str [],.sl .nil 10 [],.sl .nil 2 [],.sl .nil 7 []]):=upd_same ..
    refine zc (zg3 hl D3.rd) fun v H3 ⟨hv3,hH⟩=>?_
    subst hv3;subst hH
    by_cases hk:(s1.hd L).k=2
    ·have hk':=eq_true hk
     have e0:=e1
     simp(disch:=first|omega|assumption) only[yl,hk',go_sem]
     refine zc (Zb hl D3.rd) fun v H4 ⟨hv4,h4⟩=>?_
     subst hv4
     have D4:=D3.call h4
     have g4:=oth h4 n4 g3
     have P4:=y5 (L:=L) P2
     have eO:opS L 1 s1=opE L 1 (zg L s1).1 (zg L s1).2:=by simp[opS,hk]
     rw[eO] at e0
     generalize (zg L s1).1=nm at *
     generalize (zg L s1).2=s2 at *
     simp(disch:=first|omega|assumption) only[g4,go_sem]
     have D5:=D4.cell g4 n4 n4d (.cells [.int .i64 1,.str nm,.sl .nil 10 [],.sl .nil 2 [],.sl .nil 7 []])
     have g5:(H4.upd b4 (.cells [.int .i64 1,.str nm,.sl .nil 10 [],.sl .nil 2 [],.sl .nil 7 []])) b4=some (.cells [.int .i64 1,.str nm,.sl .nil 10 [],.sl .nil 2 [],.sl .nil 7 []]):=upd_same ..
     refine zc (ziG hl hn D5.rd P4) fun v H6 ⟨hv6,h6⟩=>?_
     subst hv6
     have D6:=D5.call h6
     have g6:=oth h6 n4 g5
     have P6:=zea hn P4
     generalize hvs:(Zw L s2).1=vs at *
     generalize hs6:(Zw L s2).2=s6 at *
     simp(disch:=first|omega|assumption) only[g6,go_sem]
     refine zc (zaB (k:=16) hl hn (Al4 _) (D6.cell g6 n4 n4d _).rd P6) fun v H7 ⟨hv7,h7⟩=>?_
     subst hv7
     have D7:=(D6.cell g6 n4 n4d _).call h7
     have g7:=oth h7 n4 (upd_same ..)
     have P7:=Yk (yN hn true 16 (Al4 _)) P6
     generalize hds:(z6 L true 16 s6).1=ds at *
     generalize hs7:(z6 L true 16 s6).2=s7 at *
     simp(disch:=first|omega|assumption) only[g7,go_sem]
     refine zc (zcg hl hn 16 (Al4 _) (D7.cell g7 n4 n4d _).rd P7) fun v H8 ⟨hv8,h8⟩=>?_
     subst hv8
     have D8:=(D7.cell g7 n4 n4d _).call h8
     have g8:=oth h8 n4 (upd_same ..)
     generalize hss:(yc L 16 s7).1=ss at *
     generalize hs8:(yc L 16 s7).2=s8 at *
     have eD:ZD L d s=(⟨d.ops++[⟨1,nm,vs,ds,ss⟩],d.frags⟩,s8):=by
      rw[e0];simp only[opE,hvs,hs6,hds,hs7,hss,hs8]
     have gb8:=D8.box
     have n4ds:=Ne.symm n4d
     simp(disch:=first|omega|assumption) only[g8,gb8,n4d,n4ds,go_sem]
     have DX:=D8.cell g8 n4 n4d (.cells [.int .i64 1,.str nm,.sl .no 10 (cWs vs),.sl .no 2 (cDs ds),.sl .no 7 (cSs ss)])
     have gb:=DX.box
     refine zE (by rw[hc1];exact DX.own1) (by simp only[hc1,Al2,Al3];omega) (by simp only[hc1,Al2,Al3,maxLen];omega) fun oY HY hsY=>?_
     have gY:=yh DX.own1 gb hsY.kept
     simp(disch:=first|omega|assumption) only[gY,go_sem]
     refine hQ _ _ _ _ [] nofun rfl (Low.refl _) ⟨rfl,oY,o2,?_⟩
     rw[eD]
     exact DX.op ⟨1,nm,vs,ds,ss⟩ (by simpa[hc1] using hsY) (by simp) (by rw[zaW];simp[cO,AV.strip1])
    ·have e0:=e1
     have eO:opS L 1 s1=opE L 1 [] s1:=by simp[opS,hk]
     rw[eO] at e0
     simp(disch:=first|omega|assumption) only[yl,hk,go_sem]
     refine zc (ziG hl hn D3.rd P2) fun v H6 ⟨hv6,h6⟩=>?_
     subst hv6
     have D6:=D3.call h6
     have g6:=oth h6 n4 g3
     have P6:=zea hn P2
     generalize hvs:(Zw L s1).1=vs at *
     generalize hs6:(Zw L s1).2=s6 at *
     simp(disch:=first|omega|assumption) only[g6,go_sem]
     refine zc (zaB (k:=16) hl hn (Al4 _) (D6.cell g6 n4 n4d _).rd P6) fun v H7 ⟨hv7,h7⟩=>?_
     subst hv7
     have D7:=(D6.cell g6 n4 n4d _).call h7
     have g7:=oth h7 n4 (upd_same ..)
     have P7:=Yk (yN hn true 16 (Al4 _)) P6
     generalize hds:(z6 L true 16 s6).1=ds at *
     generalize hs7:(z6 L true 16 s6).2=s7 at *
     simp(disch:=first|omega|assumption) only[g7,go_sem]
     refine zc (zcg hl hn 16 (Al4 _) (D7.cell g7 n4 n4d _).rd P7) fun v H8 ⟨hv8,h8⟩=>?_
     subst hv8
     have D8:=(D7.cell g7 n4 n4d _).call h8
     have g8:=oth h8 n4 (upd_same ..)
     generalize hss:(yc L 16 s7).1=ss at *
     generalize hs8:(yc L 16 s7).2=s8 at *
     have eD:ZD L d s=(⟨d.ops++[⟨1,[],vs,ds,ss⟩],d.frags⟩,s8):=by
      rw[e0];simp only[opE,hvs,hs6,hds,hs7,hss,hs8]
     have gb8:=D8.box
     have n4ds:=Ne.symm n4d
     simp(disch:=first|omega|assumption) only[g8,gb8,n4d,n4ds,go_sem]
     have DX:=D8.cell g8 n4 n4d (.cells [.int .i64 1,.str [],.sl .no 10 (cWs vs),.sl .no 2 (cDs ds),.sl .no 7 (cSs ss)])
     have gb:=DX.box
     refine zE (by rw[hc1];exact DX.own1) (by simp only[hc1,Al2,Al3];omega) (by simp only[hc1,Al2,Al3,maxLen];omega) fun oY HY hsY=>?_
     have gY:=yh DX.own1 gb hsY.kept
     simp(disch:=first|omega|assumption) only[gY,go_sem]
     refine hQ _ _ _ _ [] nofun rfl (Low.refl _) ⟨rfl,oY,o2,?_⟩
     rw[eD]
     exact DX.op ⟨1,[],vs,ds,ss⟩ (by simpa[hc1] using hsY) (by simp) (by rw[zaW];simp[cO,AV.strip1])
   | false =>
    simp(disch:=first|omega|assumption) only[go_sem]
    refine zc (ze5 hl h.rd _) fun v H1 ⟨hv1,hH⟩=>?_
    subst hv1;subst hH
    cases hf:ZZ L [102,114,97,103,109,101,110,116] s with
    | false =>
     have e1:ZD L d s=(d,yV 2 s):=by unfold ZD;rw[hi,hq,hm,hf];rfl
     simp(disch:=first|omega|assumption) only[go_sem]
     refine zc (zfu h.rd 2) fun v H2 ⟨hv2,h2⟩=>?_
     subst hv2
     simp(disch:=first|omega|assumption) only[go_sem]
     exact hQ _ _ _ _ [] nofun rfl (Low.refl _) ⟨rfl,o1,o2,by rw[e1];exact h.call h2⟩
    | true =>
     have e1:ZD L d s=(⟨d.ops,d.frags++[(zge L (stepS s)).1]⟩,(zge L (stepS s)).2):=by
      unfold ZD;rw[hi,hq,hm,hf,zay hf];simp
     have hN:=Zb hl h.rd
     rw[zay hf] at hN
     simp(disch:=first|omega|assumption) only[go_sem]
     refine zc hN fun v H2 ⟨hv2,h2⟩=>?_
     subst hv2
     have D2:=h.call h2
     have P2:(stepS s).e=0→(stepS s).dp=16-((16:Nat):Int):=hd
     generalize stepS s=s1 at *
     simp(disch:=first|omega|assumption) only[go_sem]
     refine zc (zqF hl D2.rd) fun v H3 ⟨hv3,h3⟩=>?_
     subst hv3
     have D3:=D2.call h3
     have P3:=znT (L:=L) P2
     have eF0:zge L s1=zed L (Zk L s1).1 (zg L (zg L (onS L (Zk L s1).2)).2).1 (zg L (zg L (onS L (Zk L s1).2)).2).2:=rfl
     generalize (Zk L s1).1=nm at *
     generalize (Zk L s1).2=s2 at *
     simp(disch:=first|omega|assumption) only[go_sem]
     refine zh fun b4 hb4=>?_
     have n4:r≠b4:=fun e=>by subst e;rw[D3.rd] at hb4;cases hb4
     have n4d:b4≠bd:=fun e=>by subst e;rw[D3.box] at hb4;cases hb4
     simp(disch:=first|omega|assumption) only[go_sem]
     refine zc (ze5 hl (D3.new hb4 _).rd _) fun v H4 ⟨hv4,h4⟩=>?_
     subst hv4
     have D4:=D3.new hb4 (.cells [.str nm,.str [],.sl .nil 2 [],.sl .nil 7 []])
     rw[← h4] at D4
     have g4:H4 b4=some (.cells [.str nm,.str [],.sl .nil 2 [],.sl .nil 7 []]):=by rw[h4,upd_same]
     clear h4
     cases ho:ZZ L [111,110] s2 with
     | true =>
      have eo:onS L s2=s2:=by simp[onS,ho]
      rw[eo] at eF0
      simp(disch:=first|omega|assumption) only[go_sem]
      refine zc (Zb hl D4.rd) fun v H6 ⟨hv6,h6⟩=>?_
      subst hv6
      have D6:=D4.call h6
      have g6:=oth h6 n4 g4
      have P6:=y5 (L:=L) P3
      generalize (zg L s2).2=s6 at *
      simp(disch:=first|omega|assumption) only[go_sem]
      refine zc (Zb hl D6.rd) fun v H7 ⟨hv7,h7⟩=>?_
      subst hv7
      have D7:=D6.call h7
      have g7:=oth h7 n4 g6
      have P7:=y5 (L:=L) P6
      generalize (zg L s6).1=on at *
      generalize (zg L s6).2=s7 at *
      simp(disch:=first|omega|assumption) only[g7,go_sem]
      refine zc (zaB (k:=16) hl hn (Al4 _) (D7.cell g7 n4 n4d _).rd P7) fun v H8 ⟨hv8,h8⟩=>?_
      subst hv8
      have D8:=(D7.cell g7 n4 n4d _).call h8
      have g8:=oth h8 n4 (upd_same ..)
      have P8:=Yk (yN hn true 16 (Al4 _)) P7
      generalize hds:(z6 L true 16 s7).1=ds at *
      generalize hs8:(z6 L true 16 s7).2=s8 at *
      simp(disch:=first|omega|assumption) only[g8,go_sem]
      refine zc (zcg hl hn 16 (Al4 _) (D8.cell g8 n4 n4d _).rd P8) fun v H9 ⟨hv9,h9⟩=>?_
      subst hv9
      have D9:=(D8.cell g8 n4 n4d _).call h9
      have g9:=oth h9 n4 (upd_same ..)
      generalize hss:(yc L 16 s8).1=ss at *
      generalize hs9:(yc L 16 s8).2=s9 at *
      have eD:ZD L d s=(⟨d.ops,d.frags++[⟨nm,on,ds,ss⟩]⟩,s9):=by
       rw[e1,eF0];simp only[zed,hds,hs8,hss,hs9]
      have gb9:=D9.box
      have n4ds:=Ne.symm n4d
      simp(disch:=first|omega|assumption) only[g9,gb9,n4d,n4ds,go_sem]
      have DX:=D9.cell g9 n4 n4d (.cells [.str nm,.str on,.sl .no 2 (cDs ds),.sl .no 7 (cSs ss)])
      have gb:=DX.box
      refine zE (by rw[hc2];exact DX.own2) (by simp only[hc2,Al2,Al3];omega) (by simp only[hc2,Al2,Al3,maxLen];omega) fun oY HY hsY=>?_
      have gY:=yh DX.own2 gb hsY.kept
      simp(disch:=first|omega|assumption) only[gY,go_sem]
      refine hQ _ _ _ _ [] nofun rfl (Low.refl _) ⟨rfl,o1,oY,?_⟩
      rw[eD]
      exact DX.frag ⟨nm,on,ds,ss⟩ (by simpa[hc2] using hsY) (by simp) (by rw[ziC];simp[cF,AV.strip1])
     | false =>
      have eo:onS L s2=yV 2 s2:=by simp[onS,ho]
      rw[eo] at eF0
      have P4:(yV 2 s2).e=0→(yV 2 s2).dp=16-((16:Nat):Int):=zmk P3
      simp(disch:=first|omega|assumption) only[go_sem]
      refine zc (zfu D4.rd 2) fun v H5 ⟨hv5,h5⟩=>?_
      subst hv5
      have D5:=D4.call h5
      have g5:=oth h5 n4 g4
      generalize yV 2 s2=s3 at *
      simp(disch:=first|omega|assumption) only[go_sem]
      refine zc (Zb hl D5.rd) fun v H6 ⟨hv6,h6⟩=>?_
      subst hv6
      have D6:=D5.call h6
      have g6:=oth h6 n4 g5
      have P6:=y5 (L:=L) P4
      generalize (zg L s3).2=s6 at *
      simp(disch:=first|omega|assumption) only[go_sem]
      refine zc (Zb hl D6.rd) fun v H7 ⟨hv7,h7⟩=>?_
      subst hv7
      have D7:=D6.call h7
      have g7:=oth h7 n4 g6
      have P7:=y5 (L:=L) P6
      generalize (zg L s6).1=on at *
      generalize (zg L s6).2=s7 at *
      simp(disch:=first|omega|assumption) only[g7,go_sem]
      refine zc (zaB (k:=16) hl hn (Al4 _) (D7.cell g7 n4 n4d _).rd P7) fun v H8 ⟨hv8,h8⟩=>?_
      subst hv8
      have D8:=(D7.cell g7 n4 n4d _).call h8
      have g8:=oth h8 n4 (upd_same ..)
      have P8:=Yk (yN hn true 16 (Al4 _)) P7
      generalize hds:(z6 L true 16 s7).1=ds at *
      generalize hs8:(z6 L true 16 s7).2=s8 at *
      simp(disch:=first|omega|assumption) only[g8,go_sem]
      refine zc (zcg hl hn 16 (Al4 _) (D8.cell g8 n4 n4d _).rd P8) fun v H9 ⟨hv9,h9⟩=>?_
      subst hv9
      have D9:=(D8.cell g8 n4 n4d _).call h9
      have g9:=oth h9 n4 (upd_same ..)
      generalize hss:(yc L 16 s8).1=ss at *
      generalize hs9:(yc L 16 s8).2=s9 at *
      have eD:ZD L d s=(⟨d.ops,d.frags++[⟨nm,on,ds,ss⟩]⟩,s9):=by
       rw[e1,eF0];simp only[zed,hds,hs8,hss,hs9]
      have gb9:=D9.box
      have n4ds:=Ne.symm n4d
      simp(disch:=first|omega|assumption) only[g9,gb9,n4d,n4ds,go_sem]
      have DX:=D9.cell g9 n4 n4d (.cells [.str nm,.str on,.sl .no 2 (cDs ds),.sl .no 7 (cSs ss)])
      have gb:=DX.box
      refine zE (by rw[hc2];exact DX.own2) (by simp only[hc2,Al2,Al3];omega) (by simp only[hc2,Al2,Al3,maxLen];omega) fun oY HY hsY=>?_
      have gY:=yh DX.own2 gb hsY.kept
      simp(disch:=first|omega|assumption) only[gY,go_sem]
      refine hQ _ _ _ _ [] nofun rfl (Low.refl _) ⟨rfl,o1,oY,?_⟩
      rw[eD]
      exact DX.frag ⟨nm,on,ds,ss⟩ (by simpa[hc2] using hsY) (by simp) (by rw[ziC];simp[cF,AV.strip1])
end Go.Proofs.YticbbfbpeimkbaaGreatDoor

namespace Go.Proofs.YticbbfbpeimkbaaGreatDoor
open Go.Ab
theorem ze9 (a b:List DirD) (ha:bDs a≤Lim):zr Tryz.prog 153 [.sl .no 2 (cDs a),.sl .no 2 (cDs b)] (.bool (eqd a b)):=by
 refine zr.go ir153 ck153 (Al4 _) fun KP Q hQ=>?_
 have h1:=zfT a
 have h2:=zfT b
 have hla:=zpD a
 simp only[Lim] at ha
 by_cases hl:a.length=b.length
 case neg =>
  have hl':¬ ((a.length:Int)=b.length):=by omega
  have hne:a≠b:=fun e=>hl (by rw[e])
  simp(disch:=first|omega|assumption) only[ir153,h1,h2,hl',go_sem]
  exact hQ _ _ _ _ nofun rfl (by simp[zb,ze,AV.strip,AV.strip1,zp hne])
 have hl':((a.length:Int)=b.length)=True:=eq_true (by omega)
 simp(disch:=first|omega|assumption) only[ir153,h1,h2,hl',go_sem]
 refine Zf a 5 (fun _:Unit=>[]) (fun done rest n H=>b.take done.length=done) () (by simp(disch:=first|omega|assumption) only[go_sem]) rfl ?_ ?_
 ·rintro n H J hp hlt
  simp(disch:=first|omega|assumption) only[h1,hlt,go_sem]
  exact hQ _ _ _ _ nofun rfl (by simp[zb,ze,AV.strip,AV.strip1,yw (zb0 hl hp)])
 ·rintro done x rest n H J hd hlt _ hp hJ
  obtain⟨y,r,hb⟩:=zb1 hd hl hp
  have g1:=zlw hd
  have g2:=zlw hb
  have hlt2:(done.length:Int)<b.length:=by omega
  have hbm:=zpk done x rest
  rw[← hd] at hbm
  have hst:=zaF hb
  have hne:x≠y→a≠b:=zdS hd hb
  obtain⟨s,v⟩:=x
  obtain⟨t,u⟩:=y
  simp only[bD] at hbm
  by_cases hs:s=t
  case neg =>
   have hne2:=hne (by simp[hs])
   simp(disch:=first|omega|assumption) only[h1,h2,hlt,hlt2,g1,g2,hs,cD,go_sem]
   exact hQ _ _ _ _ nofun rfl (by simp[zb,ze,AV.strip,AV.strip1,zp hne2])
  simp(disch:=first|omega|assumption) only[h1,h2,hlt,hlt2,g1,g2,hs,cD,go_sem]
  refine zd (zjF v u (by simp only[Lim];omega)) ?_
  by_cases hv:v=u
  ·simp(disch:=first|omega|assumption) only[yw hv,go_sem]
   exact goJ (hJ () _ (by rw[hs,hv];exact hst)) (by simp(disch:=first|omega|assumption) only[wrap64,go_sem])
  ·have:=hne (by simp[hv])
   simp(disch:=first|omega|assumption) only[zp hv,go_sem]
   exact hQ _ _ _ _ nofun rfl (by simp[zb,ze,AV.strip,AV.strip1,zp this])
theorem zm2:∀ n:Nat,∀ a b:List SelD,bSs a≤n→n≤Lim→zr Tryz.prog 154 [.sl .no 7 (cSs a),.sl .no 7 (cSs b)] (.bool (eqd a b)):=by
 intro n
 induction n using Nat.strongRecOn with
 | _ n ih =>
 intro a b hn hN
 refine zr.go ir154 ck154 (Al4 _) fun KP Q hQ=>?_
 have h1:=zfN a
 have h2:=zfN b
 have hla:=zmp a
 have hN':=hN
 simp only[Lim] at hN'
 by_cases hl:a.length=b.length
 case neg =>
  have hl':¬ ((a.length:Int)=b.length):=by omega
  have hne:a≠b:=fun e=>hl (by rw[e])
  simp(disch:=first|omega|assumption) only[ir154,h1,h2,hl',go_sem]
  exact hQ _ _ _ _ nofun rfl (by simp[zb,ze,AV.strip,AV.strip1,zp hne])
 have hl':((a.length:Int)=b.length)=True:=eq_true (by omega)
 simp(disch:=first|omega|assumption) only[ir154,h1,h2,hl',go_sem]
 refine Zf a 5 (fun _:Unit=>[]) (fun done rest n H=>b.take done.length=done) () (by simp(disch:=first|omega|assumption) only[go_sem]) rfl ?_ ?_
 ·rintro n H J hp hlt
  simp(disch:=first|omega|assumption) only[h1,hlt,go_sem]
  exact hQ _ _ _ _ nofun rfl (by simp[zb,ze,AV.strip,AV.strip1,yw (zb0 hl hp)])
 ·rintro done x rest _ H J hd hlt _ hp hJ
  obtain⟨y,r,hb⟩:=zb1 hd hl hp
  have g1:=zlL hd
  have g2:=zlL hb
  have hlt2:(done.length:Int)<b.length:=by omega
  have hbm:=zql done x rest
  rw[← hd] at hbm
  have hst:=zaF hb
  have hne:x≠y→a≠b:=zdS hd hb
  obtain⟨k,al,nm,args,dirs,on,sels⟩:=x
  obtain⟨k',al',nm',args',dirs',on',sels'⟩:=y
  simp only[bS] at hbm
  rw[ztG] at g1 g2
  simp(disch:=first|omega|assumption) only[h1,h2,hlt,hlt2,g1,g2,go_sem]
  refine zh fun b6 hb6=>?_
  simp(disch:=first|omega|assumption) only[h1,h2,hlt,hlt2,g1,g2,go_sem]
  refine zh fun b7 hb7=>?_
  have n76:b7≠b6:=fun e=>by subst e;rw[upd_same] at hb7;cases hb7
  have n67:=Ne.symm n76
  simp(disch:=first|omega|assumption) only[h1,h2,hlt,hlt2,g1,g2,n67,n76,go_sem]
  by_cases e1:k=k'
  case neg =>
   have hne2:=hne (by simp[e1])
   simp(disch:=first|omega|assumption) only[e1,n67,n76,go_sem]
   exact hQ _ _ _ _ nofun rfl (by simp[zb,ze,AV.strip,AV.strip1,zp hne2])
  by_cases e2:al=al'
  case neg =>
   have hne2:=hne (by simp[e2])
   simp(disch:=first|omega|assumption) only[e1,e2,n67,n76,go_sem]
   exact hQ _ _ _ _ nofun rfl (by simp[zb,ze,AV.strip,AV.strip1,zp hne2])
  by_cases e3:nm=nm'
  case neg =>
   have hne2:=hne (by simp[e3])
   simp(disch:=first|omega|assumption) only[e1,e2,e3,n67,n76,go_sem]
   exact hQ _ _ _ _ nofun rfl (by simp[zb,ze,AV.strip,AV.strip1,zp hne2])
  by_cases e4:on=on'
  case neg =>
   have hne2:=hne (by simp[e4])
   simp(disch:=first|omega|assumption) only[e1,e2,e3,e4,n67,n76,go_sem]
   exact hQ _ _ _ _ nofun rfl (by simp[zb,ze,AV.strip,AV.strip1,zp hne2])
  simp(disch:=first|omega|assumption) only[e1,e2,e3,e4,n67,n76,go_sem]
  refine zd (zjF args args' (by omega)) ?_
  by_cases e5:args=args'
  case neg =>
   have hne2:=hne (by simp[e5])
   simp(disch:=first|omega|assumption) only[zp e5,n67,n76,go_sem]
   exact hQ _ _ _ _ nofun rfl (by simp[zb,ze,AV.strip,AV.strip1,zp hne2])
  simp(disch:=first|omega|assumption) only[yw e5,n67,n76,go_sem]
  refine zd (ze9 dirs dirs' (by omega)) ?_
  by_cases e6:dirs=dirs'
  case neg =>
   have hne2:=hne (by simp[e6])
   simp(disch:=first|omega|assumption) only[zp e6,n67,n76,go_sem]
   exact hQ _ _ _ _ nofun rfl (by simp[zb,ze,AV.strip,AV.strip1,zp hne2])
  simp(disch:=first|omega|assumption) only[yw e6,n67,n76,go_sem]
  refine zd (ih (bSs sels) (by omega) sels sels' (Al4 _) (by omega)) ?_
  by_cases e7:sels=sels'
  case neg =>
   have hne2:=hne (by simp[e7])
   simp(disch:=first|omega|assumption) only[zp e7,n67,n76,go_sem]
   exact hQ _ _ _ _ nofun rfl (by simp[zb,ze,AV.strip,AV.strip1,zp hne2])
  simp(disch:=first|omega|assumption) only[yw e7,n67,n76,go_sem]
  exact goJ (hJ () _ (by rw[e1,e2,e3,e4,e5,e6,e7];exact hst)) (by simp(disch:=first|omega|assumption) only[wrap64,go_sem])
theorem zh7 (a b:List SelD) (ha:bSs a≤Lim):zr Tryz.prog 154 [.sl .no 7 (cSs a),.sl .no 7 (cSs b)] (.bool (eqd a b)):=zm2 (bSs a) a b (Al4 _) ha
theorem zpN (a b:OpD) (ha:bO a≤Lim):zr Tryz.prog 85 [.agg (cO a),.agg (cO b)] (.bool (eqd a b)):=by
 refine zr.go ir85 ck85 (Al4 _) fun KP Q hQ=>?_
 obtain⟨k,nm,vars,dirs,sels⟩:=a
 obtain⟨k',nm',vars',dirs',sels'⟩:=b
 simp only[bO] at ha
 have h1:=zeh vars
 have h2:=zeh vars'
 have hla:=zqu vars
 have ha':=ha
 simp only[Lim] at ha'
 simp(disch:=first|omega|assumption) only[ir85,cO,go_sem]
 by_cases e1:k=k'
 case neg =>
  have hne:OpD.mk k nm vars dirs sels≠OpD.mk k' nm' vars' dirs' sels':=by simp[e1]
  simp(disch:=first|omega|assumption) only[e1,go_sem]
  exact hQ _ _ _ _ nofun rfl (by simp[zb,ze,AV.strip,AV.strip1,zp hne])
 by_cases e2:nm=nm'
 case neg =>
  have hne:OpD.mk k nm vars dirs sels≠OpD.mk k' nm' vars' dirs' sels':=by simp[e2]
  simp(disch:=first|omega|assumption) only[e1,e2,go_sem]
  exact hQ _ _ _ _ nofun rfl (by simp[zb,ze,AV.strip,AV.strip1,zp hne])
 by_cases hl:vars.length=vars'.length
 case neg =>
  have hl':¬ ((vars.length:Int)=vars'.length):=by omega
  have hne:OpD.mk k nm vars dirs sels≠OpD.mk k' nm' vars' dirs' sels':=fun e=>hl (by rw[(OpD.mk.inj e).2.2.1])
  simp(disch:=first|omega|assumption) only[e1,e2,h1,h2,hl',go_sem]
  exact hQ _ _ _ _ nofun rfl (by simp[zb,ze,AV.strip,AV.strip1,zp hne])
 have hl':((vars.length:Int)=vars'.length)=True:=eq_true (by omega)
 simp(disch:=first|omega|assumption) only[e1,e2,h1,h2,hl',go_sem]
 refine zd (ze9 dirs dirs' (by omega)) ?_
 by_cases e3:dirs=dirs'
 case neg =>
  have hne:OpD.mk k nm vars dirs sels≠OpD.mk k' nm' vars' dirs' sels':=by simp[e3]
  simp(disch:=first|omega|assumption) only[zp e3,go_sem]
  exact hQ _ _ _ _ nofun rfl (by simp[zb,ze,AV.strip,AV.strip1,zp hne])
 simp(disch:=first|omega|assumption) only[yw e3,go_sem]
 refine zd (zh7 sels sels' (by omega)) ?_
 by_cases e4:sels=sels'
 case neg =>
  have hne:OpD.mk k nm vars dirs sels≠OpD.mk k' nm' vars' dirs' sels':=by simp[e4]
  simp(disch:=first|omega|assumption) only[zp e4,go_sem]
  exact hQ _ _ _ _ nofun rfl (by simp[zb,ze,AV.strip,AV.strip1,zp hne])
 simp(disch:=first|omega|assumption) only[yw e4,go_sem]
 refine Zf vars 5 (fun _:Unit=>[]) (fun done rest n H=>vars'.take done.length=done) () (by simp(disch:=first|omega|assumption) only[go_sem]) rfl ?_ ?_
 ·rintro n H J hp hlt
  have e5:=zb0 hl hp
  simp(disch:=first|omega|assumption) only[h1,hlt,go_sem]
  have heq:OpD.mk k nm vars dirs sels=OpD.mk k' nm' vars' dirs' sels':=by rw[e1,e2,e3,e4,e5]
  exact hQ _ _ _ _ nofun rfl (by simp[zb,ze,AV.strip,AV.strip1,yw heq])
 ·rintro done x rest _ H J hd hlt _ hp hJ
  obtain⟨y,r,hb⟩:=zb1 hd hl hp
  have g1:=zlK hd
  have g2:=zlK hb
  have hlt2:(done.length:Int)<vars'.length:=by omega
  have hbm:=zpZ done x rest
  rw[← hd] at hbm
  have hst:=zaF hb
  have hne0:x≠y→vars≠vars':=zdS hd hb
  have hne:x≠y→OpD.mk k nm vars dirs sels≠OpD.mk k' nm' vars' dirs' sels':=fun h e=>hne0 h (OpD.mk.inj e).2.2.1
  obtain⟨vn,⟨tn,tl,tm⟩,vh,vd⟩:=x
  obtain⟨vn',⟨tn',tl',tm'⟩,vh',vd'⟩:=y
  simp only[bW] at hbm
  obtain⟨dk,dn,ds,dl,dm⟩:=vd
  obtain⟨dk',dn',ds',dl',dm'⟩:=vd'
  rw[zgE,zhJ] at g1 g2
  simp only at g1 g2
  simp(disch:=first|omega|assumption) only[h1,h2,hlt,hlt2,g1,g2,go_sem]
  refine zh fun b6 hb6=>?_
  simp(disch:=first|omega|assumption) only[h1,h2,hlt,hlt2,g1,g2,go_sem]
  refine zh fun b7 hb7=>?_
  have n76:b7≠b6:=fun e=>by subst e;rw[upd_same] at hb7;cases hb7
  have n67:=Ne.symm n76
  simp(disch:=first|omega|assumption) only[h1,h2,hlt,hlt2,g1,g2,n67,n76,go_sem]
  by_cases f1:vn=vn'
  case neg =>
   have hne2:=hne (by simp[f1])
   simp(disch:=first|omega|assumption) only[f1,n67,n76,go_sem]
   exact hQ _ _ _ _ nofun rfl (by simp[zb,ze,AV.strip,AV.strip1,zp hne2])
  by_cases f3:tn=tn'
  case neg =>
   have hne2:=hne (by simp[f3])
   simp(disch:=first|omega|assumption) only[f1,f3,n67,n76,yk,K1.fits,zbQ,AV.keq1,Bool.and_true,Bool.true_and,Bool.and_false,Bool.false_and,decide_true,decide_false,go_sem]
   exact hQ _ _ _ _ nofun rfl (by simp[zb,ze,AV.strip,AV.strip1,zp hne2])
  by_cases f4:tl=tl'
  case neg =>
   have hne2:=hne (by simp[f4])
   simp(disch:=first|omega|assumption) only[f1,f3,f4,n67,n76,yk,K1.fits,zbQ,AV.keq1,Bool.and_true,Bool.true_and,Bool.and_false,Bool.false_and,decide_true,decide_false,go_sem]
   exact hQ _ _ _ _ nofun rfl (by simp[zb,ze,AV.strip,AV.strip1,zp hne2])
  by_cases f5:tm=tm'
  case neg =>
   have hne2:=hne (by simp[f5])
   simp(disch:=first|omega|assumption) only[f1,f3,f4,f5,n67,n76,yk,K1.fits,zbQ,AV.keq1,Bool.and_true,Bool.true_and,Bool.and_false,Bool.false_and,decide_true,decide_false,go_sem]
   exact hQ _ _ _ _ nofun rfl (by simp[zb,ze,AV.strip,AV.strip1,zp hne2])
  have q1:(false==true)=false:=rfl
  have q2:(true==false)=false:=rfl
  have q3:(true==true)=true:=rfl
  have q4:(false==false)=true:=rfl
  by_cases f6:vh=vh'
  case neg =>
   have hne2:=hne (by simp[f6])
   cases vh<;>cases vh'<;>first|exact absurd rfl f6|skip
   all_goals
    simp(disch:=first|omega|assumption) only[f1,f3,f4,f5,n67,n76,q1,q2,q3,q4,Bool.not_true,Bool.not_false,yk,K1.fits,zbQ,AV.keq1,Bool.and_true,Bool.true_and,Bool.and_false,Bool.false_and,decide_true,decide_false,go_sem]
    exact hQ _ _ _ _ nofun rfl (by simp[zb,ze,AV.strip,AV.strip1,zp hne2])
  subst f6
  cases vh
  all_goals
   simp(disch:=first|omega|assumption) only[f1,f3,f4,f5,n67,n76,q1,q2,q3,q4,Bool.not_true,Bool.not_false,yk,K1.fits,zbQ,AV.keq1,Bool.and_true,Bool.true_and,Bool.and_false,Bool.false_and,decide_true,decide_false,go_sem]
   refine zd (zqR (.mk dk dn ds dl dm) (by omega) (.mk dk' dn' ds' dl' dm')) ?_
   by_cases f7:Val.mk dk dn ds dl dm=.mk dk' dn' ds' dl' dm'
   case neg =>
    have hne2:=hne (fun e=>f7 (VarD.mk.inj e).2.2.2)
    simp(disch:=first|omega|assumption) only[zp f7,go_sem]
    exact hQ _ _ _ _ nofun rfl (by simp[zb,ze,AV.strip,AV.strip1,zp hne2])
   simp(disch:=first|omega|assumption) only[yw f7,go_sem]
   exact goJ (hJ () _ (by rw[f1,f3,f4,f5,f7];exact hst)) (by simp(disch:=first|omega|assumption) only[wrap64,go_sem])
theorem zmM (a b:FragD) (ha:bF a≤Lim):zr Tryz.prog 86 [.agg (cF a),.agg (cF b)] (.bool (eqd a b)):=by
 refine zr.go ir86 ck86 (Al4 _) fun KP Q hQ=>?_
 obtain⟨nm,on,dirs,sels⟩:=a
 obtain⟨nm',on',dirs',sels'⟩:=b
 simp only[bF] at ha
 have ha':=ha
 simp only[Lim] at ha'
 simp(disch:=first|omega|assumption) only[ir86,cF,go_sem]
 by_cases e1:nm=nm'
 case neg =>
  have hne:FragD.mk nm on dirs sels≠FragD.mk nm' on' dirs' sels':=by simp[e1]
  simp(disch:=first|omega|assumption) only[e1,go_sem]
  exact hQ _ _ _ _ nofun rfl (by simp[zb,ze,AV.strip,AV.strip1,zp hne])
 by_cases e2:on=on'
 case neg =>
  have hne:FragD.mk nm on dirs sels≠FragD.mk nm' on' dirs' sels':=by simp[e2]
  simp(disch:=first|omega|assumption) only[e1,e2,go_sem]
  exact hQ _ _ _ _ nofun rfl (by simp[zb,ze,AV.strip,AV.strip1,zp hne])
 simp(disch:=first|omega|assumption) only[e1,e2,go_sem]
 refine zd (ze9 dirs dirs' (by omega)) ?_
 by_cases e3:dirs=dirs'
 case neg =>
  have hne:FragD.mk nm on dirs sels≠FragD.mk nm' on' dirs' sels':=by simp[e3]
  simp(disch:=first|omega|assumption) only[zp e3,go_sem]
  exact hQ _ _ _ _ nofun rfl (by simp[zb,ze,AV.strip,AV.strip1,zp hne])
 simp(disch:=first|omega|assumption) only[yw e3,go_sem]
 refine zd (zh7 sels sels' (by omega)) ?_
 by_cases e4:sels=sels'
 case neg =>
  have hne:FragD.mk nm on dirs sels≠FragD.mk nm' on' dirs' sels':=by simp[e4]
  simp(disch:=first|omega|assumption) only[zp e4,go_sem]
  exact hQ _ _ _ _ nofun rfl (by simp[zb,ze,AV.strip,AV.strip1,zp hne])
 have heq:FragD.mk nm on dirs sels=FragD.mk nm' on' dirs' sels':=by rw[e1,e2,e3,e4]
 simp(disch:=first|omega|assumption) only[yw e4,go_sem]
 exact hQ _ _ _ _ nofun rfl (by simp[zb,ze,AV.strip,AV.strip1,yw heq])
theorem zo2 (a b:DocD) (ha:ze0 a≤Lim):zr Tryz.prog 34 [.agg (zdW a),.agg (zdW b)] (.bool (eqd a b)):=by
 refine zr.go ir34 ck34 (Al4 _) fun KP Q hQ=>?_
 obtain⟨ops,frags⟩:=a
 obtain⟨ops',frags'⟩:=b
 simp only[ze0] at ha
 have h1:=zfW ops
 have h2:=zfW ops'
 have h3:=zfP frags
 have h4:=zfP frags'
 have hla:=zpj ops
 have hlb:=zp0 frags
 have ha':=ha
 simp only[Lim] at ha'
 have ea:zdW ⟨ops,frags⟩=[.sl .no 5 (cOs ops),.sl .no 4 (cFs frags)]:=rfl
 have eb:zdW ⟨ops',frags'⟩=[.sl .no 5 (cOs ops'),.sl .no 4 (cFs frags')]:=rfl
 rw[ea,eb]
 by_cases hl:ops.length=ops'.length
 case neg =>
  have hl':¬ ((ops.length:Int)=ops'.length):=by omega
  have hne:DocD.mk ops frags≠DocD.mk ops' frags':=fun e=>hl (by rw[(DocD.mk.inj e).1])
  simp(disch:=first|omega|assumption) only[ir34,h1,h2,hl',go_sem]
  exact hQ _ _ _ _ nofun rfl (by simp[zb,ze,AV.strip,AV.strip1,zp hne])
 have hl':((ops.length:Int)=ops'.length)=True:=eq_true (by omega)
 by_cases hk:frags.length=frags'.length
 case neg =>
  have hk':¬ ((frags.length:Int)=frags'.length):=by omega
  have hne:DocD.mk ops frags≠DocD.mk ops' frags':=fun e=>hk (by rw[(DocD.mk.inj e).2])
  simp(disch:=first|omega|assumption) only[ir34,h1,h2,hl',h3,h4,hk',go_sem]
  exact hQ _ _ _ _ nofun rfl (by simp[zb,ze,AV.strip,AV.strip1,zp hne])
 have hk':((frags.length:Int)=frags'.length)=True:=eq_true (by omega)
 simp(disch:=first|omega|assumption) only[ir34,h1,h2,hl',h3,h4,hk',go_sem]
 refine Zf ops 5 (fun _:Unit=>[]) (fun done rest n H=>ops'.take done.length=done) () (by simp(disch:=first|omega|assumption) only[go_sem]) rfl ?_ ?_
 ·rintro n H J hp hlt
  have e5:=zb0 hl hp
  simp(disch:=first|omega|assumption) only[h1,hlt,go_sem]
  refine Zf frags 6 (fun _:Unit=>[]) (fun done rest n H=>frags'.take done.length=done) () (by simp(disch:=first|omega|assumption) only[go_sem]) rfl ?_ ?_
  ·rintro n H J hp hlt
   have e6:=zb0 hk hp
   have heq:DocD.mk ops frags=DocD.mk ops' frags':=by rw[e5,e6]
   simp(disch:=first|omega|assumption) only[h3,hlt,go_sem]
   exact hQ _ _ _ _ nofun rfl (by simp[zb,ze,AV.strip,AV.strip1,yw heq])
  ·rintro done x rest _ H J hd hlt _ hp hJ
   obtain⟨y,r,hb⟩:=zb1 hd hk hp
   have g1:=zmf hd
   have g2:=zmf hb
   have hlt2:(done.length:Int)<frags'.length:=by omega
   have hbm:=zpA done x rest
   rw[← hd] at hbm
   have hst:=zaF hb
   have hne0:x≠y→frags≠frags':=zdS hd hb
   have hne:x≠y→DocD.mk ops frags≠DocD.mk ops' frags':=fun e e2=>hne0 e (DocD.mk.inj e2).2
   have hS:=zmM x y (by simp only[Lim];omega)
   obtain⟨nm,on,dirs,sels⟩:=x
   obtain⟨nm',on',dirs',sels'⟩:=y
   have ex:cF ⟨nm,on,dirs,sels⟩=[.str nm,.str on,.sl .no 2 (cDs dirs),.sl .no 7 (cSs sels)]:=rfl
   have ey:cF ⟨nm',on',dirs',sels'⟩=[.str nm',.str on',.sl .no 2 (cDs dirs'),.sl .no 7 (cSs sels')]:=rfl
   rw[ex] at g1 hS
   rw[ey] at g2 hS
   simp(disch:=first|omega|assumption) only[h3,h4,hlt,hlt2,g1,g2,go_sem]
   refine zd hS ?_
   by_cases hv:FragD.mk nm on dirs sels=FragD.mk nm' on' dirs' sels'
   ·simp(disch:=first|omega|assumption) only[yw hv,go_sem]
    exact goJ (hJ () _ (by rw[hv];exact hst)) (by simp(disch:=first|omega|assumption) only[wrap64,go_sem])
   ·have:=hne hv
    simp(disch:=first|omega|assumption) only[zp hv,go_sem]
    exact hQ _ _ _ _ nofun rfl (by simp[zb,ze,AV.strip,AV.strip1,zp this])
 ·rintro done x rest _ H J hd hlt _ hp hJ
  obtain⟨y,r,hb⟩:=zb1 hd hl hp
  have g1:=zlP hd
  have g2:=zlP hb
  have hlt2:(done.length:Int)<ops'.length:=by omega
  have hbm:=zqH done x rest
  rw[← hd] at hbm
  have hst:=zaF hb
  have hne0:x≠y→ops≠ops':=zdS hd hb
  have hne:x≠y→DocD.mk ops frags≠DocD.mk ops' frags':=fun e e2=>hne0 e (DocD.mk.inj e2).1
  have hS:=zpN x y (by simp only[Lim];omega)
  obtain⟨k,nm,vars,dirs,sels⟩:=x
  obtain⟨k',nm',vars',dirs',sels'⟩:=y
  have ex:cO ⟨k,nm,vars,dirs,sels⟩=[.int .i64 k,.str nm,.sl .no 10 (cWs vars),.sl .no 2 (cDs dirs),.sl .no 7 (cSs sels)]:=rfl
  have ey:cO ⟨k',nm',vars',dirs',sels'⟩=[.int .i64 k',.str nm',.sl .no 10 (cWs vars'),.sl .no 2 (cDs dirs'),.sl .no 7 (cSs sels')]:=rfl
  rw[ex] at g1 hS
  rw[ey] at g2 hS
  simp(disch:=first|omega|assumption) only[h1,h2,hlt,hlt2,g1,g2,go_sem]
  refine zd hS ?_
  by_cases hv:OpD.mk k nm vars dirs sels=OpD.mk k' nm' vars' dirs' sels'
  ·simp(disch:=first|omega|assumption) only[yw hv,go_sem]
   exact goJ (hJ () _ (by rw[hv];exact hst)) (by simp(disch:=first|omega|assumption) only[wrap64,go_sem])
  ·have:=hne hv
   simp(disch:=first|omega|assumption) only[zp hv,go_sem]
   exact hQ _ _ _ _ nofun rfl (by simp[zb,ze,AV.strip,AV.strip1,zp this])
theorem zpR {s:List UInt8} {L:List Tok} {d:DocD} {t:TS} (h:Zj s=.ok L) (h2:zfg L=.ok (d,t)):YJ s=(d,0):=by unfold YJ;rw[h];simp only[h2]
theorem zkY (s:List UInt8):((YJ s).2≠0∧(YJ s).1=⟨[],[]⟩)∨∃ L d,Zj s=.ok L∧zfg L=.ok (d,[])∧YJ s=(d,0):=by
 cases h:Zj s with
 | error n=>left;unfold YJ;rw[h];exact⟨zcZ h,rfl⟩
 | ok L =>
  cases h2:zfg L with
  | error n=>left;unfold YJ;rw[h];simp only[h2];exact⟨zmw h h2,trivial⟩
  | ok x =>
   obtain⟨d,t⟩:=x
   obtain rfl:=(zjP h2).1
   exact .inr ⟨L,d,rfl,h2,zpR h h2⟩
theorem zrC (s:List UInt8):ze0 (YJ s).1≤z1∧zgH (YJ s).1:=by
 rcases zkY s with ⟨_,h⟩|⟨L,d,h1,h2,h3⟩
 ·rw[h];exact⟨by simp[ze0,bOs,bFs],by simp[zgH]⟩
 ·rw[h3]
  have:=zjP h2
  have hw:=ziP h1
  exact⟨by simp only;omega,this.2.2⟩
def zsL:List UInt8:=[123,97,32,46,46,46,111,110,32,66,123,99,125,125]
def zsF:List UInt8:=[113,117,101,114,121,40,36,120,58,73,110,116,61,36,121,41,123,97,125]
def awD:DocD:=⟨[⟨0,[],[],[],[.mk 0 [] [97] [] [] [] [],.mk 2 [] [] [] [] [66] [.mk 0 [] [99] [] [] [] []]]⟩],[]⟩
theorem aw1:YJ zsL=(awD,0):=by kernel_rfl
theorem aw2:YJ zsF=(⟨[],[]⟩,2):=by kernel_rfl
theorem zlF:zr Tryz.prog 39 [] (.bool true):=by
 refine zr.go ir39 ck39 (Al4 _) fun KP Q hQ=>?_
 have h1:=zdt zsL (by decide)
 have h2:=zdt zsF (by decide)
 rw[aw1] at h1
 rw[aw2] at h2
 have ed:zdW awD=[.sl .no 5 [[.int .i64 0,.str [],.sl .no 10 [],.sl .no 2 [],.sl .no 7 [[.int .i64 0,.str [],.str [97],.sl .no 6 [],.sl .no 2 [],.str [],.sl .no 7 []],[.int .i64 2,.str [],.str [],.sl .no 6 [],.sl .no 2 [],.str [66],.sl .no 7 [[.int .i64 0,.str [],.str [99],.sl .no 6 [],.sl .no 2 [],.str [],.sl .no 7 []]]]]]],.sl .no 4 []]:=rfl
 have ez:zdW ⟨[],[]⟩=[.sl .no 5 [],.sl .no 4 []]:=rfl
 simp(disch:=first|omega|assumption) only[ir39,go_sem]
 refine zd (h1:zr Tryz.prog 40 [.str _] _) ?_
 simp(disch:=first|omega|assumption) only[ed,go_sem]
 refine zh fun b1 hb1=>?_
 simp(disch:=first|omega|assumption) only[go_sem]
 refine zd (h2:zr Tryz.prog 40 [.str _] _) ?_
 simp(disch:=first|omega|assumption) only[ez,go_sem]
 refine zh fun b2 hb2=>?_
 have h21:b2≠b1:=fun e=>by subst e;rw[upd_same] at hb2;cases hb2
 simp(disch:=first|omega|assumption) only[Ne.symm h21,h21,Al2,Al3,List.getD_cons_zero,List.getD_cons_succ,go_sem]
 exact hQ _ _ _ _ nofun rfl (by simp[zb,ze,AV.strip,AV.strip1])
theorem ziZ {f:FuncId} {args:List AV} {H:za} {b:Nat} {x:AObj} {Q:AEnd→za→Prop} (hb:H b=some x) (h:zf Tryz.prog f args (H.del b) Q) :
  zf Tryz.prog f args H (fun e H'=>∃ A,Q e A∧A b=none∧H'=za.union A (za.one b x)):=by
 have hd:za.Disj (H.del b) (za.one b x):=fun c=>by
  by_cases e:c=b
  ·subst e;exact .inl (by simp[za.del])
  ·exact .inr (by simp[za.one,e])
 have hu:H=za.union (H.del b) (za.one b x):=by
  funext c
  by_cases e:c=b
  ·subst e;simp[za.union,za.del,za.one,hb]
  ·simp[za.union,za.del,za.one,e]
 have h2:=zf.frame hd h
 rw[← hu] at h2
 refine h2.mono fun e H' ⟨A,q,hd',hH⟩=>⟨A,q,?_,hH⟩
 rcases hd' b with h|h
 ·exact h
 ·simp[za.one] at h
structure TokQ (s:List UInt8) (L:TS) (e:Int):Prop where
 tok:readA (Zj s)=.tup [.sl .no 2 (cKs L),.int .i64 e]
 w:wT L≤z1
 num:∀ x∈L,Zh x
 or:(e=0∧Zj s=.ok L)∨(e≠0∧Zj s=.error e)
theorem ztS (s:List UInt8):∃ L e,TokQ s L e:=by
 cases h:Zj s with
 | error n=>exact⟨[],n,by rw[h];rfl,by simp[wT],(fun x hx=>nomatch hx),.inr ⟨zcZ h,h⟩⟩
 | ok L=>exact⟨L,0,by rw[h];rfl,ziP h,fun x hx=>zmZ (za8.1 (zjj h) x hx),.inl ⟨rfl,h⟩⟩
theorem zol {L:TS} (hn:∀ x∈L,Zh x) (d:DocD) {s:St} (he:s.e=0) (hd:s.dp=0):mS L (ZD L d s).2<mS L s∧((ZD L d s).2.e=0→(ZD L d s).2.dp=0):=by
 obtain⟨i,dp,e⟩:=s
 simp only at he hd
 subst he;subst hd
 have hr:=zgr hn d i
 cases hx:Yp d (L.drop i) with
 | error n =>
  rw[hx] at hr
  have h0:¬ ((ZD L d ⟨i,0,0⟩).2.e=0):=by rw[hr.2];exact hr.1
  exact⟨by simp[mS,h0],fun h=>absurd h h0⟩
 | ok y =>
  obtain⟨a,t'⟩:=y
  rw[hx] at hr
  obtain⟨i',h1,h2⟩:=hr
  have hlt:=(zek hx).lt
  rw[h1] at hlt
  rw[h2]
  exact⟨by simp only[mS,if_true];omega,fun _=>rfl⟩
theorem zqk (L:TS) (d:DocD) (s:St):(ZD L d s).1.ops.length+(ZD L d s).1.frags.length≤d.ops.length+d.frags.length+1:=by
 unfold ZD
 repeat' split
 all_goals simp
 all_goals omega
theorem zt2 {s:List UInt8} {L:TS} {e:Int} (h:TokQ s L e) {R:DocD×St} (hR:zbs L (L.length+2) true ⟨[],[]⟩ ⟨0,0,e⟩=R) :
  (R.2.e=0→YJ s=(R.1,0))∧(R.2.e≠0→YJ s=(⟨[],[]⟩,R.2.e)):=by
 rcases h.or with ⟨he,ht⟩|⟨he,ht⟩
 ·subst he
  have hr:=zpb h.num
  rw[hR] at hr
  cases hx:zfg L with
  | error n =>
   rw[hx] at hr
   refine⟨fun h0=>absurd h0 (by rw[hr.2];exact hr.1),fun _=>?_⟩
   unfold YJ;rw[ht];simp only[hx];rw[hr.2]
  | ok y =>
   obtain⟨a,t'⟩:=y
   rw[hx] at hr
   obtain⟨i',h1,h2⟩:=hr
   rw[h2]
   refine⟨fun _=>?_,fun h0=>absurd rfl h0⟩
   unfold YJ;rw[ht];simp only[hx]
 ·rw[zfe he] at hR
  subst hR
  exact⟨fun h0=>absurd h0 he,fun _=>by unfold YJ;rw[ht]⟩
theorem DS.del {L:TS} {r bd b:Nat} {H:za} {s:St} {d:DocD} {o1 o2:Own} {cs:List AV} (h:DS L r bd H s d o1 o2) (hb:H b=some (.cells cs)) (h1:r≠b) (h2:bd≠b):DS L r bd (H.del b) s d o1 o2:=by
 have own:∀(o:Own) (n sz:Nat),yq H o n sz→yq (H.del b) o n sz:=fun o n sz ho=>by
  cases o with
  | tip c y =>
   have h5:H c=some _:=ho
   have:c≠b:=fun e=>by rw[e,hb] at h5;cases h5
   show (H.del b) c=_
   simp[za.del,this,h5]
  | no=>exact ho
  | nil=>exact ho
  | full=>exact ho
 exact⟨by simp[za.del,h1,h.rd],by simp[za.del,h2,h.box],own _ _ _ h.own1,own _ _ _ h.own2,h.sep,h.ne⟩
theorem DS.un {L:TS} {r bd:Nat} {A B:za} {s:St} {d:DocD} {o1 o2:Own} (h:DS L r bd A s d o1 o2):DS L r bd (za.union A B) s d o1 o2:=by
 have own:∀(o:Own) (n sz:Nat),yq A o n sz→yq (za.union A B) o n sz:=fun o n sz ho=>by
  cases o with
  | tip c y =>
   have h5:A c=some _:=ho
   show (za.union A B) c=_
   simp[za.union,h5]
  | no=>exact ho
  | nil=>exact ho
  | full=>exact ho
 exact⟨by simp[za.union,h.rd],by simp[za.union,h.box],own _ _ _ h.own1,own _ _ _ h.own2,h.sep,h.ne⟩
theorem zrK (s:List UInt8) (hs:s.length≤ZQ):zr Tryz.prog 41 [.str s] (.tup [.agg (zdW (YJ s).1),.int .i64 (YJ s).2]):=by
 refine zr.go ir41 ck41 (Al4 _) fun KP Q hQ=>?_
 obtain⟨L,e,hq⟩:=ztS s
 have hl:=hq.w
 have hll:L.length≤z1:=Nat.le_trans (ZH L) hl
 simp only[z1] at hll
 have hcl:=zcQ L
 obtain⟨R,hR⟩:∃ R,zbs L (L.length+2) true ⟨[],[]⟩ ⟨0,0,e⟩=R:=⟨_,rfl⟩
 obtain⟨q1,q2⟩:=zt2 hq hR
 have ht:=zp2 s hs
 rw[hq.tok] at ht
 simp(disch:=first|omega|assumption) only[ir41,go_sem]
 refine zh fun b2 hb2=>?_
 simp(disch:=first|omega|assumption) only[go_sem]
 refine zd (zr.low ht) ?_
 simp(disch:=first|omega|assumption) only[go_sem]
 refine zh fun br hbr=>?_
 have hr2:br≠b2:=fun e=>by subst e;rw[upd_same] at hbr;cases hbr
 simp(disch:=first|omega|assumption) only[go_sem]
 refine zh fun bd hbd=>?_
 have hdr:bd≠br:=fun e=>by subst e;rw[upd_same] at hbd;cases hbd
 have hd2:bd≠b2:=fun e=>by subst e;rw[upd_ne (Ne.symm hr2),upd_same] at hbd;cases hbd
 obtain⟨H0,hH0⟩:∃ H0,H0=(((za.emp).upd b2 (.cells [.sl .nil 5 [],.sl .nil 4 []])).upd br (.cells [.sl .no 2 (cKs L),.int .i64 0,.int .i64 0,.int .i64 e])).upd bd (.cells [.sl .nil 5 [],.sl .nil 4 []]):=⟨_,rfl⟩
 have D0:DS L br bd H0 ⟨0,0,e⟩ ⟨[],[]⟩ .nil .nil:=⟨by rw[hH0,upd_ne (Ne.symm hdr),upd_same];rfl,by rw[hH0,upd_same];rfl,rfl,rfl,nofun,Ne.symm hdr⟩
 have g20:H0 b2=some (.cells [.sl .nil 5 [],.sl .nil 4 []]):=by rw[hH0,upd_ne (Ne.symm hd2),upd_ne (Ne.symm hr2),upd_same]
 simp(disch:=first|omega|assumption) only[go_sem]
 try simp only[Yv]
 try rw[← hH0]
 clear hH0
 refine zI (fun x:Bool×DocD×St×Own×Own=>[(8,.bool x.1)]) (fun x H'=>DS L br bd H' x.2.2.1 x.2.1 x.2.2.2.1 x.2.2.2.2∧H' b2=some (.cells [.sl .nil 5 [],.sl .nil 4 []])∧(x.2.2.1.e=0→x.2.2.1.dp=0)∧(∃ m,mS L x.2.2.1<m∧zbs L m x.1 x.2.1 x.2.2.1=R)∧x.2.1.ops.length+x.2.1.frags.length+mS L x.2.2.1≤L.length+1) (fun x=>mS L x.2.2.1) (true,⟨[],[]⟩,⟨0,0,e⟩,.nil,.nil) (by simp(disch:=first|omega|assumption) only[go_sem]) ⟨D0,g20,fun _=>rfl,⟨_,by have:=zhx L ⟨0,0,e⟩;simp only;omega,hR⟩,by have:=zhx L ⟨0,0,e⟩;simpa using this⟩ ?_
 rintro⟨first,d,u,o1,o2⟩ H1 J ⟨D1,g21,hdp,⟨m,hm,hR1⟩,hlen⟩ hJ
 simp only at D1 g21 hdp hm hR1 hlen
 have gr:=D1.rd
 simp only[poc] at gr
 have gd:=D1.box
 have nrd:=D1.ne
 obtain⟨m,rfl⟩:∃ k,m=k+1:=⟨m-1,by omega⟩
 rw[zbs] at hR1
 by_cases hue:u.e=0
 case neg =>
  rw[if_neg (fun h=>hue h.1)] at hR1
  subst hR1
  have e1:=q2 hue
  rw[e1] at hQ
  simp(disch:=first|omega|assumption) only[gr,hue,g21,hr2,Ne.symm hr2,hcl,go_sem]
  refine hQ _ _ _ [.agg [.sl .nil 5 [],.sl .nil 4 []],.int .i64 u.e] nofun (by simp(disch:=first|omega|assumption) only[ir41,zo,zL,go_sem]) (by simp[zb,ze,AV.strip,AV.strip1,zdW,cOs,cFs])
 by_cases hgo:first=true∨u.i<L.length
 case neg =>
  rw[if_neg (fun h=>hgo h.2)] at hR1
  subst hR1
  have e1:=q1 hue
  rw[e1] at hQ
  have hff:first=false:=by cases first;rfl;exact absurd (.inl rfl) hgo
  subst hff
  have hil:¬ ((u.i:Int)<(L.length:Int)):=by have:¬ (u.i<L.length):=fun h=>hgo (.inr h);omega
  simp(disch:=first|omega|assumption) only[gr,hue,g21,hr2,Ne.symm hr2,hcl,hil,gd,go_sem]
  refine hQ _ _ _ [.agg [.sl o1 5 (cOs d.ops),.sl o2 4 (cFs d.frags)],.int .i64 0] nofun (by simp(disch:=first|omega|assumption) only[ir41,zo,zL,go_sem]) (by simp[zb,ze,AV.strip,AV.strip1,zdW])
 rw[if_pos ⟨hue,hgo⟩] at hR1
 obtain⟨p1,p2⟩:=zol hq.num d hue (hdp hue)
 have hdl:=zqk L d u
 have hk0:d.ops.length+d.frags.length≤L.length+1:=by omega
 have hcall:=ziZ g21 (zs3 hl hq.num (D1.del g21 hr2 hd2) (fun h=>by rw[hdp h];rfl) hk0)
 cases first with
 | true =>
  simp(disch:=first|omega|assumption) only[gr,hue,go_sem]
  refine zaA hcall fun e H2 ⟨A,⟨v,he,hv,o1',o2',D2⟩,hA,hH2⟩=>?_
  subst he;subst hv
  have D2:DS L br bd H2 (ZD L d u).2 (ZD L d u).1 o1' o2':=by rw[hH2];exact D2.un
  have g22:H2 b2=some (.cells [.sl .nil 5 [],.sl .nil 4 []]):=by rw[hH2];simp[za.union,hA,za.one]
  show goR _ _ _ _ _ _ _ _ _
  simp(disch:=first|omega|assumption) only[go_sem]
  refine goJ (hJ (false,(ZD L d u).1,(ZD L d u).2,o1',o2') _ p1 ⟨D2,g22,p2,⟨m,by simp only;omega,hR1⟩,by simp only;omega⟩) (by simp(disch:=first|omega|assumption) only[go_sem])
 | false =>
  have hil:((u.i:Int)<(L.length:Int))=True:=eq_true (by rcases hgo with h|h;cases h;omega)
  simp(disch:=first|omega|assumption) only[gr,hue,hcl,hil,go_sem]
  refine zaA hcall fun e H2 ⟨A,⟨v,he,hv,o1',o2',D2⟩,hA,hH2⟩=>?_
  subst he;subst hv
  have D2:DS L br bd H2 (ZD L d u).2 (ZD L d u).1 o1' o2':=by rw[hH2];exact D2.un
  have g22:H2 b2=some (.cells [.sl .nil 5 [],.sl .nil 4 []]):=by rw[hH2];simp[za.union,hA,za.one]
  show goR _ _ _ _ _ _ _ _ _
  simp(disch:=first|omega|assumption) only[go_sem]
  refine goJ (hJ (false,(ZD L d u).1,(ZD L d u).2,o1',o2') _ p1 ⟨D2,g22,p2,⟨m,by simp only;omega,hR1⟩,by simp only;omega⟩) (by simp(disch:=first|omega|assumption) only[go_sem])
theorem zjY (s:List UInt8) (hs:s.length≤ZQ):zr Tryz.prog 7 [.str s] (.bool true):=by
 refine zr.go ir7 ck7 (Al4 _) fun KP Q hQ=>?_
 by_cases h1:(8202:Int)<(s.length:Int)
 ·simp(disch:=first|omega|assumption) only[ir7,h1,go_sem]
  refine zd zlF ?_
  simp(disch:=first|omega|assumption) only[go_sem]
  exact hQ _ _ _ _ nofun rfl (by simp[zb,ze,AV.strip,AV.strip1])
 simp(disch:=first|omega|assumption) only[ir7,h1,go_sem]
 refine zd (zdt s hs) ?_
 simp(disch:=first|omega|assumption) only[zdW,go_sem]
 refine zh fun b1 hb1=>?_
 simp(disch:=first|omega|assumption) only[go_sem]
 refine zd (zrK s hs) ?_
 simp(disch:=first|omega|assumption) only[zdW,go_sem]
 refine zh fun b2 hb2=>?_
 have h21:b2≠b1:=fun e=>by subst e;rw[upd_same] at hb2;cases hb2
 have hsd:=zo2 (YJ s).1 (YJ s).1 (by have:=(zrC s).1;simp only[z1] at this;simp only[Lim];omega)
 rw[yw rfl] at hsd
 simp only[zdW] at hsd
 simp(disch:=first|omega|assumption) only[Ne.symm h21,h21,go_sem]
 refine zd (zr.low hsd) ?_
 simp(disch:=first|omega|assumption) only[go_sem]
 refine zd zlF ?_
 simp(disch:=first|omega|assumption) only[go_sem]
 exact hQ _ _ _ _ nofun rfl (by simp[zb,ze,AV.strip,AV.strip1])
end Go.Proofs.YticbbfbpeimkbaaGreatDoor
