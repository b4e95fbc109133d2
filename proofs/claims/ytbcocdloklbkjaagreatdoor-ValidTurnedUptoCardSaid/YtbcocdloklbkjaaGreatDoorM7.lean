import Derived.Test.YtbcocdloklbkjaaGreatDoorM1
import Derived.Test.YtbcocdloklbkjaaGreatDoorM2
import Derived.Test.YtbcocdloklbkjaaGreatDoorM3
import Derived.Test.YtbcocdloklbkjaaGreatDoorM4
import Derived.Test.YtbcocdloklbkjaaGreatDoorM5
import Derived.Test.YtbcocdloklbkjaaGreatDoorM6
set_option maxRecDepth 100000
set_option linter.all false
namespace Go.Proofs.YtbcocdloklbkjaaGreatDoor
open Go.Ab
theorem zky (n:List UInt8):∀(l:List DefD) (a:List (List UInt8)),(l.foldl (zbt n) a).length≤a.length+l.length
 | [],a=>by simp
 | x::l,a=>by have:=zky n l (zbt n a x);have:=zjW n a x;simp only[List.foldl,Al2];omega
theorem zj8 (s:SchD):∀(l:List (List UInt8)) (a:List (List UInt8)),(l.foldl (zcB s) a).length≤a.length+l.length
 | [],a=>by simp
 | x::l,a=>by have:=zj8 s l (zcB s a x);have:=zkW s a x;simp only[List.foldl,Al2];omega
theorem zg1 (s:SchD) (n:List UInt8):(zbm s n).length≤zJ s+1:=by
 rw[zkP]
 cases h:yM s n with
 | none=>simp
 | some d =>
  obtain⟨_,_,h3,_⟩:=Yr h
  have h4:=ZP d.parts
  have h5:=ze7 s.defs
  have h6:bEs s.defs≤zJ s:=by simp only[zJ];omega
  have h1:=zky n s.defs []
  have h2:=zj8 s d.parts []
  simp only[Al3] at h1 h2
  show (if d.k=1 then [n] else if d.k=2 then s.defs.foldl (zbt n) [] else if d.k=3 then d.parts.foldl (zcB s) [] else []).length≤_
  split
  ·simp
  ·split
   ·omega
   ·split
    ·omega
    ·simp
def zns (s:SchD) (a b:TyD):Bool:=if zD a=true∧zaR ⟨b.nm,a.lists,a.musts⟩ b=true then (if a.nm=b.nm then true else match yM s a.nm with
  | none=>false
  | some d=>(decide (d.k=1)&&z8 a.nm (zbm s b.nm))||(decide (d.k=2)&&(Zc s b.nm [2]&&z8 b.nm d.faces))) else false
theorem zuu (s:SchD) (a b:TyD) (hb:zJ s+1≤Lim) (ha:a.nm.length≤Lim) (hbn:b.nm.length≤Lim):zi Tryz.prog 217 [.agg (zq s),.agg (cTy a),.agg (cTy b)] (.bool (zns s a b)):=by
 have hl:=@yc s (by omega)
 have h1:=YM a ha
 have h2:=zlU ⟨b.nm,a.lists,a.musts⟩ b hbn hbn
 have h3:=zeB s a.nm hl
 have hle:=@Yr s a.nm
 have h4:=zpf s b.nm (by omega)
 have h5:=yQ (zbm s b.nm) a.nm (by have:=zg1 s b.nm;omega)
 have h6:=zcy s b.nm [2] hl (by decide)
 have h7:=fun(l:List (List UInt8)) (h:l.length≤Lim)=>yQ l b.nm h
 have hbl:zJ s≤1099511627776:=by simp only[Lim] at hb;omega
 have e0:zns s a b=if zD a=true∧zaR ⟨b.nm,a.lists,a.musts⟩ b=true then (if a.nm=b.nm then true else match yM s a.nm with
  | none=>false
  | some d=>(decide (d.k=1)&&z8 a.nm (zbm s b.nm))||(decide (d.k=2)&&(Zc s b.nm [2]&&z8 b.nm d.faces))) else false:=rfl
 generalize zns s a b=F at *
 obtain⟨an,al,am⟩:=a
 obtain⟨bn,bl,bm⟩:=b
 simp only at h1 h2 h3 h4 h5 h6 h7 e0 hle
 generalize zD ⟨an,al,am⟩=x1 at *
 generalize zaR ⟨bn,al,am⟩ ⟨bn,bl,bm⟩=x2 at *
 generalize zbm s bn=x3 at *
 generalize Zc s bn [2]=x4 at *
 obtain⟨sd,sq,sm⟩:=s
 generalize hS:(⟨sd,sq,sm⟩:SchD)=s at *
 have hcs:zq s=[.sl .no 6 (cEs sd),.str sq,.str sm]:=by rw[← hS];rfl
 simp only[hcs,cTy,List.map,cI] at h1 h2 h3 h4 h6 ⊢
 refine zi.go ir217 ck217 (Al4 _) fun KP Q hQ=>?_
 have fin:∀ r,F=r→∀ ρ H,zL ρ H ir217.res=some [.bool r]→Q .ret ρ H:=fun r e ρ H h1=>hQ _ ρ H _ nofun h1 (by rw[e];rfl)
 simp(disch:=omega) only[ir217,go_sem]
 refine zb fun b7 hb7=>?_
 simp(disch:=omega) only[go_sem]
 refine za h1 ?_
 cases x1 with
 | false =>
  simp(disch:=omega) only[go_sem]
  exact fin false (by rw[e0];simp) _ _ rfl
 | true =>
 simp(disch:=omega) only[go_sem]
 refine za h2 ?_
 cases x2 with
 | false =>
  simp(disch:=omega) only[go_sem]
  exact fin false (by rw[e0];simp) _ _ rfl
 | true =>
 rw[if_pos ⟨rfl,rfl⟩] at e0
 by_cases hn:an=bn
 ·rw[if_pos hn] at e0
  have hn':=eq_true hn
  simp(disch:=omega) only[hn',go_sem]
  exact fin true e0 _ _ rfl
 rw[if_neg hn] at e0
 simp(disch:=omega) only[hn,go_sem]
 refine za h3 ?_
 cases hfe:yM s an with
 | none =>
  rw[hfe] at e0
  simp(disch:=omega) only[Option.getD,Option.isSome,zE,ye,go_sem]
  refine zb fun b8 hb8=>?_
  have hne:=yS hb8
  simp(disch:=omega) only[hne,Ne.symm hne,go_sem]
  exact fin false e0 _ _ rfl
 | some d =>
  rw[hfe] at e0
  obtain⟨_,hle2,_,_⟩:=hle hfe
  obtain⟨k,dn,fs,fl,ps,pa⟩:=d
  simp only at e0 hle2
  have hfs:=ZP fs
  replace h7:=h7 fs (by simp only[Lim];omega)
  simp(disch:=omega) only[Option.getD,Option.isSome,ye,go_sem]
  refine zb fun b8 hb8=>?_
  have hne:=yS hb8
  by_cases k1:k=1
  ·subst k1
   simp(disch:=omega) only[hne,Ne.symm hne,go_sem]
   refine za h4 ?_
   simp(disch:=omega) only[hne,Ne.symm hne,go_sem]
   refine za h5 ?_
   cases hh:z8 an x3 with
   | true =>
    simp(disch:=omega) only[hne,Ne.symm hne,go_sem]
    exact fin true (by rw[e0];simp[hh]) _ _ rfl
   | false =>
    simp(disch:=omega) only[hne,Ne.symm hne,go_sem]
    exact fin false (by rw[e0];simp[hh]) _ _ rfl
  ·by_cases k2:k=2
   ·subst k2
    simp(disch:=omega) only[hne,Ne.symm hne,go_sem]
    refine za (zi.low h6) ?_
    cases x4 with
    | false =>
     simp(disch:=omega) only[hne,Ne.symm hne,go_sem]
     exact fin false (by rw[e0];simp) _ _ rfl
    | true =>
     simp(disch:=omega) only[hne,Ne.symm hne,go_sem]
     refine za h7 ?_
     simp(disch:=omega) only[go_sem]
     exact fin (z8 bn fs) (by rw[e0];simp) _ _ rfl
   ·simp(disch:=omega) only[hne,Ne.symm hne,k1,k2,go_sem]
    exact fin false (by rw[e0];simp[k1,k2]) _ _ rfl
def zr5 (a b:TyD):Bool:=zcD (cTy a) (cTy b)
def zqu (fp:List VarD) (p:VarD):Bool:=match ya fp p.nm with|none=>false|some q=>zr5 q.t p.t
def zp3 (gp:List VarD) (q:VarD):Bool:=(ya gp q.nm).isSome||!zgu q
def zft (f g:FldD):Bool:=g.ps.all (zqu f.ps)&&f.ps.all (zp3 g.ps)
theorem zud (f g:FldD) (hf:bWs f.ps≤Lim) (hg:bWs g.ps≤Lim):zi Tryz.prog 218 [.agg (cL f),.agg (cL g)] (.bool (zft f g)):=by
 have e0:zft f g=(g.ps.all (zqu f.ps)&&f.ps.all (zp3 g.ps)):=rfl
 generalize zft f g=F at *
 obtain⟨fn,fp,⟨f1,f2,f3⟩,fd⟩:=f
 obtain⟨gn,gp,⟨g1,g2,g3⟩,gd⟩:=g
 simp only at e0 hf hg
 have hfl:=yP fp
 have hgl:=yP gp
 have l1:=Zq fp
 have l2:=Zq gp
 simp only[Lim] at hf hg
 rw[zaB,zaB]
 refine zi.go ir218 ck218 (Al4 _) fun KP Q hQ=>?_
 have fin:∀ r,F=r→∀ ρ H,zL ρ H ir218.res=some [.bool r]→Q .ret ρ H:=fun r e ρ H h1=>hQ _ ρ H _ nofun h1 (by rw[e];rfl)
 simp(disch:=omega) only[ir218,l2,go_sem]
 refine zf gp 16 (fun _:Unit=>[]) (fun done rest _ H=>rest.all (zqu fp)=gp.all (zqu fp)) () (by simp(disch:=omega) only[go_sem]) rfl ?_ ?_
 ·rintro _ H J hn hlt
  simp(disch:=omega) only[l1,l2,hlt,go_sem]
  refine zf fp 41 (fun _:Unit=>[]) (fun done rest _ H=>rest.all (zp3 gp)=fp.all (zp3 gp)) () (by simp(disch:=omega) only[go_sem]) rfl ?_ ?_
  ·rintro _ H J hn2 hlt
   simp(disch:=omega) only[l1,hlt,go_sem]
   exact fin true (by rw[e0,← hn,← hn2];rfl) _ _ rfl
  ·rintro done x rest _ H J hd hlt _ hn2 hJ
   have hgt:=Zp hd
   have hP:=zd0 gp x.nm (by simp only[Lim];omega)
   have hR:=ztz x (by have:=@Yt x fp (by rw[hd];simp);simp only[bW] at this;simp only[Lim];omega)
   rw[List.all_cons] at hn2
   have ht:zp3 gp x=((ya gp x.nm).isSome||!zgu x):=rfl
   generalize zgu x=rq at *
   obtain⟨nm,⟨t1,t2,t3⟩,hh,⟨xk,xq,xs,xl,xm⟩⟩:=x
   rw[z7] at hgt hR
   simp only at hP ht
   simp(disch:=omega) only[l1,hlt,hgt,go_sem]
   refine zb fun b10 hb10=>?_
   simp(disch:=omega) only[go_sem]
   refine za hP ?_
   cases hp2:ya gp nm with
   | some p =>
    rw[hp2] at ht
    rw[ht] at hn2
    obtain⟨pn,⟨p1,p2,p3⟩,ph,⟨pk,pq,ps2,pl,pm⟩⟩:=p
    simp(disch:=omega) only[Option.getD,Option.isSome,z7,go_sem]
    refine zb fun b11 hb11=>?_
    have hne:=yS hb11
    simp(disch:=omega) only[hne,Ne.symm hne,go_sem]
    exact goJ (hJ () _ (by simpa using hn2)) (by simp(disch:=omega) only[wrap64,go_sem])
   | none =>
    rw[hp2] at ht
    rw[ht] at hn2
    simp(disch:=omega) only[Option.getD,Option.isSome,zW,zV,z7,go_sem]
    refine zb fun b11 hb11=>?_
    have hne:=yS hb11
    simp(disch:=omega) only[hne,Ne.symm hne,go_sem]
    refine za hR ?_
    cases rq with
    | true =>
     simp(disch:=omega) only[go_sem]
     exact fin false (by rw[e0,← hn2];simp) _ _ rfl
    | false =>
     simp(disch:=omega) only[go_sem]
     exact goJ (hJ () _ (by simpa using hn2)) (by simp(disch:=omega) only[wrap64,go_sem])
 ·rintro done x rest _ H J hd hlt _ hn hJ
  have hgt:=Zp hd
  have hP:=zd0 fp x.nm (by simp only[Lim];omega)
  rw[List.all_cons] at hn
  have ht:zqu fp x=match ya fp x.nm with|none=>false|some q=>zr5 q.t x.t:=rfl
  obtain⟨nm,⟨t1,t2,t3⟩,hh,⟨xk,xq,xs,xl,xm⟩⟩:=x
  rw[z7] at hgt
  simp only at hP ht
  simp(disch:=omega) only[l2,hlt,hgt,go_sem]
  refine zb fun b6 hb6=>?_
  simp(disch:=omega) only[go_sem]
  refine za hP ?_
  cases hp2:ya fp nm with
  | none =>
   rw[hp2] at ht
   rw[ht] at hn
   simp(disch:=omega) only[Option.getD,Option.isSome,zW,zV,z7,go_sem]
   refine zb fun b7 hb7=>?_
   have hne:=yS hb7
   simp(disch:=omega) only[hne,Ne.symm hne,go_sem]
   exact fin false (by rw[e0,← hn];simp) _ _ rfl
  | some p =>
   rw[hp2] at ht
   simp only at ht
   rw[ht] at hn
   obtain⟨pn,⟨p1,p2,p3⟩,ph,⟨pk,pq,ps2,pl,pm⟩⟩:=p
   simp only at hn
   simp(disch:=omega) only[Option.getD,Option.isSome,z7,go_sem]
   refine zb fun b7 hb7=>?_
   have hne:=yS hb7
   have hfit:zY [K1.s,K1.i .i64,K1.i .i64] [.str p1,.int .i64 p2,.int .i64 p3]=true:=by simp[zY,K1.fits]
   have hfit2:zY [K1.s,K1.i .i64,K1.i .i64] [.str t1,.int .i64 t2,.int .i64 t3]=true:=by simp[zY,K1.fits]
   have hk:zcD [.str p1,.int .i64 p2,.int .i64 p3] [.str t1,.int .i64 t2,.int .i64 t3]=zr5 ⟨p1,p2,p3⟩ ⟨t1,t2,t3⟩:=rfl
   cases hq:zr5 ⟨p1,p2,p3⟩ ⟨t1,t2,t3⟩ with
   | true =>
    rw[hq] at hn hk
    simp(disch:=omega) only[hne,Ne.symm hne,hfit,hfit2,hk,go_sem]
    exact goJ (hJ () _ (by simpa using hn)) (by simp(disch:=omega) only[wrap64,go_sem])
   | false =>
    rw[hq] at hn hk
    simp(disch:=omega) only[hne,Ne.symm hne,hfit,hfit2,hk,go_sem]
    exact fin false (by rw[e0,← hn];simp) _ _ rfl
theorem zuT (g f:FldD) (b:Nat) (H:zc) (hb:H b=some (.cells (cL g))):zk Tryz.prog 216 [.agg (cL f),.ptr b 0] H (At (.bool (nmF g.nm f)) H):=by
 obtain⟨gn,gp,⟨g1,g2,g3⟩,gd⟩:=g
 obtain⟨fn,fp,⟨f1,f2,f3⟩,fd⟩:=f
 rw[zaB] at hb
 refine zk.go ir216 ck216 (Al4 _) fun KP Q hQ=>?_
 simp(disch:=omega) only[ir216,zaB,hb,go_sem]
 exact hQ _ _ _ _ _ nofun rfl (Low.refl _) ⟨by simp[zd,ze,AV.strip,AV.strip1,nmF],rfl⟩
def zrC (s:SchD) (d:DefD) (g:FldD):Bool:=match d.flds.find? (nmF g.nm) with
 | none=>false
 | some f=>zns s f.t g.t&&zft f g
def zjI (s:SchD) (d:DefD) (face:List UInt8):Bool:=((yM s face).getD zE).flds.all (zrC s d)
theorem zsQ {f:FldD}:f.t.nm.length≤bL f:=by simp only[bL];omega
theorem zvW (s:SchD) (d:DefD) (face:List UInt8) (hs:zJ s+1≤Lim) (hd:bE d≤Lim):zi Tryz.prog 179 [.agg (zq s),.agg (cE d),.str face] (.bool (zjI s d face)):=by
 have hl:=@yc s (by omega)
 have h1:=zeB s face hl
 have hle:=@Yr s face
 have hsub:=fun a b h1 h2=>zuu s a b hs h1 h2
 have hbs:zJ s+1≤1099511627776:=by simpa only[Lim] using hs
 have hfl:∀ x,(yM s face).getD zE=x→bLs x.flds≤zJ s:=by
  intro x hx
  cases h:yM s face with
  | none=>rw[h] at hx;subst hx;simp[zE,bLs]
  | some y=>rw[h] at hx;subst hx;exact(hle h).1
 have e0:zjI s d face=((yM s face).getD zE).flds.all (zrC s d):=rfl
 have hG:∀ g,zrC s d g=match d.flds.find? (nmF g.nm) with|none=>false|some f=>zns s f.t g.t&&zft f g:=fun _=>rfl
 have hidx:=fun(g:FldD) (b:Nat) (H:zc) (hb:H b=some (.cells (cL g))) (hl:d.flds.length≤Lim)=>zse cL (fun _=>rfl) d.flds 216 [.ptr b 0] (nmF g.nm) H hl (by kernel_rfl) fun f _=>zuT g f b H hb
 generalize zjI s d face=F at *
 generalize (yM s face).isSome=fs at *
 generalize (yM s face).getD zE=x at *
 replace hfl:=hfl x rfl
 obtain⟨xk,xn,xfs,xfl,xps,xpa⟩:=x
 obtain⟨dk,dn,dfs,dfl,dps,dpa⟩:=d
 simp only[bE,Lim] at hd
 simp only at hfl e0 hG hidx
 have hxl:=YW xfl
 have hdl:=YW dfl
 have l1:=zaY xfl
 have l2:=zaY dfl
 generalize zrC s ⟨dk,dn,dfs,dfl,dps,dpa⟩=G at *
 obtain⟨sd,sq,sm⟩:=s
 generalize hS:(⟨sd,sq,sm⟩:SchD)=s at *
 have hcs:zq s=[.sl .no 6 (cEs sd),.str sq,.str sm]:=by rw[← hS];rfl
 simp only[hcs,ye] at h1 hsub ⊢
 refine zi.go ir179 ck179 (Al4 _) fun KP Q hQ=>?_
 have fin:∀ r,F=r→∀ ρ H,zL ρ H ir179.res=some [.bool r]→Q .ret ρ H:=fun r e ρ H h1=>hQ _ ρ H _ nofun h1 (by rw[e];rfl)
 simp(disch:=omega) only[ir179,go_sem]
 refine za h1 ?_
 simp(disch:=omega) only[go_sem]
 refine zb fun b7 hb7=>?_
 simp(disch:=omega) only[l1,go_sem]
 refine zf xfl 21 (fun _:Unit=>[]) (fun done rest _ H=>rest.all G=xfl.all G) () (by simp(disch:=omega) only[go_sem]) rfl ?_ ?_
 ·rintro _ H J hn hlt
  simp(disch:=omega) only[l1,hlt,go_sem]
  exact fin true (by rw[e0,← hn];rfl) _ _ rfl
 ·rintro done g rest _ H J hd2 hlt _ hn hJ
  have hgt:=zdj hd2
  have hgb:=@zcb g xfl (by rw[hd2];simp)
  have hg1:=@zph g
  have hg2:=@ziJ g
  have hg3:=@zsQ g
  have hgg:=hG g
  have hid:=hidx g
  rw[List.all_cons,hgg] at hn
  have hcg:∀ g:FldD,cL g=[.str g.nm,.sl .no 10 (cWs g.ps),.str g.t.nm,.int .i64 g.t.lists,.int .i64 g.t.musts,.sl .no 2 (cDs g.dirs)]:=fun _=>rfl
  have hcc:=hcg g
  rw[hcc] at hgt
  simp(disch:=omega) only[l1,hlt,hgt,go_sem]
  refine zb fun b10 hb10=>?_
  simp(disch:=omega) only[go_sem]
  refine z6 (hid b10 _ (by rw[upd_same];rfl) (by simp only[Lim];omega)) ?_
  rintro _ _ ⟨_,rfl,rfl,rfl⟩
  rcases zag (nmF g.nm) dfl 0 with ⟨a,f,r,e1,e2,e3,e4⟩|⟨e1,e2⟩
  ·rw[e4,Int.zero_add]
   rw[e3] at hn
   simp only at hn
   have hft:=zdj e1
   have hfb:=@zcb f dfl (by rw[e1];simp)
   have hf2:=@ziJ f
   have hf3:=@zsQ f
   have h5:(a.length:Int)<dfl.length:=by rw[e1,Al5,Al2];omega
   have h7:¬ ((a.length:Int)<0):=by omega
   have hS1:=hsub f.t g.t (by simp only[Lim];omega) (by simp only[Lim];omega)
   have hT1:=zud f g (by simp only[Lim];omega) (by simp only[Lim];omega)
   rw[hcg f] at hft
   simp only[cTy] at hS1
   rw[hcg f,hcg g] at hT1
   simp(disch:=omega) only[ZU,hft,l2,h5,h7,go_sem]
   refine za hS1 ?_
   cases hb1:zns s f.t g.t with
   | false =>
    rw[hb1] at hn
    simp(disch:=omega) only[go_sem]
    exact fin false (by rw[e0,← hn];simp) _ _ rfl
   | true =>
    rw[hb1] at hn
    simp(disch:=omega) only[hft,l2,h5,h7,go_sem]
    refine za hT1 ?_
    cases hb2:zft f g with
    | false =>
     rw[hb2] at hn
     simp(disch:=omega) only[go_sem]
     exact fin false (by rw[e0,← hn];simp) _ _ rfl
    | true =>
     rw[hb2] at hn
     simp(disch:=omega) only[go_sem]
     exact goJ (hJ () _ (by simpa using hn)) (by simp(disch:=omega) only[wrap64,go_sem])
  ·rw[e2]
   rw[e1] at hn
   simp(disch:=omega) only[ZU,go_sem]
   exact fin false (by rw[e0,← hn];simp) _ _ rfl
theorem zqT (s:SchD) (d:DefD) (n:List UInt8) (b:Nat) (H:zc) (hb:H b=some (.cells (zq s))) (hs:zJ s+1≤Lim) (hd:bE d≤Lim):zk Tryz.prog 178 [.str n,.ptr b 0,.view (cE d)] H (At (.bool (!zjI s d n)) H):=by
 have h1:=zvW s d n hs hd
 generalize zjI s d n=x1 at *
 obtain⟨dk,dn,dfs,dfl,dps,dpa⟩:=d
 obtain⟨sd,sq,sm⟩:=s
 simp only[zq,ye] at h1 hb ⊢
 refine zk.go ir178 ck178 (Al4 _) fun KP Q hQ=>?_
 simp(disch:=omega) only[ir178,hb,go_sem]
 refine za h1 ?_
 simp(disch:=omega) only[go_sem]
 exact hQ _ _ _ _ _ nofun rfl (Low.refl _) ⟨by simp[zd,ze,AV.strip,AV.strip1],rfl⟩
def zjQ (s:SchD) (d:DefD):Bool:=!d.faces.any fun n=>!zjI s d n
theorem zt9 (s:SchD) (d:DefD) (b:Nat) (H:zc) (hb:H b=some (.cells (zq s))) (hs:zJ s+1≤Lim) (hd:bE d≤Lim):zk Tryz.prog 177 [.agg (cE d),.ptr b 0] H (At (.bool (zjQ s d)) H):=by
 have hdf:d.faces.length≤Lim:=by have:=ZP d.faces;simp only[bE] at hd;omega
 have h3:=zey (fun n:List UInt8=>AV.str n) d.faces 178 [.ptr b 0,.view (cE d)] (fun n=>!zjI s d n) H hdf (by kernel_rfl) fun m _=>zqT s d m b H hb hs hd
 unfold zjQ
 generalize (d.faces.any fun n=>!zjI s d n)=x1 at *
 obtain⟨k,nm,fs,fl,ps,pa⟩:=d
 simp only[ye] at h3 ⊢
 refine zk.go ir177 ck177 (Al4 _) fun KP Q hQ=>?_
 simp(disch:=omega) only[ir177,go_sem]
 refine z6 h3 ?_
 rintro _ _ ⟨_,rfl,rfl,rfl⟩
 simp(disch:=omega) only[ZU,go_sem]
 exact hQ _ _ _ _ _ nofun rfl (Low.refl _) ⟨by simp[zd,ze,AV.strip,AV.strip1],rfl⟩
def zi6 (s:SchD):Bool:=s.defs.all (zjQ s)
theorem ztJ (s:SchD) (hb:zJ s+1≤Lim):zi Tryz.prog 121 [.agg (zq s)] (.bool (zi6 s)):=by
 have hl:=@yc s (by omega)
 have hx:=fun b H hb'=>zdS s 177 [.ptr b 0] (zjQ s) H hl (by kernel_rfl) fun d hd=>zt9 s d b H hb' hb (zio hd (by omega))
 rw[zi6]
 generalize s.defs.all (zjQ s)=x1 at *
 obtain⟨sd,sq,sm⟩:=s
 simp only[zq] at hx ⊢
 refine zi.go ir121 ck121 (Al4 _) fun KP Q hQ=>?_
 simp(disch:=omega) only[ir121,go_sem]
 refine zb fun b1 hb1=>?_
 simp(disch:=omega) only[go_sem]
 refine z6 (hx b1 _ (upd_same ..)) ?_
 rintro _ _ ⟨_,rfl,rfl,rfl⟩
 simp(disch:=omega) only[ZU,go_sem]
 exact hQ _ _ _ _ nofun rfl rfl
theorem zlh {H H':zc} {o:Own} {n sz:Nat} (h:zR H o n sz) (hk:Kept H .nil H'):zR H' o n sz:=by
 cases o with
 | no=>exact h
 | nil=>exact h
 | full=>exact h
 | tip b d=>exact hk b _ h fun d' e=>by cases e
def Ym (s:SchD) (l:List (List UInt8)) (p:VarD):List (List UInt8):=if p.t.lists=0∧isM p.t=true∧Zc s p.t.nm [5]=true∧z8 p.t.nm l=false then l++[p.t.nm] else l
def zbI (s:SchD) (n:List UInt8):List (List UInt8):=((yM s n).getD zE).ps.foldl (Ym s) []
theorem zki (s:SchD) (l:List (List UInt8)) (p:VarD):(Ym s l p).length≤l.length+1:=by unfold Ym;split<;>simp
theorem ztW (s:SchD) (n:List UInt8) (H:zc) (hs:zJ s≤Lim):zac Tryz.prog 219 [.agg (zq s),.str n] H .nil 1 (cT (zbI s n)):=by
 have hl:=yc hs
 have h1:=zeB s n hl
 have hle:=@Yr s n
 have hkind:=fun p=>zcy s p [5] hl (by decide)
 have hbs:zJ s≤1099511627776:=by simpa only[Lim] using hs
 have hps:∀ x,(yM s n).getD zE=x→bWs x.ps≤zJ s:=by
  intro x hx
  cases h:yM s n with
  | none=>rw[h] at hx;subst hx;simp[zE,bWs]
  | some y=>rw[h] at hx;subst hx;exact(hle h).2.2.2
 have e0:zbI s n=((yM s n).getD zE).ps.foldl (Ym s) []:=rfl
 generalize zbI s n=F at *
 generalize (yM s n).isSome=fs at *
 generalize (yM s n).getD zE=x at *
 replace hps:=hps x rfl
 obtain⟨xk,xn,xfs,xfl,xps,xpa⟩:=x
 simp only at hps e0
 have hpl:=yP xpa
 have l1:=Zq xpa
 obtain⟨sd,sq,sm⟩:=s
 generalize hS:(⟨sd,sq,sm⟩:SchD)=s at *
 have hcs:zq s=[.sl .no 6 (cEs sd),.str sq,.str sm]:=by rw[← hS];rfl
 simp only[hcs,ye,List.map,cI] at h1 hkind ⊢
 refine zk.goO ir219 ck219 (Al4 _) fun KP Q hQ hP=>?_
 simp(disch:=omega) only[ir219,go_sem]
 refine za h1 ?_
 simp(disch:=omega) only[go_sem]
 refine zb fun b5 hb5=>?_
 simp(disch:=omega) only[l1,go_sem]
 refine zf xpa 19 (fun x:Own×List (List UInt8)=>[(7,.sl x.1 1 (cT x.2))]) (fun done rest x H'=>rest.foldl (Ym s) x.2=xpa.foldl (Ym s) []∧x.2.length+rest.length≤xpa.length∧OwnS H .nil H' x.1 x.2.length 1) (.nil,[]) (by simp(disch:=omega) only[cT,List.map,go_sem]) ⟨rfl,by simp,(OwnS.refl (o:=.nil) (n:=0) rfl).upd hb5⟩ ?_ ?_
 ·rintro⟨o1,a⟩ H' J ⟨hn,_,hs2⟩ hlt
  simp only[List.foldl] at hn
  simp(disch:=omega) only[l1,hlt,go_sem]
  refine hQ _ _ H' H' [.sl o1 1 (cT a)] nofun (by simp(disch:=omega) only[ir219,zL,Zt,go_sem]) (Low.refl _) ⟨o1,by rw[e0,← hn];rfl,by rw[e0,← hn,zK];exact hs2⟩
 ·rintro done p rest ⟨o1,a⟩ H' J hd hlt _ ⟨hn,hle3,hs2⟩ hJ
  have hgt:=Zp hd
  have hpb:=@Yt p xpa (by rw[hd];simp)
  simp only[bW] at hpb
  replace hs2:OwnS H .nil H' o1 a.length 1:=hs2
  simp only[List.foldl,Al2] at hn hle3
  have hI:=isC p.t (by simp only[Lim];omega)
  have hK:=hkind p.t.nm
  have hC:=yQ a p.t.nm (by simp only[Lim];omega)
  have hst:=zki s a p
  have hne0:Ym s a p=if p.t.lists=0∧isM p.t=true∧Zc s p.t.nm [5]=true∧z8 p.t.nm a=false then a++[p.t.nm] else a:=rfl
  obtain⟨nm,⟨t1,t2,t3⟩,hh,⟨xk,xq,xs,xl,xm⟩⟩:=p
  rw[z7] at hgt
  simp only at hI hK hC hne0
  simp only[cTy] at hI
  generalize isM ⟨t1,t2,t3⟩=y1 at *
  generalize Zc s t1 [5]=y2 at *
  have h3:=zK a
  simp(disch:=omega) only[l1,hlt,hgt,go_sem]
  refine zb fun b9 hb9=>?_
  have hsu:=hs2.upd (x:=.cells (cW ⟨nm,⟨t1,t2,t3⟩,hh,.mk xk xq xs xl xm⟩)) hb9
  rw[z7] at hsu
  by_cases h0:t2=0
  case neg =>
   rw[if_neg (fun h=>h0 h.1)] at hne0
   rw[hne0] at hn hst
   simp(disch:=omega) only[h0,go_sem]
   exact goJ (hJ (o1,a) _ ⟨hn,by simp only;omega,hsu⟩) (by simp(disch:=omega) only[wrap64,go_sem])
  subst h0
  simp(disch:=omega) only[go_sem]
  refine za hI ?_
  cases y1 with
  | false =>
   rw[if_neg (by simp)] at hne0
   rw[hne0] at hn hst
   simp(disch:=omega) only[go_sem]
   exact goJ (hJ (o1,a) _ ⟨hn,by simp only;omega,hsu⟩) (by simp(disch:=omega) only[wrap64,go_sem])
  | true =>
  simp(disch:=omega) only[go_sem]
  refine za (zi.low hK) ?_
  cases y2 with
  | false =>
   rw[if_neg (by simp)] at hne0
   rw[hne0] at hn hst
   simp(disch:=omega) only[go_sem]
   exact goJ (hJ (o1,a) _ ⟨hn,by simp only;omega,hsu⟩) (by simp(disch:=omega) only[wrap64,go_sem])
  | true =>
  simp(disch:=omega) only[go_sem]
  refine za (zi.low hC) ?_
  cases hh2:z8 t1 a with
  | true =>
   rw[if_neg (by simp[hh2])] at hne0
   rw[hne0] at hn hst
   simp(disch:=omega) only[go_sem]
   exact goJ (hJ (o1,a) _ ⟨hn,by simp only;omega,hsu⟩) (by simp(disch:=omega) only[wrap64,go_sem])
  | false =>
   rw[if_pos ⟨rfl,rfl,rfl,hh2⟩] at hne0
   rw[hne0] at hn hst
   simp(disch:=omega) only[go_sem]
   refine zt (by rw[h3];exact hsu.own) ?_ ?_ fun o' H2 hs3=>?_
   ·simp only[h3,Al2,Al3];omega
   ·simp only[h3,Al2,Al3,maxLen];omega
   have e1:cT a++[[AV.str t1]]=cT (a++[t1]):=by simp[cT]
   have hs4:=hsu.trans hs3
   simp only[h3,Al2,Al3] at hs4
   simp(disch:=omega) only[wrap64,e1,go_sem]
   exact goJ (hJ (o',a++[t1]) H2 ⟨hn,by simp only[Al5,Al2,Al3];omega,by simpa using hs4⟩) (by simp(disch:=omega) only[go_sem])
def OkL (s:SchD) (l:List (List UInt8)):Prop:=l.Nodup∧∀ x∈l,x∈s.defs.map (·.nm)
theorem znz {s:SchD} {n:List UInt8} (h:Zc s n [5]=true):n∈s.defs.map (·.nm):=by
 unfold Zc at h
 cases hf:yM s n with
 | none=>rw[hf] at h;cases h
 | some d =>
  rw[hf] at h
  have hk:d.k=5:=by simpa[znb] using h
  unfold yM at hf
  split at hf
  ·cases hf;simp[scE] at hk
  ·have h1:=List.mem_of_find?_eq_some hf
   have h2:=List.find?_some hf
   simp only[nmE,y0] at h2
   exact List.mem_map.2 ⟨d,h1,h2⟩
theorem zmm {s:SchD} {l:List (List UInt8)} {x:List UInt8} (h:OkL s l) (hx:z8 x l=false) (hm:x∈s.defs.map (·.nm)):OkL s (l++[x]):=by
 have hx':x ∉ l:=fun h=>by rw[(Z1 x l).2 h] at hx;cases hx
 refine⟨List.nodup_append.2 ⟨h.1,by simp,fun a ha b hb e=>?_⟩,fun y hy=>?_⟩
 ·simp only[List.mem_singleton] at hb
  subst hb;subst e;exact hx' ha
 ·rcases List.mem_append.1 hy with h1|h1
  ·exact h.2 y h1
  ·simp only[List.mem_singleton] at h1
   subst h1;exact hm
theorem zkM {s:SchD} {l:List (List UInt8)} (p:VarD) (h:OkL s l):OkL s (Ym s l p):=by
 unfold Ym
 split
 ·rename_i hc;exact zmm h hc.2.2.2 (znz hc.2.2.1)
 ·exact h
theorem zfY {s:SchD}:∀(ps:List VarD) {l:List (List UInt8)},OkL s l→OkL s (ps.foldl (Ym s) l)
 | [],_,h=>h
 | p::ps,_,h=>zfY ps (zkM p h)
theorem znn (s:SchD) (n:List UInt8):OkL s (zbI s n):=zfY _ ⟨List.nodup_nil,by simp⟩
theorem zrO {s:SchD} {l:List (List UInt8)} {x:List UInt8} (h:OkL s l) (hm:x∈s.defs.map (·.nm)):OkL s (zbN l x):=by
 unfold zbN
 split
 ·exact h
 ·rename_i hc;exact zmm h (by simpa using hc) hm
theorem zjl {s:SchD} {l:List (List UInt8)} (h:OkL s l):l.length≤s.defs.length:=by
 have:=List.Nodup.length_le_of_subset h.1 (fun x hx=>h.2 x hx)
 simpa using this
def zhY (s:SchD) (n:List UInt8):Nat→List (List UInt8)→Nat→Bool
 | 0,_,_=>false
 | k+1,l,i=>match l[i]? with
  | none=>false
  | some x=>if x=n then true else zhY s n k ((zbI s x).foldl zbN l) (i+1)
def zjN (s:SchD) (n:List UInt8):Bool:=zhY s n (s.defs.length+1) (zbI s n) 0
theorem zuq (s:SchD) (n:List UInt8) (hs:zJ s≤Lim):zi Tryz.prog 183 [.agg (zq s),.str n] (.bool (zjN s n)):=by
 have hl:=yc hs
 have hbs:zJ s≤1099511627776:=by simpa only[Lim] using hs
 have hds:s.defs.length≤1099511627776:=by simpa only[Lim] using hl
 have hN:=fun x H=>ztW s x H hs
 have hok:=znn s
 have e0:zjN s n=zhY s n (s.defs.length+1) (zbI s n) 0:=rfl
 generalize zjN s n=F at *
 obtain⟨sd,sq,sm⟩:=s
 generalize hS:(⟨sd,sq,sm⟩:SchD)=s at *
 have hcs:zq s=[.sl .no 6 (cEs sd),.str sq,.str sm]:=by rw[← hS];rfl
 simp only[hcs] at hN ⊢
 refine zi.go ir183 ck183 (Al4 _) fun KP Q hQ=>?_
 have fin:∀ r,F=r→∀ ρ H,zL ρ H ir183.res=some [.bool r]→Q .ret ρ H:=fun r e ρ H h1=>hQ _ ρ H _ nofun h1 (by rw[e];rfl)
 simp(disch:=omega) only[ir183,go_sem]
 refine zB (hN n _) fun o0 H0 hs0=>?_
 rw[zK] at hs0
 simp(disch:=omega) only[go_sem]
 refine zbL (fun x:Own×List (List UInt8)×Nat=>[(5,.sl x.1 1 (cT x.2.1)),(6,.int .i64 x.2.2)]) (fun x H'=>zR H' x.1 x.2.1.length 1∧OkL s x.2.1∧x.2.2≤s.defs.length∧zhY s n (s.defs.length+1-x.2.2) x.2.1 x.2.2=F) (fun x=>s.defs.length+1-x.2.2) (o0,zbI s n,0) (by simp(disch:=omega) only[go_sem]) ⟨hs0.own,hok n,Nat.zero_le _,e0.symm⟩ ?_
 rintro⟨o,l,i⟩ H1 J ⟨ho,hk,hi,hr⟩ hJ
 replace ho:zR H1 o l.length 1:=ho
 simp only at hk hi hr
 have hlen:=zjl hk
 have l1:=zK l
 have ek:s.defs.length+1-i=(s.defs.length-i)+1:=by omega
 rw[ek] at hr
 by_cases hil:i<l.length
 case neg =>
  have hg:l[i]?=none:=List.getElem?_eq_none (by omega)
  have hlt:¬ ((i:Int)<l.length):=by omega
  simp only[zhY,hg] at hr
  simp(disch:=omega) only[l1,hlt,go_sem]
  exact fin false hr.symm _ _ rfl
 obtain⟨a,x,r,hlx,hai⟩:∃ a x r,l=a++x::r∧a.length=i:=⟨l.take i,l[i],l.drop (i+1),by rw[List.getElem_cons_drop,List.take_append_drop],by rw[List.length_take];omega⟩
 subst hai
 have hgx:l[a.length]?=some x:=by rw[hlx];simp
 have hgt:(cT l).getD a.length []=[.str x]:=Z5 hlx
 have hlt:(a.length:Int)<l.length:=by omega
 simp only[zhY,hgx] at hr
 by_cases hx:x=n
 ·rw[if_pos hx] at hr
  have hx':=eq_true hx
  simp(disch:=omega) only[l1,hlt,hgt,hx',go_sem]
  exact fin true hr.symm _ _ rfl
 rw[if_neg hx] at hr
 simp(disch:=omega) only[l1,hlt,hgt,hx,go_sem]
 refine zB (hN x _) fun o2 H2 hs2=>?_
 have l3:=zK (zbI s x)
 rw[l3] at hs2
 have ho2:=zlh ho hs2.kept
 have hxs:=(hok x).2
 have hxl:=zjl (hok x)
 generalize zbI s x=xs at *
 simp(disch:=omega) only[l3,go_sem]
 refine zf xs 31 (fun y:Own×List (List UInt8)=>[(5,.sl y.1 1 (cT y.2))]) (fun done rest y H'=>zR H' y.1 y.2.length 1∧OkL s y.2∧rest.foldl zbN y.2=xs.foldl zbN l) (o,l) (by simp(disch:=omega) only[go_sem]) ⟨ho2,hk,rfl⟩ ?_ ?_
 ·rintro⟨o3,l3'⟩ H3 J2 ⟨h31,h32,h33⟩ hlt3
  simp only[List.foldl] at h33
  rw[← h33] at hr
  simp only at h32
  simp(disch:=omega) only[l3,hlt3,go_sem]
  exact goJ (hJ (o3,l3',a.length+1) H3 (by simp only;omega) ⟨h31,h32,by simp only;omega,by simp only;rw[← hr];congr 1;omega⟩) (by simp(disch:=omega) only[wrap64,go_sem];simp)
 ·rintro done y rest ⟨o3,l3'⟩ H3 J2 hd hlt3 _ ⟨h31,h32,h33⟩ hJ2
  have hgy:=Z5 hd
  have hym:=hxs y (by rw[hd];simp)
  replace h31:zR H3 o3 l3'.length 1:=h31
  simp only[List.foldl] at h32 h33
  have hl3:=zjl h32
  have l4:=zK l3'
  have hA:=zrO h32 hym
  have ha0:zbN l3' y=if z8 y l3'=true then l3' else l3'++[y]:=rfl
  simp(disch:=omega) only[l3,hlt3,hgy,go_sem]
  refine za (zi.low (yQ l3' y (by simp only[Lim];omega))) ?_
  cases hh:z8 y l3' with
  | true =>
   rw[if_pos hh] at ha0
   rw[ha0] at h33 hA
   simp(disch:=omega) only[go_sem]
   exact goJ (hJ2 (o3,l3') H3 ⟨h31,hA,h33⟩) (by simp(disch:=omega) only[wrap64,go_sem])
  | false =>
   rw[if_neg (by simp[hh])] at ha0
   rw[ha0] at h33 hA
   simp(disch:=omega) only[go_sem]
   refine zt (by rw[l4];exact h31) ?_ ?_ fun o' H4 hs4=>?_
   ·simp only[l4,Al2,Al3];omega
   ·simp only[l4,Al2,Al3,maxLen];omega
   have e1:cT l3'++[[AV.str y]]=cT (l3'++[y]):=by simp[cT]
   have hs5:=hs4.own
   simp only[l4,Al2,Al3] at hs5
   simp(disch:=omega) only[wrap64,e1,go_sem]
   exact goJ (hJ2 (o',l3'++[y]) H4 ⟨by simpa using hs5,hA,h33⟩) (by simp(disch:=omega) only[go_sem])
def zj7 (s:SchD) (d:DefD):Bool:=!decide (d.k=5)||!zjN s d.nm
theorem zup (s:SchD) (d:DefD) (hs:zJ s≤Lim):zi Tryz.prog 182 [.agg (cE d),.view (zq s)] (.bool (zj7 s d)):=by
 have h1:=zuq s d.nm hs
 unfold zj7
 generalize zjN s d.nm=x1 at *
 obtain⟨k,nm,fs,fl,ps,pa⟩:=d
 obtain⟨sd,sq,sm⟩:=s
 simp only[zq,ye] at h1 ⊢
 refine zi.go ir182 ck182 (Al4 _) fun KP Q hQ=>?_
 by_cases hk:k=5
 ·subst hk
  simp(disch:=omega) only[ir182,go_sem]
  refine za h1 ?_
  simp(disch:=omega) only[go_sem]
  exact hQ _ _ _ _ nofun rfl (by simp[zd,ze,AV.strip,AV.strip1])
 ·simp(disch:=omega) only[ir182,hk,go_sem]
  exact hQ _ _ _ _ nofun rfl (by simp[zd,ze,AV.strip,AV.strip1,hk])
def zlY (s:SchD):Bool:=s.defs.all (zj7 s)
theorem zvk (s:SchD) (hb:zJ s≤Lim):zi Tryz.prog 123 [.agg (zq s)] (.bool (zlY s)):=by
 have hl:=yc hb
 have hx:=fun H=>zdS s 182 [.view (zq s)] (zj7 s) H hl (by kernel_rfl) fun d _=>zru (zup s d hb) H
 rw[zlY]
 generalize s.defs.all (zj7 s)=x1 at *
 obtain⟨sd,sq,sm⟩:=s
 simp only[zq] at hx ⊢
 refine zi.go ir123 ck123 (Al4 _) fun KP Q hQ=>?_
 simp(disch:=omega) only[ir123,go_sem]
 refine z6 (hx _) ?_
 rintro _ _ ⟨_,rfl,rfl,rfl⟩
 simp(disch:=omega) only[ZU,go_sem]
 exact hQ _ _ _ _ nofun rfl rfl
mutual
def zeZ:SelD→List (List UInt8)→List (List UInt8)
 | .mk k al nm args dirs on sels,l=>yX sels (if k=1∧z8 nm l=false then l++[nm] else l)
def yX:List SelD→List (List UInt8)→List (List UInt8)
 | [],l=>l
 | x::r,l=>yX r (zeZ x l)
end
mutual
theorem zmQ:∀(x:SelD) (l:List (List UInt8)),(zeZ x l).length≤l.length+bS x
 | .mk k al nm args dirs on sels,l=>by
  have:=ze0 sels (if k=1∧z8 nm l=false then l++[nm] else l)
  have h2:(if k=1∧z8 nm l=false then l++[nm] else l).length≤l.length+1:=by split<;>simp
  simp only[zeZ,bS];omega
theorem ze0:∀(x:List SelD) (l:List (List UInt8)),(yX x l).length≤l.length+bSs x
 | [],l=>by simp[yX]
 | x::r,l=>by have:=zmQ x l;have:=ze0 r (zeZ x l);simp only[yX,bSs];omega
end
def zqH (sels:List SelD):Prop:=∀(l:List (List UInt8)) (o:Own) (H:zc),l.length+bSs sels≤Lim→zR H o l.length 1→zac Tryz.prog 71 [.sl o 1 (cT l),.sl .no 7 (cSs sels)] H o 1 (cT (yX sels l))
theorem zmH (sels:List SelD) (ih:∀ k al nm args dirs on xs,SelD.mk k al nm args dirs on xs∈sels→zqH xs):zqH sels:=by
 intro l o H hb ho
 have hb':l.length+bSs sels≤1099511627776:=by simpa only[Lim] using hb
 have h1:=Ya sels
 have hsl:=Yu sels
 refine zk.goO ir71 ck71 (Al4 _) fun KP Q hQ hP=>?_
 simp(disch:=omega) only[ir71,h1,go_sem]
 refine zf sels 9 (fun x:Own×List (List UInt8)=>[(0,.sl x.1 1 (cT x.2))]) (fun done rest x H'=>yX rest x.2=yX sels l∧x.2.length+bSs rest≤l.length+bSs sels∧OwnS H o H' x.1 x.2.length 1) (o,l) (by simp(disch:=omega) only[go_sem]) ⟨rfl,Al4 _,OwnS.refl ho⟩ ?_ ?_
 ·rintro⟨o1,a⟩ H' J ⟨hn,_,hs2⟩ hlt
  simp only[yX] at hn
  simp(disch:=omega) only[h1,hlt,go_sem]
  refine hQ _ _ H' H' [.sl o1 1 (cT a)] nofun (by simp(disch:=omega) only[ir71,zL,Zt,go_sem]) (Low.refl _) ⟨o1,by rw[← hn];rfl,by rw[← hn,zK];exact hs2⟩
 ·rintro done x rest ⟨o1,a⟩ H' J hd hlt _ ⟨hn,hle,hs2⟩ hJ
  have hg:=YZ hd
  have hmem:x∈sels:=by rw[hd];simp
  have hx:=zmQ x a
  simp only[yX,bSs] at hn hle
  replace hs2:OwnS H o H' o1 a.length 1:=hs2
  obtain⟨k,al,nm,args,dirs,on,xs⟩:=x
  have hxs:=ih _ _ _ _ _ _ _ hmem
  have e0:zeZ (.mk k al nm args dirs on xs) a=yX xs (if k=1∧z8 nm a=false then a++[nm] else a):=by simp only[zeZ]
  have hbx:bSs xs+1≤bS (.mk k al nm args dirs on xs):=by simp only[bS];omega
  rw[y8] at hg
  have l1:=zK a
  have tail:∀(o2:Own) (a2:List (List UInt8)) (H2:zc),zeZ (.mk k al nm args dirs on xs) a=yX xs a2→a2.length≤a.length+1→OwnS H o H2 o2 a2.length 1→zac Tryz.prog 71 [.sl o2 1 (cT a2),.sl .no 7 (cSs xs)] H2 o2 1 (cT (yX xs a2)):=fun o2 a2 H2 e h h'=>hxs a2 o2 H2 (by simp only[Lim];omega) h'.own
  simp(disch:=omega) only[h1,hlt,hg,go_sem]
  refine zb fun b6 hb6=>?_
  have hsu:=hs2.upd (x:=.cells [.int .i64 k,.str al,.str nm,.sl .no 6 (cMs args),.sl .no 2 (cDs dirs),.str on,.sl .no 7 (cSs xs)]) hb6
  by_cases hk:k=1
  case neg =>
   rw[if_neg (fun h=>hk h.1)] at e0
   simp(disch:=omega) only[hk,go_sem]
   refine zB (tail o1 a _ e0 (by omega) hsu) fun o2 H2 hs3=>?_
   rw[zK] at hs3
   simp(disch:=omega) only[wrap64,go_sem]
   exact goJ (hJ (o2,yX xs a) H2 ⟨by rw[← hn,e0],by simp only;rw[e0] at hx;omega,hsu.trans hs3⟩) (by simp(disch:=omega) only[wrap64,go_sem])
  subst hk
  simp(disch:=omega) only[go_sem]
  refine za (zi.low (yQ a nm (by simp only[Lim];omega))) ?_
  cases hh:z8 nm a with
  | true =>
   rw[if_neg (fun h=>by rw[hh] at h;cases h.2)] at e0
   simp(disch:=omega) only[go_sem]
   refine zB (tail o1 a _ e0 (by omega) hsu) fun o2 H2 hs3=>?_
   rw[zK] at hs3
   simp(disch:=omega) only[wrap64,go_sem]
   exact goJ (hJ (o2,yX xs a) H2 ⟨by rw[← hn,e0],by simp only;rw[e0] at hx;omega,hsu.trans hs3⟩) (by simp(disch:=omega) only[wrap64,go_sem])
  | false =>
   rw[if_pos ⟨rfl,hh⟩] at e0
   simp(disch:=omega) only[go_sem]
   refine zt (by rw[l1];exact hsu.own) ?_ ?_ fun o' H3 hs4=>?_
   ·simp only[l1,Al2,Al3];omega
   ·simp only[l1,Al2,Al3,maxLen];omega
   have e1:cT a++[[AV.str nm]]=cT (a++[nm]):=by simp[cT]
   have hs5:=hsu.trans hs4
   simp only[l1,Al2,Al3] at hs5
   have h6:H3 b6=some (.cells [.int .i64 1,.str al,.str nm,.sl .no 6 (cMs args),.sl .no 2 (cDs dirs),.str on,.sl .no 7 (cSs xs)]):=hs4.kept b6 _ (upd_same ..) fun d e=>by
    have:=hs2.own
    rw[e] at this
    have h7:H' b6=some (.tip (d+a.length) 1):=this
    rw[hb6] at h7
    cases h7
   simp(disch:=omega) only[e1,h6,go_sem]
   refine zB (tail o' (a++[nm]) _ e0 (by simp) (by simpa using hs5)) fun o2 H2 hs3=>?_
   rw[zK] at hs3
   simp(disch:=omega) only[wrap64,go_sem]
   exact goJ (hJ (o2,yX xs (a++[nm])) H2 ⟨by rw[← hn,e0],by simp only;rw[e0] at hx;omega,(OwnS.trans (n:=a.length+1) (by simpa using hs5) hs3)⟩) (by simp(disch:=omega) only[wrap64,go_sem])
theorem ztM (sels:List SelD):zqH sels:=by
 have h:∀ x:SelD,∀ k al nm args dirs on xs,x=.mk k al nm args dirs on xs→zqH xs:=SelD.ind fun k al nm args dirs on sels ih=>by
  intro k' al' nm' args' dirs' on' xs e
  cases e
  exact zmH sels fun k al nm args dirs on xs hm=>ih _ hm _ _ _ _ _ _ _ rfl
 exact zmH sels fun k al nm args dirs on xs _=>h _ k al nm args dirs on xs rfl
def Yz (n:List UInt8) (f:FragD):Bool:=decide (f.nm=n)
def zFr:FragD:=⟨[],[],[],[]⟩
def zC (d:DocD) (n:List UInt8):Option FragD:=d.frags.find? (Yz n)
theorem Yh (nm on:List UInt8) (dirs:List DirD) (sels:List SelD):cF ⟨nm,on,dirs,sels⟩=[.str nm,.str on,.sl .no 2 (cDs dirs),.sl .no 7 (cSs sels)]:=rfl
theorem zs2 (f:FragD) (n:List UInt8):zi Tryz.prog 131 [.agg (cF f),.view [.str n]] (.bool (Yz n f)):=by
 obtain⟨nm,on,ds,ss⟩:=f
 refine zi.go ir131 ck131 (Al4 _) fun KP Q hQ=>?_
 simp(disch:=omega) only[ir131,Yh,go_sem]
 exact hQ _ _ _ _ nofun rfl (by simp[zd,ze,AV.strip,AV.strip1,Yz])
theorem zkt (d:DocD) (n:List UInt8) (hl:d.frags.length≤Lim):zi Tryz.prog 72 [.agg (zT d),.str n] (.tup [.agg (cF ((zC d n).getD zFr)),.bool (zC d n).isSome]):=by
 have hlb:=hl
 simp only[Lim] at hlb
 have hx:=zre cF (fun _=>rfl) d.frags 131 [.view [.str n]] (Yz n) hl (by kernel_rfl) fun x _=>zs2 x n
 have e0:zC d n=d.frags.find? (Yz n):=rfl
 generalize zC d n=F at *
 obtain⟨ops,frags⟩:=d
 simp only[zT] at hx e0 ⊢
 have h6:=ZL frags
 refine zi.go ir72 ck72 (Al4 _) fun KP Q hQ=>?_
 have fin:∀ o,F=o→∀ ρ H vs,zL ρ H ir72.res=some vs→(zd vs).strip=.tup [.agg (cF (o.getD zFr)),.bool o.isSome]→Q .ret ρ H:=fun o e ρ H vs h1 h2=>hQ _ ρ H vs nofun h1 (by rw[h2,e])
 simp(disch:=omega) only[ir72,go_sem]
 refine zb fun b4 hb4=>?_
 simp(disch:=omega) only[go_sem]
 refine za hx ?_
 rcases zag (Yz n) frags 0 with ⟨a,x,r,h1,h2,h3,h4⟩|⟨h1,h2⟩
 ·rw[h4,Int.zero_add]
  rw[h3] at e0
  have hg:=Yw h1
  have h5:(a.length:Int)<frags.length:=by rw[h1,Al5,Al2];omega
  have h7:¬ ((a.length:Int)<0):=by omega
  obtain⟨nm,on,ds,ss⟩:=x
  rw[Yh] at hg
  simp(disch:=omega) only[hg,h6,h5,h7,go_sem]
  exact fin _ e0 _ _ [.agg (cF ⟨nm,on,ds,ss⟩),.bool true] (by simp(disch:=omega) only[ir72,zL,Zt,Yh,go_sem]) rfl
 ·rw[h2]
  rw[h1] at e0
  simp(disch:=omega) only[go_sem]
  exact fin _ e0 _ _ [.agg [.str [],.str [],.sl .nil 2 [],.sl .nil 7 []],.bool false] (by simp(disch:=omega) only[ir72,zL,Zt,go_sem]) rfl
mutual
def znv:SelD→List (List UInt8)
 | .mk _ _ nm _ _ _ sels=>nm::zaT sels
def zaT:List SelD→List (List UInt8)
 | []=>[]
 | x::r=>znv x++zaT r
end
mutual
theorem zrI:∀ x:SelD,(znv x).length≤bS x
 | .mk _ _ nm _ _ _ sels=>by have:=zeM sels;simp only[znv,bS,Al2];omega
theorem zeM:∀ l:List SelD,(zaT l).length≤bSs l
 | []=>by simp[zaT]
 | x::r=>by have:=zrI x;have:=zeM r;simp only[zaT,bSs,Al5];omega
end
def OkN (U l:List (List UInt8)):Prop:=l.Nodup∧∀ x∈l,x∈U
theorem zrD {U l:List (List UInt8)} {x:List UInt8} (h:OkN U l) (hx:z8 x l=false) (hm:x∈U):OkN U (l++[x]):=by
 have hx':x ∉ l:=fun h=>by rw[(Z1 x l).2 h] at hx;cases hx
 refine⟨List.nodup_append.2 ⟨h.1,by simp,fun a ha b hb e=>?_⟩,fun y hy=>?_⟩
 ·simp only[List.mem_singleton] at hb
  subst hb;subst e;exact hx' ha
 ·rcases List.mem_append.1 hy with h1|h1
  ·exact h.2 y h1
  ·simp only[List.mem_singleton] at h1
   subst h1;exact hm
theorem zjg {U l:List (List UInt8)} (h:OkN U l):l.length≤U.length:=List.Nodup.length_le_of_subset h.1 (fun x hx=>h.2 x hx)
mutual
theorem zqG {U:List (List UInt8)}:∀(x:SelD) (l:List (List UInt8)),(∀ y∈znv x,y∈U)→OkN U l→OkN U (zeZ x l)
 | .mk k al nm args dirs on sels,l,hU,h=>by
  simp only[zeZ]
  refine zav sels _ (fun y hy=>hU y (by simp[znv,hy])) ?_
  split
  ·rename_i hc;exact zrD h hc.2 (hU nm (by simp[znv]))
  ·exact h
theorem zav {U:List (List UInt8)}:∀(x:List SelD) (l:List (List UInt8)),(∀ y∈zaT x,y∈U)→OkN U l→OkN U (yX x l)
 | [],l,_,h=>by simpa[yX] using h
 | x::r,l,hU,h=>by
  simp only[yX]
  exact zav r _ (fun y hy=>hU y (by simp[zaT,hy])) (zqG x l (fun y hy=>hU y (by simp[zaT,hy])) h)
end
mutual
theorem zrz:∀(x:SelD) (l:List (List UInt8)),l.length≤(zeZ x l).length
 | .mk k al nm args dirs on sels,l=>by
  have:=zg0 sels (if k=1∧z8 nm l=false then l++[nm] else l)
  have h2:l.length≤(if k=1∧z8 nm l=false then l++[nm] else l).length:=by split<;>simp
  simp only[zeZ];omega
theorem zg0:∀(x:List SelD) (l:List (List UInt8)),l.length≤(yX x l).length
 | [],l=>by simp[yX]
 | x::r,l=>by have:=zrz x l;have:=zg0 r (zeZ x l);simp only[yX];omega
end
def zex (d:DocD) (sels:List SelD):List (List UInt8):=zaT sels++d.frags.flatMap fun f=>zaT f.sels
theorem zap (f:FragD):bSs f.sels≤bF f:=by simp only[bF];omega
theorem zkH:∀ l:List FragD,(l.flatMap fun f=>zaT f.sels).length≤bFs l
 | []=>by simp
 | f::l=>by
  have h1:=zkH l
  have h2:=zeM f.sels
  have h3:=zap f
  have e:bFs (f::l)=bF f+bFs l:=by simp[bFs]
  rw[List.flatMap_cons,Al5,e]
  omega
theorem ziD (d:DocD) (sels:List SelD):(zex d sels).length≤bSs sels+bFs d.frags:=by
 have h1:=zeM sels
 have h2:=zkH d.frags
 simp only[zex,Al5]
 omega
def ZR (d:DocD):Nat→List (List UInt8)→Nat→List (List UInt8)
 | 0,l,_=>l
 | k+1,l,i=>match l[i]? with
  | none=>l
  | some x=>ZR d k (match zC d x with|none=>l|some f=>yX f.sels l) (i+1)
def yi (d:DocD) (sels:List SelD):List (List UInt8):=ZR d (bSs sels+bFs d.frags+1) (yX sels []) 0
theorem zbM {f:FragD}:∀ {l:List FragD},f∈l→bF f≤bFs l
 | x::l,h=>by
  rcases List.mem_cons.1 h with rfl|h
  ·simp only[bFs,List.map_cons,List.sum_cons];omega
  ·have:=zbM h;simp only[bFs,List.map_cons,List.sum_cons] at this ⊢;omega
theorem ziu {d:DocD} {U:List (List UInt8)} (hU:∀ f∈d.frags,∀ y∈zaT f.sels,y∈U):∀(k:Nat) (l:List (List UInt8)) (i:Nat),OkN U l→OkN U (ZR d k l i)
 | 0,l,i,h=>by simpa[ZR] using h
 | k+1,l,i,h=>by
  simp only[ZR]
  cases l[i]? with
  | none=>exact h
  | some x =>
   simp only
   refine ziu hU k _ _ ?_
   cases hf:zC d x with
   | none=>exact h
   | some f=>exact zav f.sels l (hU f (List.mem_of_find?_eq_some hf)) h
theorem zgF (d:DocD) (sels:List SelD) (H:zc) (hb:2*(bSs sels+bFs d.frags)≤Lim):zac Tryz.prog 28 [.agg (zT d),.sl .no 7 (cSs sels)] H .nil 1 (cT (yi d sels)):=by
 have hb':2*(bSs sels+bFs d.frags)≤1099511627776:=by simpa only[Lim] using hb
 have hfl:=yD d.frags
 have hF:=fun n=>zkt d n (by simp only[Lim];omega)
 have hU0:∀ f∈d.frags,∀ y∈zaT f.sels,y∈zex d sels:=fun f hf y hy=>by
  simp only[zex,List.mem_append,List.mem_flatMap];exact .inr ⟨f,hf,hy⟩
 have hB:=ziD d sels
 have ok0:OkN (zex d sels) (yX sels []):=zav sels [] (fun y hy=>by simp[zex,hy]) ⟨List.nodup_nil,by simp⟩
 generalize hUe:zex d sels=U at *
 have e0:yi d sels=ZR d (bSs sels+bFs d.frags+1) (yX sels []) 0:=rfl
 generalize hBe:bSs sels+bFs d.frags=B at *
 generalize yi d sels=F at *
 have hmem:=fun n f (h:zC d n=some f)=>(show f∈d.frags from List.mem_of_find?_eq_some h)
 have hfb:=fun f (h:f∈d.frags)=>Nat.le_trans (zap f) (zbM h)
 have hS1:=ztM sels [] .nil H (by simp only[Al3,Lim];omega) rfl
 have hcd:zT d=[.sl .no 5 (cOs d.ops),.sl .no 4 (cFs d.frags)]:=rfl
 simp only[hcd] at hF ⊢
 refine zk.goO ir28 ck28 (Al4 _) fun KP Q hQ hP=>?_
 simp(disch:=omega) only[ir28,go_sem]
 have hnil:cT []=[]:=rfl
 rw[hnil] at hS1
 refine zB hS1 fun o0 H0 hs0=>?_
 rw[zK] at hs0
 simp(disch:=omega) only[go_sem]
 refine zbL (fun x:Own×List (List UInt8)×Nat=>[(5,.sl x.1 1 (cT x.2.1)),(6,.int .i64 x.2.2)]) (fun x H'=>OwnS H .nil H' x.1 x.2.1.length 1∧OkN U x.2.1∧x.2.2≤x.2.1.length∧ZR d (B+1-x.2.2) x.2.1 x.2.2=F) (fun x=>B+1-x.2.2) (o0,yX sels [],0) (by simp(disch:=omega) only[go_sem]) ⟨hs0,ok0,Nat.zero_le _,e0.symm⟩ ?_
 rintro⟨o,l,i⟩ H1 J ⟨ho,hk,hi,hr⟩ hJ
 replace ho:OwnS H .nil H1 o l.length 1:=ho
 simp only at hk hi hr
 have hlen:=zjg hk
 have l1:=zK l
 have ek:B+1-i=(B-i)+1:=by omega
 rw[ek] at hr
 by_cases hil:i<l.length
 case neg =>
  have hg:l[i]?=none:=List.getElem?_eq_none (by omega)
  have hlt:(l.length:Int)≤i:=by omega
  simp only[ZR,hg] at hr
  simp(disch:=omega) only[l1,hlt,go_sem]
  refine hQ _ _ H1 H1 [.sl o 1 (cT l)] nofun (by simp(disch:=omega) only[ir28,zL,Zt,go_sem]) (Low.refl _) ⟨o,by rw[← hr];rfl,by rw[← hr,zK];exact ho⟩
 obtain⟨a,x,r,hlx,hai⟩:∃ a x r,l=a++x::r∧a.length=i:=⟨l.take i,l[i],l.drop (i+1),by rw[List.getElem_cons_drop,List.take_append_drop],by rw[List.length_take];omega⟩
 subst hai
 have hgx:l[a.length]?=some x:=by rw[hlx];simp
 have hgt:(cT l).getD a.length []=[.str x]:=Z5 hlx
 have hlt:(a.length:Int)<l.length:=by omega
 have hge:¬ ((l.length:Int)≤a.length):=by omega
 have hFx:=hF x
 simp only[ZR,hgx] at hr
 simp(disch:=omega) only[l1,hlt,hge,hgt,go_sem]
 refine za hFx ?_
 cases hfe:zC d x with
 | none =>
  rw[hfe] at hr
  simp(disch:=omega) only[Option.getD,Option.isSome,zFr,Yh,go_sem]
  refine zb fun b7 hb7=>?_
  simp(disch:=omega) only[go_sem]
  exact goJ (hJ (o,l,a.length+1) _ (by simp only;omega) ⟨ho.upd hb7,hk,by simp only;omega,by simp only;rw[← hr];congr 1;omega⟩) (by simp(disch:=omega) only[wrap64,go_sem];simp)
 | some f =>
  rw[hfe] at hr
  have hfm:=hmem x f hfe
  have hfs:=hfb f hfm
  have hok2:=zav f.sels l (hU0 f hfm) hk
  have hl2:=ze0 f.sels l
  have hS2:=fun H2 (h:zR H2 o l.length 1)=>ztM f.sels l o H2 (by simp only[Lim];omega) h
  have hge2:l.length≤(yX f.sels l).length:=zg0 f.sels l
  obtain⟨fn,fo,fd,fs⟩:=f
  simp only at hS2 hok2 hl2 hr hge2
  simp(disch:=omega) only[Option.getD,Option.isSome,Yh,go_sem]
  refine zb fun b7 hb7=>?_
  simp(disch:=omega) only[go_sem]
  refine zB (hS2 _ (ho.own.upd hb7)) fun o2 H2 hs2=>?_
  rw[zK] at hs2
  simp(disch:=omega) only[go_sem]
  exact goJ (hJ (o2,yX fs l,a.length+1) H2 (by simp only;omega) ⟨(ho.upd hb7).trans hs2,hok2,by simp only;omega,by simp only;rw[← hr];congr 1;omega⟩) (by simp(disch:=omega) only[wrap64,go_sem];simp)
theorem zad (k:Int) (nm:List UInt8) (vars:List VarD) (dirs:List DirD) (sels:List SelD):cO ⟨k,nm,vars,dirs,sels⟩=[.int .i64 k,.str nm,.sl .no 10 (cWs vars),.sl .no 2 (cDs dirs),.sl .no 7 (cSs sels)]:=rfl
def cLL (l:List (List SelD)):List (List AV):=l.map fun x=>[.sl .no 7 (cSs x)]
theorem zjb (l:List (List SelD)):(cLL l).length=l.length:=by simp[cLL]
def yO (d:DocD):List (List SelD):=d.ops.map (·.sels)++d.frags.map (·.sels)
theorem zp1 (d:DocD) (H:zc) (hb:zv d≤Lim):zac Tryz.prog 79 [.agg (zT d)] H .nil 1 (cLL (yO d)):=by
 obtain⟨ops,frags⟩:=d
 have hb':bOs ops+bFs frags≤1099511627776:=by simpa only[Lim,zv] using hb
 have l1:=Zx ops
 have l2:=ZL frags
 have m1:=Zi ops
 have m2:=yD frags
 rw[show zT ⟨ops,frags⟩=[.sl .no 5 (cOs ops),.sl .no 4 (cFs frags)] from rfl]
 refine zk.goO ir79 ck79 (Al4 _) fun KP Q hQ hP=>?_
 simp(disch:=omega) only[ir79,l1,go_sem]
 refine zf ops 11 (fun x:Own×List (List SelD)=>[(3,.sl x.1 1 (cLL x.2))]) (fun done rest x H'=>x.2=done.map (·.sels)∧OwnS H .nil H' x.1 done.length 1) (.nil,[]) (by simp(disch:=omega) only[cLL,List.map,go_sem]) ⟨rfl,OwnS.refl (o:=.nil) (n:=0) rfl⟩ ?_ ?_
 ·rintro⟨o1,a⟩ H1 J ⟨hn,hs⟩ hlt
  simp only at hn
  subst hn
  replace hs:OwnS H .nil H1 o1 ops.length 1:=hs
  simp(disch:=omega) only[l1,hlt,l2,go_sem]
  refine zf frags 24 (fun x:Own×List (List SelD)=>[(3,.sl x.1 1 (cLL x.2))]) (fun done rest x H'=>x.2=ops.map (·.sels)++done.map (·.sels)∧OwnS H .nil H' x.1 (ops.length+done.length) 1) (o1,ops.map (·.sels)) (by simp(disch:=omega) only[go_sem]) ⟨by simp,hs⟩ ?_ ?_
  ·rintro⟨o2,a⟩ H2 J ⟨hn,hs⟩ hlt
   simp only at hn
   subst hn
   simp(disch:=omega) only[l2,hlt,go_sem]
   refine hQ _ _ H2 H2 [.sl o2 1 (cLL (yO ⟨ops,frags⟩))] nofun (by simp(disch:=omega) only[ir79,zL,Zt,yO,go_sem]) (Low.refl _) ⟨o2,rfl,by rw[zjb];simpa[yO] using hs⟩
  ·rintro done x rest ⟨o2,a⟩ H2 J hd hlt _ ⟨hn,hs⟩ hJ
   have hg:=Yw hd
   simp only at hn
   subst hn
   have h3:=zjb (ops.map (·.sels)++done.map (·.sels))
   simp only[Al5,List.length_map] at h3
   replace hs:OwnS H .nil H2 o2 (ops.length+done.length) 1:=hs
   obtain⟨nm,on,ds,ss⟩:=x
   rw[Yh] at hg
   simp(disch:=omega) only[l2,hlt,hg,go_sem]
   refine zb fun b7 hb7=>?_
   have hsu:=hs.upd (x:=.cells [.str nm,.str on,.sl .no 2 (cDs ds),.sl .no 7 (cSs ss)]) hb7
   simp(disch:=omega) only[go_sem]
   refine zt (by rw[h3];exact hsu.own) ?_ ?_ fun o' H3 hs2=>?_
   ·simp only[h3,Al2,Al3];omega
   ·simp only[h3,Al2,Al3,maxLen];omega
   have e1:cLL (ops.map (·.sels)++done.map (·.sels))++[[AV.sl .no 7 (cSs ss)]]=cLL (ops.map (·.sels)++(done.map (·.sels)++[ss])):=by simp[cLL]
   have hs3:=hsu.trans hs2
   simp only[h3,Al2,Al3] at hs3
   simp(disch:=omega) only[wrap64,e1,go_sem]
   exact goJ (hJ (o',ops.map (·.sels)++(done.map (·.sels)++[ss])) H3 ⟨by simp,by simpa[Nat.add_assoc] using hs3⟩) (by simp(disch:=omega) only[wrap64,go_sem])
 ·rintro done x rest ⟨o1,a⟩ H1 J hd hlt _ ⟨hn,hs⟩ hJ
  have hg:=Yf hd
  simp only at hn
  subst hn
  have h3:=zjb (done.map (·.sels))
  simp only[List.length_map] at h3
  replace hs:OwnS H .nil H1 o1 done.length 1:=hs
  obtain⟨k,nm,vs,ds,ss⟩:=x
  rw[zad] at hg
  simp(disch:=omega) only[l1,hlt,hg,go_sem]
  refine zb fun b5 hb5=>?_
  have hsu:=hs.upd (x:=.cells [.int .i64 k,.str nm,.sl .no 10 (cWs vs),.sl .no 2 (cDs ds),.sl .no 7 (cSs ss)]) hb5
  simp(disch:=omega) only[go_sem]
  refine zt (by rw[h3];exact hsu.own) ?_ ?_ fun o' H3 hs2=>?_
  ·simp only[h3,Al2,Al3];omega
  ·simp only[h3,Al2,Al3,maxLen];omega
  have e1:cLL (done.map (·.sels))++[[AV.sl .no 7 (cSs ss)]]=cLL (done.map (·.sels)++[ss]):=by simp[cLL]
  have hs3:=hsu.trans hs2
  simp only[h3,Al2,Al3] at hs3
  simp(disch:=omega) only[wrap64,e1,go_sem]
  exact goJ (hJ (o',done.map (·.sels)++[ss]) H3 ⟨by simp,by simpa using hs3⟩) (by simp(disch:=omega) only[wrap64,go_sem])
theorem zpr (l:List (List UInt8)) (hl:l.length≤Lim):zi Tryz.prog 37 [.sl .no 1 (cT l)] (.bool (!zaf l)):=by
 refine zi.go ir37 ck37 (Al4 _) fun KP Q hQ=>?_
 have h1:=zK l
 simp only[Lim] at hl
 simp(disch:=omega) only[ir37,h1,go_sem]
 refine zf l 7 (fun _:Unit=>[]) (fun done rest _ H=>zc8 done rest=zaf l) () (by simp(disch:=omega) only[go_sem]) rfl ?_ ?_
 ·rintro _ H J hn hlt
  simp(disch:=omega) only[h1,hlt,go_sem]
  exact hQ _ _ _ _ nofun rfl (by simp[zd,ze,AV.strip,AV.strip1,← hn,zc8])
 ·rintro done x rest _ H J hd hlt _ hn hJ
  have hg:=Z5 hd
  have htk:(cT l).take done.length=cT done:=by rw[hd];simp[cT]
  have hle:(done.length:Int)≤l.length:=by omega
  have hdl:done.length≤Lim:=by simp only[Lim];omega
  simp only[zc8] at hn
  simp(disch:=omega) only[h1,hlt,hg,htk,hle,go_sem]
  refine za (yQ done x hdl) ?_
  cases hh:z8 x done with
  | true =>
   rw[hh] at hn
   simp(disch:=omega) only[go_sem]
   exact hQ _ _ _ _ nofun rfl (by simp[zd,ze,AV.strip,AV.strip1,← hn])
  | false =>
   rw[hh] at hn
   simp(disch:=omega) only[go_sem]
   exact goJ (hJ () _ (by simpa using hn)) (by simp(disch:=omega) only[wrap64,go_sem])
theorem zvG (d:DocD) (H:zc) (hb:zv d≤Lim):zac Tryz.prog 39 [.agg (zT d)] H .nil 1 (cT (d.ops.map (·.nm))):=by
 obtain⟨ops,frags⟩:=d
 have hb':bOs ops+bFs frags≤1099511627776:=by simpa only[Lim,zv] using hb
 have l1:=Zx ops
 have m1:=Zi ops
 have m2:=yD frags
 rw[show zT ⟨ops,frags⟩=[.sl .no 5 (cOs ops),.sl .no 4 (cFs frags)] from rfl]
 simp only
 refine zk.goO ir39 ck39 (Al4 _) fun KP Q hQ hP=>?_
 simp(disch:=omega) only[ir39,l1,go_sem]
 refine zf ops 9 (fun x:Own×List (List UInt8)=>[(3,.sl x.1 1 (cT x.2))]) (fun done rest x H'=>x.2=(done.map (·.nm))∧x.2.length≤done.length∧OwnS H .nil H' x.1 x.2.length 1) (.nil,[]) (by simp(disch:=omega) only[cT,List.map,go_sem]) ⟨rfl,Al4 _,OwnS.refl (o:=.nil) (n:=0) rfl⟩ ?_ ?_
 ·rintro⟨o1,a⟩ H1 J ⟨hn,hle,hs⟩ hlt
  simp only at hn
  subst hn
  simp(disch:=omega) only[l1,hlt,go_sem]
  refine hQ _ _ H1 H1 [.sl o1 1 (cT (ops.map (·.nm)))] nofun (by simp(disch:=omega) only[ir39,zL,Zt,go_sem]) (Low.refl _) ⟨o1,rfl,by rw[zK];exact hs⟩
 ·rintro done x rest ⟨o1,a⟩ H1 J hd hlt _ ⟨hn,hle,hs⟩ hJ
  have hg:=Yf hd
  simp only at hn hle
  replace hs:OwnS H .nil H1 o1 a.length 1:=hs
  have h3:=zK a
  obtain⟨k,nm,vs,ds,ss⟩:=x
  rw[zad] at hg
  simp(disch:=omega) only[l1,hlt,hg,go_sem]
  refine zb fun b5 hb5=>?_
  have hsu:=hs.upd (x:=.cells [.int .i64 k,.str nm,.sl .no 10 (cWs vs),.sl .no 2 (cDs ds),.sl .no 7 (cSs ss)]) hb5
  simp(disch:=omega) only[go_sem]
  refine zt (by rw[h3];exact hsu.own) ?_ ?_ fun o' H3 hs2=>?_
  ·simp only[h3,Al2,Al3];omega
  ·simp only[h3,Al2,Al3,maxLen];omega
  have e1:cT a++[[AV.str nm]]=cT (a++[nm]):=by simp[cT]
  have hs3:=hsu.trans hs2
  simp only[h3,Al2,Al3] at hs3
  simp(disch:=omega) only[wrap64,e1,go_sem]
  exact goJ (hJ (o',a++[nm]) H3 ⟨by rw[hn];simp,by simp only[Al5,Al2,Al3];omega,by simpa using hs3⟩) (by simp(disch:=omega) only[wrap64,go_sem])
theorem zte (d:DocD) (H:zc) (hb:zv d≤Lim):zac Tryz.prog 42 [.agg (zT d)] H .nil 1 (cT (d.frags.map (·.nm))):=by
 obtain⟨ops,frags⟩:=d
 have hb':bOs ops+bFs frags≤1099511627776:=by simpa only[Lim,zv] using hb
 have l1:=ZL frags
 have m1:=Zi ops
 have m2:=yD frags
 rw[show zT ⟨ops,frags⟩=[.sl .no 5 (cOs ops),.sl .no 4 (cFs frags)] from rfl]
 simp only
 refine zk.goO ir42 ck42 (Al4 _) fun KP Q hQ hP=>?_
 simp(disch:=omega) only[ir42,l1,go_sem]
 refine zf frags 9 (fun x:Own×List (List UInt8)=>[(3,.sl x.1 1 (cT x.2))]) (fun done rest x H'=>x.2=(done.map (·.nm))∧x.2.length≤done.length∧OwnS H .nil H' x.1 x.2.length 1) (.nil,[]) (by simp(disch:=omega) only[cT,List.map,go_sem]) ⟨rfl,Al4 _,OwnS.refl (o:=.nil) (n:=0) rfl⟩ ?_ ?_
 ·rintro⟨o1,a⟩ H1 J ⟨hn,hle,hs⟩ hlt
  simp only at hn
  subst hn
  simp(disch:=omega) only[l1,hlt,go_sem]
  refine hQ _ _ H1 H1 [.sl o1 1 (cT (frags.map (·.nm)))] nofun (by simp(disch:=omega) only[ir42,zL,Zt,go_sem]) (Low.refl _) ⟨o1,rfl,by rw[zK];exact hs⟩
 ·rintro done x rest ⟨o1,a⟩ H1 J hd hlt _ ⟨hn,hle,hs⟩ hJ
  have hg:=Yw hd
  simp only at hn hle
  replace hs:OwnS H .nil H1 o1 a.length 1:=hs
  have h3:=zK a
  obtain⟨nm,on,ds,ss⟩:=x
  rw[Yh] at hg
  simp(disch:=omega) only[l1,hlt,hg,go_sem]
  refine zb fun b5 hb5=>?_
  have hsu:=hs.upd (x:=.cells [.str nm,.str on,.sl .no 2 (cDs ds),.sl .no 7 (cSs ss)]) hb5
  simp(disch:=omega) only[go_sem]
  refine zt (by rw[h3];exact hsu.own) ?_ ?_ fun o' H3 hs2=>?_
  ·simp only[h3,Al2,Al3];omega
  ·simp only[h3,Al2,Al3,maxLen];omega
  have e1:cT a++[[AV.str nm]]=cT (a++[nm]):=by simp[cT]
  have hs3:=hsu.trans hs2
  simp only[h3,Al2,Al3] at hs3
  simp(disch:=omega) only[wrap64,e1,go_sem]
  exact goJ (hJ (o',a++[nm]) H3 ⟨by rw[hn];simp,by simp only[Al5,Al2,Al3];omega,by simpa using hs3⟩) (by simp(disch:=omega) only[wrap64,go_sem])
theorem zul (d:DocD) (H:zc) (hb:zv d≤Lim):zac Tryz.prog 38 [.agg (zT d)] H .nil 1 (cT ((d.ops.map (·.nm)).filter (fun n=>!decide (n=[])))):=by
 obtain⟨ops,frags⟩:=d
 have hb':bOs ops+bFs frags≤1099511627776:=by simpa only[Lim,zv] using hb
 have l1:=Zx ops
 have m1:=Zi ops
 have m2:=yD frags
 rw[show zT ⟨ops,frags⟩=[.sl .no 5 (cOs ops),.sl .no 4 (cFs frags)] from rfl]
 simp only
 refine zk.goO ir38 ck38 (Al4 _) fun KP Q hQ hP=>?_
 simp(disch:=omega) only[ir38,l1,go_sem]
 refine zf ops 9 (fun x:Own×List (List UInt8)=>[(3,.sl x.1 1 (cT x.2))]) (fun done rest x H'=>x.2=((done.map (·.nm)).filter (fun n=>!decide (n=[])))∧x.2.length≤done.length∧OwnS H .nil H' x.1 x.2.length 1) (.nil,[]) (by simp(disch:=omega) only[cT,List.map,go_sem]) ⟨rfl,Al4 _,OwnS.refl (o:=.nil) (n:=0) rfl⟩ ?_ ?_
 ·rintro⟨o1,a⟩ H1 J ⟨hn,hle,hs⟩ hlt
  simp only at hn
  subst hn
  simp(disch:=omega) only[l1,hlt,go_sem]
  refine hQ _ _ H1 H1 [.sl o1 1 (cT ((ops.map (·.nm)).filter (fun n=>!decide (n=[]))))] nofun (by simp(disch:=omega) only[ir38,zL,Zt,go_sem]) (Low.refl _) ⟨o1,rfl,by rw[zK];exact hs⟩
 ·rintro done x rest ⟨o1,a⟩ H1 J hd hlt _ ⟨hn,hle,hs⟩ hJ
  have hg:=Yf hd
  simp only at hn hle
  replace hs:OwnS H .nil H1 o1 a.length 1:=hs
  have h3:=zK a
  obtain⟨k,nm,vs,ds,ss⟩:=x
  rw[zad] at hg
  simp(disch:=omega) only[l1,hlt,hg,go_sem]
  refine zb fun b5 hb5=>?_
  have hsu:=hs.upd (x:=.cells [.int .i64 k,.str nm,.sl .no 10 (cWs vs),.sl .no 2 (cDs ds),.sl .no 7 (cSs ss)]) hb5
  by_cases hz:nm=[]
  ·subst hz
   simp(disch:=omega) only[go_sem]
   exact goJ (hJ (o1,a) _ ⟨by rw[hn];simp,by simp only[Al5,Al2,Al3];omega,hsu⟩) (by simp(disch:=omega) only[wrap64,go_sem])
  simp(disch:=omega) only[hz,go_sem]
  refine zt (by rw[h3];exact hsu.own) ?_ ?_ fun o' H3 hs2=>?_
  ·simp only[h3,Al2,Al3];omega
  ·simp only[h3,Al2,Al3,maxLen];omega
  have e1:cT a++[[AV.str nm]]=cT (a++[nm]):=by simp[cT]
  have hs3:=hsu.trans hs2
  simp only[h3,Al2,Al3] at hs3
  simp(disch:=omega) only[wrap64,e1,go_sem]
  exact goJ (hJ (o',a++[nm]) H3 ⟨by rw[hn];simp[hz],by simp only[Al5,Al2,Al3];omega,by simpa using hs3⟩) (by simp(disch:=omega) only[wrap64,go_sem])
mutual
def zk7 (s:SchD):SelD→Bool
 | .mk k _ _ _ _ on sels=>(decide (k=2)&&(!decide (on=[])&&!ZZ s on))||!zcJ s sels
def zcJ (s:SchD):List SelD→Bool
 | []=>true
 | x::r=>!zk7 s x&&zcJ s r
end
theorem zis (s:SchD):∀ l,(!l.any (zk7 s))=zcJ s l
 | []=>rfl
 | x::r=>by rw[List.any_cons,zcJ,← zis s r];cases zk7 s x<;>simp
def zpO (s:SchD) (sels:List SelD):Prop:=bSs sels≤Lim→zi Tryz.prog 81 [.agg (zq s),.sl .no 7 (cSs sels)] (.bool (zcJ s sels))
theorem zuF (s:SchD) (x:SelD) (hl:s.defs.length≤Lim) (hb:bS x≤Lim) (ih:∀ k al nm args dirs on xs,x=.mk k al nm args dirs on xs→zpO s xs):zi Tryz.prog 135 [.agg (cS x),.view (zq s)] (.bool (zk7 s x)):=by
 obtain⟨k,al,nm,args,dirs,on,xs⟩:=x
 have h1:=zgz s on hl
 have h2:=ih k al nm args dirs on xs rfl (by simp only[bS] at hb;omega)
 simp only[zk7]
 generalize ZZ s on=x1 at *
 generalize zcJ s xs=x2 at *
 obtain⟨sd,sq,sm⟩:=s
 simp only[zq] at h1 h2 ⊢
 refine zi.go ir135 ck135 (Al4 _) fun KP Q hQ=>?_
 by_cases hk:k=2
 case neg =>
  simp(disch:=omega) only[ir135,y8,hk,go_sem]
  refine za h2 ?_
  simp(disch:=omega) only[go_sem]
  exact hQ _ _ _ _ nofun rfl (by simp[zd,ze,AV.strip,AV.strip1,hk])
 subst hk
 by_cases ho:on=[]
 ·have ho':=eq_true ho
  simp(disch:=omega) only[ir135,y8,ho',go_sem]
  refine za h2 ?_
  simp(disch:=omega) only[go_sem]
  exact hQ _ _ _ _ nofun rfl (by simp[zd,ze,AV.strip,AV.strip1,ho])
 simp(disch:=omega) only[ir135,y8,ho,go_sem]
 refine za h1 ?_
 cases x1 with
 | false =>
  simp(disch:=omega) only[go_sem]
  exact hQ _ _ _ _ nofun rfl (by simp[zd,ze,AV.strip,AV.strip1,ho])
 | true =>
  simp(disch:=omega) only[go_sem]
  refine za h2 ?_
  simp(disch:=omega) only[go_sem]
  exact hQ _ _ _ _ nofun rfl (by simp[zd,ze,AV.strip,AV.strip1,ho])
theorem zm1 {x:SelD} {l:List SelD} (h:x∈l):bS x≤bSs l:=by
 obtain⟨a,b,hd⟩:=List.append_of_mem h
 have:=zaX a x b
 rw[← hd] at this
 omega
theorem zmB (s:SchD) (hl:s.defs.length≤Lim) (sels:List SelD) (ih:∀ k al nm args dirs on xs,SelD.mk k al nm args dirs on xs∈sels→zpO s xs):zpO s sels:=by
 intro hb
 have hsl:=Yu sels
 have hx:=zs3 cS ztr sels 135 [.view (zq s)] (zk7 s) (by omega) (by kernel_rfl) fun x hx=>zuF s x hl (by have:=zm1 hx;omega) fun k al nm args dirs on xs e=>ih k al nm args dirs on xs (e▸hx)
 rw[← zdk] at hx
 rw[← zis]
 generalize sels.any (zk7 s)=x1 at *
 obtain⟨sd,sq,sm⟩:=s
 simp only[zq] at hx ⊢
 refine zi.go ir81 ck81 (Al4 _) fun KP Q hQ=>?_
 simp(disch:=omega) only[ir81,go_sem]
 refine za hx ?_
 simp(disch:=omega) only[go_sem]
 exact hQ _ _ _ _ nofun rfl (by simp[zd,ze,AV.strip,AV.strip1])
theorem zvD (s:SchD) (hl:s.defs.length≤Lim) (sels:List SelD):zpO s sels:=by
 have h:∀ x:SelD,∀ k al nm args dirs on xs,x=.mk k al nm args dirs on xs→zpO s xs:=SelD.ind fun k al nm args dirs on sels ih=>by
  intro k' al' nm' args' dirs' on' xs e
  cases e
  exact zmB s hl sels fun k al nm args dirs on xs hm=>ih _ hm _ _ _ _ _ _ _ rfl
 exact zmB s hl sels fun k al nm args dirs on xs _=>h _ k al nm args dirs on xs rfl
theorem zvK (s:SchD) (f:FragD) (hl:s.defs.length≤Lim):zi Tryz.prog 76 [.agg (cF f),.view (zq s)] (.bool (!ZZ s f.on)):=by
 have h1:=zgz s f.on hl
 obtain⟨nm,on,ds,ss⟩:=f
 simp only at h1 ⊢
 generalize ZZ s on=x1 at *
 obtain⟨sd,sq,sm⟩:=s
 simp only[zq] at h1 ⊢
 refine zi.go ir76 ck76 (Al4 _) fun KP Q hQ=>?_
 simp(disch:=omega) only[ir76,Yh,go_sem]
 refine za h1 ?_
 simp(disch:=omega) only[go_sem]
 exact hQ _ _ _ _ nofun rfl (by simp[zd,ze,AV.strip,AV.strip1])
theorem zvR (s:SchD) (l:List SelD) (hl:s.defs.length≤Lim) (hb:bSs l≤Lim):zi Tryz.prog 80 [.sl .no 7 (cSs l),.view (zq s)] (.bool (!zcJ s l)):=by
 have h1:=zvD s hl l hb
 generalize zcJ s l=x1 at *
 obtain⟨sd,sq,sm⟩:=s
 simp only[zq] at h1 ⊢
 refine zi.go ir80 ck80 (Al4 _) fun KP Q hQ=>?_
 simp(disch:=omega) only[ir80,go_sem]
 refine za h1 ?_
 simp(disch:=omega) only[go_sem]
 exact hQ _ _ _ _ nofun rfl (by simp[zd,ze,AV.strip,AV.strip1])
def onM (s:SchD) (d:DocD):Bool:=!(d.frags.any fun f=>!ZZ s f.on)&&!((yO d).any fun l=>!zcJ s l)
theorem zdT {d:DocD} {l:List SelD} (h:l∈yO d):bSs l≤zv d:=by
 simp only[yO,List.mem_append,List.mem_map] at h
 rcases h with ⟨o,ho,rfl⟩|⟨f,hf,rfl⟩
 ·obtain⟨a,b,hd⟩:=List.append_of_mem ho
  have:=Yv a o b
  rw[← hd] at this
  simp only[bO,zv] at this ⊢;omega
 ·have:=zbM hf
  have:=zap f
  simp only[zv];omega
theorem zgt (d:DocD):(yO d).length≤zv d:=by
 have:=Zi d.ops
 have:=yD d.frags
 simp only[yO,Al5,List.length_map,zv];omega
theorem onC (s:SchD) (d:DocD) (hl:s.defs.length≤Lim) (hb:zv d≤Lim):zi Tryz.prog 43 [.agg (zq s),.agg (zT d)] (.bool (onM s d)):=by
 have hfl:=yD d.frags
 have hbd:bOs d.ops+bFs d.frags≤Lim:=hb
 have h1:=zmo cF (fun _=>rfl) d.frags 76 [.view (zq s)] (fun f=>!ZZ s f.on) (by omega) (by kernel_rfl) fun f _=>zvK s f hl
 have h2:=zr0 (fun l:List SelD=>AV.sl .no 7 (cSs l)) (yO d) 80 [.view (zq s)] (fun l=>!zcJ s l) (by have:=zgt d;omega) (by kernel_rfl) fun l h=>zvR s l hl (by have:=zdT h;omega)
 have h3:=fun H=>zp1 d H hb
 unfold onM
 generalize (d.frags.any fun f=>!ZZ s f.on)=x1 at *
 generalize ((yO d).any fun l=>!zcJ s l)=x2 at *
 obtain⟨sd,sq,sm⟩:=s
 obtain⟨ops,frags⟩:=d
 simp only[zq,zT] at h1 h2 h3 ⊢
 refine zi.go ir43 ck43 (Al4 _) fun KP Q hQ=>?_
 simp(disch:=omega) only[ir43,go_sem]
 refine za h1 ?_
 cases x1 with
 | true =>
  simp(disch:=omega) only[go_sem]
  exact hQ _ _ _ _ nofun rfl (by simp[zd,ze,AV.strip,AV.strip1])
 | false =>
  simp(disch:=omega) only[go_sem]
  refine zB (h3 _) fun o2 H2 hs2=>?_
  simp(disch:=omega) only[go_sem]
  refine za (zi.low h2) ?_
  simp(disch:=omega) only[go_sem]
  exact hQ _ _ _ _ nofun rfl (by simp[zd,ze,AV.strip,AV.strip1])
def Zg (d:DocD):Nat:=2*(zv d+zv d)
theorem zce (d:DocD) (sels:List SelD):(yi d sels).length≤bSs sels+bFs d.frags:=by
 have h:=ziu (d:=d) (U:=zex d sels) (fun f hf y hy=>by simp only[zex,List.mem_append,List.mem_flatMap];exact .inr ⟨f,hf,hy⟩) (bSs sels+bFs d.frags+1) (yX sels []) 0 (zav sels [] (fun y hy=>by simp[zex,hy]) ⟨List.nodup_nil,by simp⟩)
 exact Nat.le_trans (zjg h) (ziD d sels)
def zgJ (d:DocD) (f:FragD):Bool:=z8 f.nm (yi d f.sels)
theorem zrH (d:DocD) (f:FragD) (hf:f∈d.frags) (hb:Zg d≤Lim):zi Tryz.prog 85 [.agg (cF f),.view (zT d)] (.bool (zgJ d f)):=by
 have h1:=zbM hf
 have h2:=zap f
 have h0:bFs d.frags≤zv d:=by simp only[zv];omega
 have hb2:=hb
 simp only[Zg] at hb2
 have hR:=fun H=>zgF d f.sels H (by omega)
 have hlen:=zce d f.sels
 have hC:=yQ (yi d f.sels) f.nm (by omega)
 unfold zgJ
 generalize yi d f.sels=R at *
 generalize z8 f.nm R=x1 at *
 obtain⟨nm,on,ds,ss⟩:=f
 obtain⟨ops,frags⟩:=d
 simp only[zT] at hR hC ⊢
 refine zi.go ir85 ck85 (Al4 _) fun KP Q hQ=>?_
 simp(disch:=omega) only[ir85,Yh,go_sem]
 refine zB (hR _) fun o2 H2 hs2=>?_
 simp(disch:=omega) only[go_sem]
 refine za (zi.low hC) ?_
 simp(disch:=omega) only[go_sem]
 exact hQ _ _ _ _ nofun rfl (by simp[zd,ze,AV.strip,AV.strip1])
def zbG (d:DocD):Bool:=d.frags.any (zgJ d)
theorem zpK (d:DocD) (hb:Zg d≤Lim):zi Tryz.prog 45 [.agg (zT d)] (.bool (zbG d)):=by
 have hfl:=yD d.frags
 have h0:bFs d.frags≤zv d:=by simp only[zv];omega
 have hb2:=hb
 simp only[Zg] at hb2
 have h1:=zmo cF (fun _=>rfl) d.frags 85 [.view (zT d)] (zgJ d) (by omega) (by kernel_rfl) fun f hf=>zrH d f hf hb
 unfold zbG
 generalize d.frags.any (zgJ d)=x1 at *
 obtain⟨ops,frags⟩:=d
 simp only[zT] at h1 ⊢
 refine zi.go ir45 ck45 (Al4 _) fun KP Q hQ=>?_
 simp(disch:=omega) only[ir45,go_sem]
 refine za h1 ?_
 simp(disch:=omega) only[go_sem]
 exact hQ _ _ _ _ nofun rfl (by simp[zd,ze,AV.strip,AV.strip1])
theorem zrK {H H':zc} {o':Own} {n sz:Nat} (h:OwnS H .nil H' o' n sz):Low H H':=Low.of_sub fun b o hb=>h.kept b o hb fun d e=>by cases e
theorem zob (d:DocD) (n:List UInt8) (b:Nat) (H:zc) (hb:H b=some (.cells (zT d))) (hl:d.frags.length≤Lim):zk Tryz.prog 84 [.str n,.ptr b 0] H (At (.bool (!(zC d n).isSome)) H):=by
 have h1:=zkt d n hl
 cases hf:zC d n with
 | none =>
  rw[hf] at h1
  obtain⟨ops,frags⟩:=d
  simp only[zT] at h1 hb
  refine zk.go ir84 ck84 (Al4 _) fun KP Q hQ=>?_
  simp(disch:=omega) only[ir84,hb,go_sem]
  refine za h1 ?_
  simp(disch:=omega) only[Option.getD,Option.isSome,zFr,Yh,go_sem]
  refine zb fun b4 hb4=>?_
  simp(disch:=omega) only[go_sem]
  exact hQ _ _ _ H _ nofun rfl ((Low.refl _).upd hb4) ⟨rfl,rfl⟩
 | some f =>
  rw[hf] at h1
  obtain⟨nm,on,ds,ss⟩:=f
  obtain⟨ops,frags⟩:=d
  simp only[zT] at h1 hb
  refine zk.go ir84 ck84 (Al4 _) fun KP Q hQ=>?_
  simp(disch:=omega) only[ir84,hb,go_sem]
  refine za h1 ?_
  simp(disch:=omega) only[Option.getD,Option.isSome,Yh,go_sem]
  refine zb fun b4 hb4=>?_
  simp(disch:=omega) only[go_sem]
  exact hQ _ _ _ H _ nofun rfl ((Low.refl _).upd hb4) ⟨rfl,rfl⟩
def zhK (d:DocD) (l:List SelD):Bool:=(yX l []).any fun n=>!(zC d n).isSome
theorem zqA (d:DocD) (l:List SelD) (b:Nat) (H:zc) (hb:H b=some (.cells (zT d))) (hl:d.frags.length≤Lim) (hs:bSs l≤Lim):zk Tryz.prog 82 [.sl .no 7 (cSs l),.ptr b 0] H (At (.bool (zhK d l)) H):=by
 have h1:=ztM l [] .nil H (by simpa using hs) rfl
 have hln:=ze0 l []
 simp only[Al3] at hln
 have hnil:cT []=[]:=rfl
 rw[hnil] at h1
 have h2:=fun H2 (h:H2 b=some (.cells (zT d)))=>zey (fun n:List UInt8=>AV.str n) (yX l []) 84 [.ptr b 0] (fun n=>!(zC d n).isSome) H2 (by omega) (by kernel_rfl) fun n _=>zob d n b H2 h hl
 unfold zhK
 generalize ((yX l []).any fun n=>!(zC d n).isSome)=x1 at *
 refine zk.go ir82 ck82 (Al4 _) fun KP Q hQ=>?_
 simp(disch:=omega) only[ir82,go_sem]
 refine zB h1 fun o2 H2 hs2=>?_
 have h3:H2 b=some (.cells (zT d)):=hs2.kept b _ hb fun d e=>by cases e
 simp(disch:=omega) only[go_sem]
 have h4:=zk.low (args:=[.sl o2 1 (cT (yX l [])),.clo 84 [] [.ptr b 0]]) (h2 H2 h3)
 refine z6 h4 ?_
 rintro _ _ ⟨_,rfl,rfl,rfl⟩
 simp(disch:=omega) only[ZU,go_sem]
 exact hQ _ _ _ H _ nofun rfl (zrK hs2) ⟨rfl,rfl⟩
def zha (d:DocD):Bool:=!(yO d).any (zhK d)
theorem zua (d:DocD) (hb:zv d≤Lim):zi Tryz.prog 44 [.agg (zT d)] (.bool (zha d)):=by
 have hfl:=yD d.frags
 have hbd:bOs d.ops+bFs d.frags≤Lim:=hb
 have h1:=fun H=>zp1 d H hb
 have h2:=fun b H2 (h:H2 b=some (.cells (zT d)))=>zqi (fun l:List SelD=>AV.sl .no 7 (cSs l)) (yO d) 82 [.ptr b 0] (zhK d) H2 (by have:=zgt d;omega) (by kernel_rfl) fun l hl=>zqA d l b H2 h (by omega) (by have:=zdT hl;omega)
 unfold zha
 generalize (yO d).any (zhK d)=x1 at *
 have hcd:zT d=[.sl .no 5 (cOs d.ops),.sl .no 4 (cFs d.frags)]:=rfl
 rw[hcd] at h1 h2 ⊢
 refine zi.go ir44 ck44 (Al4 _) fun KP Q hQ=>?_
 simp(disch:=omega) only[ir44,go_sem]
 refine zb fun b1 hb1=>?_
 simp(disch:=omega) only[go_sem]
 refine zB (h1 _) fun o2 H2 hs2=>?_
 have h3:=hs2.kept b1 _ (upd_same ..) fun d e=>by cases e
 simp(disch:=omega) only[go_sem]
 have h4:=zk.low (args:=[.sl o2 1 (cLL (yO d)),.clo 82 [] [.ptr b1 0]]) (h2 b1 H2 h3)
 refine z6 h4 ?_
 rintro _ _ ⟨_,rfl,rfl,rfl⟩
 simp(disch:=omega) only[ZU,go_sem]
 exact hQ _ _ _ _ nofun rfl (by simp[zd,ze,AV.strip,AV.strip1])
def y9 (R:List (List UInt8)) (l:List (List UInt8)) (f:FragD):List (List UInt8):=if z8 f.nm R=true∧z8 f.nm l=false then l++[f.nm] else l
def Zm (d:DocD) (sels:List SelD):List (List UInt8):=d.frags.foldl (y9 (yi d sels)) []
theorem zpk (d:DocD) (sels:List SelD) (H:zc) (hb:Zg d≤Lim) (hs:bSs sels≤zv d):zac Tryz.prog 11 [.agg (zT d),.sl .no 7 (cSs sels)] H .nil 1 (cT (Zm d sels)):=by
 have h0:bFs d.frags≤zv d:=by simp only[zv];omega
 have hb2:=hb
 simp only[Zg] at hb2
 have hR:=fun H=>zgF d sels H (by omega)
 have hRl:=zce d sels
 have hb3:2*(zv d+zv d)≤1099511627776:=by simpa only[Lim] using hb2
 have e0:Zm d sels=d.frags.foldl (y9 (yi d sels)) []:=rfl
 have hC:=fun n=>yQ (yi d sels) n (by omega)
 generalize Zm d sels=F at *
 generalize yi d sels=R at *
 have hfl:=yD d.frags
 obtain⟨ops,frags⟩:=d
 simp only[zT] at hR e0 hfl h0 ⊢
 have l1:=ZL frags
 refine zk.goO ir11 ck11 (Al4 _) fun KP Q hQ hP=>?_
 simp(disch:=omega) only[ir11,go_sem]
 refine zB (hR _) fun o0 H0 hs0=>?_
 simp(disch:=omega) only[l1,go_sem]
 refine zf frags 15 (fun x:Own×List (List UInt8)=>[(6,.sl x.1 1 (cT x.2))]) (fun done rest x H'=>rest.foldl (y9 R) x.2=frags.foldl (y9 R) []∧x.2.length≤done.length∧OwnS H .nil H' x.1 x.2.length 1) (.nil,[]) (by simp(disch:=omega) only[cT,List.map,go_sem]) ⟨rfl,Al4 _,⟨rfl,hs0.kept,fun b d e=>by cases e⟩⟩ ?_ ?_
 ·rintro⟨o1,a⟩ H1 J ⟨hn,_,hs1⟩ hlt
  simp only[List.foldl] at hn
  simp(disch:=omega) only[l1,hlt,go_sem]
  refine hQ _ _ H1 H1 [.sl o1 1 (cT a)] nofun (by simp(disch:=omega) only[ir11,zL,Zt,go_sem]) (Low.refl _) ⟨o1,by rw[e0,← hn];rfl,by rw[e0,← hn,zK];exact hs1⟩
 ·rintro done x rest ⟨o1,a⟩ H1 J hd hlt _ ⟨hn,hle,hs1⟩ hJ
  have hg:=Yw hd
  simp only[List.foldl] at hn
  simp only at hle
  replace hs1:OwnS H .nil H1 o1 a.length 1:=hs1
  have h3:=zK a
  obtain⟨nm,on,ds,ss⟩:=x
  have ha:=yQ a nm (by simp only[Lim];omega)
  have hst:y9 R a ⟨nm,on,ds,ss⟩=if z8 nm R=true∧z8 nm a=false then a++[nm] else a:=rfl
  rw[Yh] at hg
  simp(disch:=omega) only[l1,hlt,hg,go_sem]
  refine zb fun b8 hb8=>?_
  have hsu:=hs1.upd (x:=.cells [.str nm,.str on,.sl .no 2 (cDs ds),.sl .no 7 (cSs ss)]) hb8
  simp(disch:=omega) only[go_sem]
  refine za (zi.low (hC nm)) ?_
  cases hh:z8 nm R with
  | false =>
   rw[if_neg (by simp[hh])] at hst
   rw[hst] at hn
   simp(disch:=omega) only[go_sem]
   exact goJ (hJ (o1,a) _ ⟨hn,by simp only[Al5,Al2,Al3];omega,hsu⟩) (by simp(disch:=omega) only[wrap64,go_sem])
  | true =>
  simp(disch:=omega) only[go_sem]
  refine za (zi.low ha) ?_
  cases hh2:z8 nm a with
  | true =>
   rw[if_neg (by simp[hh2])] at hst
   rw[hst] at hn
   simp(disch:=omega) only[go_sem]
   exact goJ (hJ (o1,a) _ ⟨hn,by simp only[Al5,Al2,Al3];omega,hsu⟩) (by simp(disch:=omega) only[wrap64,go_sem])
  | false =>
   rw[if_pos ⟨hh,hh2⟩] at hst
   rw[hst] at hn
   simp(disch:=omega) only[go_sem]
   refine zt (by rw[h3];exact hsu.own) ?_ ?_ fun o' H3 hs2=>?_
   ·simp only[h3,Al2,Al3];omega
   ·simp only[h3,Al2,Al3,maxLen];omega
   have e1:cT a++[[AV.str nm]]=cT (a++[nm]):=by simp[cT]
   have hs3:=hsu.trans hs2
   simp only[h3,Al2,Al3] at hs3
   simp(disch:=omega) only[wrap64,e1,go_sem]
   exact goJ (hJ (o',a++[nm]) H3 ⟨hn,by simp only[Al5,Al2,Al3];omega,by simpa using hs3⟩) (by simp(disch:=omega) only[wrap64,go_sem])
def zoI (s:SchD) (a b:List UInt8):Bool:=(zbm s a).any fun x=>z8 x (zbm s b)
theorem zvH (s:SchD) (a b:List UInt8) (hb:zJ s+1≤Lim):zi Tryz.prog 91 [.agg (zq s),.str a,.str b] (.bool (zoI s a b)):=by
 have h1:=zpf s a (by omega)
 have h2:=zpf s b (by omega)
 have m1:=zg1 s a
 have m2:=zg1 s b
 have hb':zJ s+1≤1099511627776:=by simpa only[Lim] using hb
 have e0:zoI s a b=(zbm s a).any fun x=>z8 x (zbm s b):=rfl
 generalize zoI s a b=F at *
 generalize zbm s a=la at *
 generalize zbm s b=lb at *
 have l1:=zK la
 have l2:=zK lb
 obtain⟨sd,sq,sm⟩:=s
 simp only[zq] at h1 h2 ⊢
 refine zi.go ir91 ck91 (Al4 _) fun KP Q hQ=>?_
 simp(disch:=omega) only[ir91,go_sem]
 refine za h2 ?_
 simp(disch:=omega) only[go_sem]
 refine za h1 ?_
 simp(disch:=omega) only[l1,go_sem]
 refine zf la 20 (fun _:Unit=>[]) (fun done rest _ H=>(rest.any fun x=>z8 x lb)=la.any fun x=>z8 x lb) () (by simp(disch:=omega) only[go_sem]) rfl ?_ ?_
 ·rintro _ H J hn hlt
  simp(disch:=omega) only[l1,hlt,go_sem]
  exact hQ _ _ _ [.bool false] nofun rfl (by rw[e0,← hn];rfl)
 ·rintro done x rest _ H J hd hlt _ hn hJ
  have hg:=Z5 hd
  rw[List.any_cons] at hn
  simp(disch:=omega) only[l1,hlt,l2,hg,go_sem]
  refine zf lb 26 (fun _:Unit=>[]) (fun done rest _ H=>z8 x rest=z8 x lb) () (by simp(disch:=omega) only[go_sem]) rfl ?_ ?_
  ·rintro _ H2 J2 hn2 hlt2
   rw[← hn2] at hn
   simp(disch:=omega) only[l2,hlt2,go_sem]
   exact goJ (hJ () _ (by simpa[z8] using hn)) (by simp(disch:=omega) only[wrap64,go_sem])
  ·rintro done2 y rest2 _ H2 J2 hd2 hlt2 _ hn2 hJ2
   have hg2:=Z5 hd2
   simp only[z8] at hn2
   by_cases hxy:y=x
   ·rw[if_pos hxy] at hn2
    rw[← hn2] at hn
    have hxy':(x=y)=True:=eq_true hxy.symm
    simp(disch:=omega) only[l1,hlt,l2,hlt2,hg,hg2,hxy',go_sem]
    exact hQ _ _ _ [.bool true] nofun rfl (by rw[e0,← hn];rfl)
   ·rw[if_neg hxy] at hn2
    have hxy':¬ x=y:=fun h=>hxy h.symm
    simp(disch:=omega) only[l1,hlt,l2,hlt2,hg,hg2,hxy',go_sem]
    exact goJ (hJ2 () _ hn2) (by simp(disch:=omega) only[wrap64,go_sem])
def ZV (s:SchD) (o:OpD):List UInt8:=if o.k=1 then s.m else s.q
theorem zoP (s:SchD) (o:OpD):zi Tryz.prog 66 [.agg (zq s),.agg (cO o)] (.str (ZV s o)):=by
 obtain⟨k,nm,vs,ds,ss⟩:=o
 obtain⟨sd,sq,sm⟩:=s
 simp only[zq,zad]
 refine zi.go ir66 ck66 (Al4 _) fun KP Q hQ=>?_
 by_cases hk:k=1
 ·subst hk
  simp(disch:=omega) only[ir66,go_sem]
  exact hQ _ _ _ _ nofun rfl (by simp[zd,ze,AV.strip,AV.strip1,ZV])
 ·simp(disch:=omega) only[ir66,hk,go_sem]
  exact hQ _ _ _ _ nofun rfl (by simp[zd,ze,AV.strip,AV.strip1,ZV,hk])
def zO (s:SchD) (typ:List UInt8):SelD→List UInt8
 | .mk k _ nm _ _ on _=>if k=0 then ((yw s typ nm).getD zF).t.nm else if k=2 then (if on=[] then typ else on) else []
theorem zgd (s:SchD) (typ:List UInt8) (x:SelD) (hb:zJ s≤Lim):zi Tryz.prog 89 [.agg (zq s),.str typ,.agg (cS x)] (.str (zO s typ x)):=by
 obtain⟨k,al,nm,args,dirs,on,xs⟩:=x
 have h1:=zfs s typ nm hb
 simp only[zO]
 generalize (yw s typ nm).isSome=fs at *
 generalize (yw s typ nm).getD zF=f at *
 obtain⟨fn,fp,⟨f1,f2,f3⟩,fd⟩:=f
 obtain⟨sd,sq,sm⟩:=s
 simp only[zq,zaB,y8] at h1 ⊢
 refine zi.go ir89 ck89 (Al4 _) fun KP Q hQ=>?_
 by_cases h0:k=0
 ·subst h0
  simp(disch:=omega) only[ir89,go_sem]
  refine za h1 ?_
  simp(disch:=omega) only[go_sem]
  refine zb fun b7 hb7=>?_
  simp(disch:=omega) only[go_sem]
  exact hQ _ _ _ _ nofun rfl (by simp[zd,ze,AV.strip,AV.strip1])
 by_cases h2:k=2
 ·subst h2
  by_cases ho:on=[]
  ·have ho':=eq_true ho
   simp(disch:=omega) only[ir89,ho',go_sem]
   exact hQ _ _ _ _ nofun rfl (by simp[zd,ze,AV.strip,AV.strip1,ho])
  ·simp(disch:=omega) only[ir89,ho,go_sem]
   exact hQ _ _ _ _ nofun rfl (by simp[zd,ze,AV.strip,AV.strip1,ho])
 ·simp(disch:=omega) only[ir89,h0,h2,go_sem]
  exact hQ _ _ _ _ nofun rfl (by simp[zd,ze,AV.strip,AV.strip1,h0,h2])
def ziH (s:SchD) (typ:List UInt8):SelD→Bool
 | .mk k _ nm _ _ _ _=>!decide (k=0)||(yw s typ nm).isSome
theorem ztB (s:SchD) (typ:List UInt8) (x:SelD) (hb:zJ s≤Lim):zi Tryz.prog 49 [.agg (zq s),.str typ,.agg (cS x)] (.bool (ziH s typ x)):=by
 obtain⟨k,al,nm,args,dirs,on,xs⟩:=x
 have h1:=zfs s typ nm hb
 simp only[ziH]
 generalize (yw s typ nm).isSome=fs at *
 generalize (yw s typ nm).getD zF=f at *
 obtain⟨fn,fp,⟨f1,f2,f3⟩,fd⟩:=f
 obtain⟨sd,sq,sm⟩:=s
 simp only[zq,zaB,y8] at h1 ⊢
 refine zi.go ir49 ck49 (Al4 _) fun KP Q hQ=>?_
 by_cases h0:k=0
 ·subst h0
  simp(disch:=omega) only[ir49,go_sem]
  refine za h1 ?_
  simp(disch:=omega) only[go_sem]
  refine zb fun b7 hb7=>?_
  simp(disch:=omega) only[go_sem]
  exact hQ _ _ _ _ nofun rfl (by simp[zd,ze,AV.strip,AV.strip1])
 ·simp(disch:=omega) only[ir49,h0,go_sem]
  refine za h1 ?_
  simp(disch:=omega) only[go_sem]
  refine zb fun b7 hb7=>?_
  simp(disch:=omega) only[h0,go_sem]
  exact hQ _ _ _ _ nofun rfl (by simp[zd,ze,AV.strip,AV.strip1,h0])
mutual
def zou (s:SchD) (p:List UInt8→SelD→Bool) (typ:List UInt8):SelD→Bool
 | .mk k al nm args dirs on sels=>p typ (.mk k al nm args dirs on sels)&&YH s p (zO s typ (.mk k al nm args dirs on [])) sels
def YH (s:SchD) (p:List UInt8→SelD→Bool) (typ:List UInt8):List SelD→Bool
 | []=>true
 | x::r=>zou s p typ x&&YH s p typ r
end
theorem ziz (s:SchD) (typ:List UInt8) (k:Int) (al nm:List UInt8) (args:List Mem) (dirs:List DirD) (on:List UInt8) (xs ys:List SelD):zO s typ (.mk k al nm args dirs on xs)=zO s typ (.mk k al nm args dirs on ys):=rfl
def zpY (f:FuncId) (caps:List AV) (p:List UInt8→SelD→Bool) (B:Nat):Prop:=Program.callable Tryz.prog f=true∧∀ typ x,bS x≤B→zi Tryz.prog f (.str typ::.agg (cS x)::caps) (.bool (p typ x))
def zqb (s:SchD) (f:FuncId) (caps:List AV) (p:List UInt8→SelD→Bool) (B:Nat) (sels:List SelD):Prop:=∀ typ,bSs sels≤B→zi Tryz.prog 87 [.agg (zq s),.str typ,.sl .no 7 (cSs sels),.clo f [] caps] (.bool (YH s p typ sels))
theorem zm0 (s:SchD) (f:FuncId) (caps:List AV) (p:List UInt8→SelD→Bool) (B:Nat) (hs:zJ s≤Lim) (hB:B≤Lim) (hf:zpY f caps p B) (sels:List SelD) (ih:∀ k al nm args dirs on xs,SelD.mk k al nm args dirs on xs∈sels→zqb s f caps p B xs):zqb s f caps p B sels:=by
 intro typ hb
 have hsl:=Yu sels
 have hB':B≤1099511627776:=by simpa only[Lim] using hB
 have h1:=Ya sels
 have hW:=fun x=>zgd s typ x hs
 have hih:=fun k al nm args dirs on xs (h:SelD.mk k al nm args dirs on xs∈sels) (hb:bSs xs≤B)=>ih k al nm args dirs on xs h (zO s typ (.mk k al nm args dirs on xs)) hb
 obtain⟨sd,sq,sm⟩:=s
 generalize hS:(⟨sd,sq,sm⟩:SchD)=s at *
 have hcs:zq s=[.sl .no 6 (cEs sd),.str sq,.str sm]:=by rw[← hS];rfl
 simp only[hcs] at hW hih ⊢
 refine zi.go ir87 ck87 (Al4 _) fun KP Q hQ=>?_
 simp(disch:=omega) only[ir87,h1,go_sem]
 refine zf sels 14 (fun _:Unit=>[(9,.bool true)]) (fun done rest _ H=>YH s p typ rest=YH s p typ sels) () (by simp(disch:=omega) only[go_sem]) rfl ?_ ?_
 ·rintro _ H J hn hlt
  simp(disch:=omega) only[h1,hlt,go_sem]
  exact hQ _ _ _ [.bool true] nofun rfl (by rw[← hn];rfl)
 ·rintro done x rest _ H J hd hlt _ hn hJ
  have hg:=YZ hd
  have hmem:x∈sels:=by rw[hd];simp
  have hbx:=zm1 hmem
  have hfx:=hf.2 typ x (by omega)
  have hWx:=hW x
  rw[YH] at hn
  obtain⟨k,al,nm,args,dirs,on,xs⟩:=x
  have hx2:=hih _ _ _ _ _ _ _ hmem (by simp only[bS] at hbx;omega)
  rw[zou,ziz s typ k al nm args dirs on [] xs] at hn
  generalize zO s typ (.mk k al nm args dirs on xs)=t2 at *
  generalize p typ (.mk k al nm args dirs on xs)=x1 at *
  generalize YH s p t2 xs=x2 at *
  rw[y8] at hg hfx hWx
  simp(disch:=omega) only[h1,hlt,hg,go_sem]
  refine zb fun b11 hb11=>?_
  simp(disch:=omega) only[go_sem]
  refine⟨hf.1,za hfx ?_⟩
  cases x1 with
  | false =>
   simp(disch:=omega) only[go_sem]
   exact hQ _ _ _ [.bool false] nofun rfl (by rw[← hn];rfl)
  | true =>
   simp(disch:=omega) only[go_sem]
   refine za hWx ?_
   simp(disch:=omega) only[go_sem]
   refine za hx2 ?_
   cases x2 with
   | false =>
    simp(disch:=omega) only[go_sem]
    exact hQ _ _ _ [.bool false] nofun rfl (by rw[← hn];rfl)
   | true =>
    simp(disch:=omega) only[go_sem]
    exact goJ (hJ () _ (by simpa using hn)) (by simp(disch:=omega) only[wrap64,go_sem])
theorem zuv (s:SchD) (f:FuncId) (caps:List AV) (p:List UInt8→SelD→Bool) (B:Nat) (hs:zJ s≤Lim) (hB:B≤Lim) (hf:zpY f caps p B) (sels:List SelD):zqb s f caps p B sels:=by
 have h:∀ x:SelD,∀ k al nm args dirs on xs,x=.mk k al nm args dirs on xs→zqb s f caps p B xs:=SelD.ind fun k al nm args dirs on sels ih=>by
  intro k' al' nm' args' dirs' on' xs e
  cases e
  exact zm0 s f caps p B hs hB hf sels fun k al nm args dirs on xs hm=>ih _ hm _ _ _ _ _ _ _ rfl
 exact zm0 s f caps p B hs hB hf sels fun k al nm args dirs on xs _=>h _ k al nm args dirs on xs rfl
def ZJ (s:SchD) (d:DocD) (p:List UInt8→SelD→Bool):Bool:=(d.ops.all fun o=>YH s p (ZV s o) o.sels)&&d.frags.all fun f=>YH s p f.on f.sels
theorem zpa (s:SchD) (d:DocD) (f:FuncId) (caps:List AV) (p:List UInt8→SelD→Bool) (hs:zJ s≤Lim) (hb:zv d≤Lim) (hf:zpY f caps p (zv d)) :
  zi Tryz.prog 47 [.agg (zq s),.agg (zT d),.clo f [] caps] (.bool (ZJ s d p)):=by
 have hA:=fun sels=>zuv s f caps p (zv d) hs hb hf sels
 have hR:=fun o=>zoP s o
 have hb':bOs d.ops+bFs d.frags≤1099511627776:=by simpa only[Lim,zv] using hb
 have hol:=Zi d.ops
 have hfl:=yD d.frags
 have l1:=Zx d.ops
 have l2:=ZL d.frags
 have hop:=fun(o:OpD) (ho:o∈d.ops)=>(by
  obtain⟨a,b,hd⟩:=List.append_of_mem ho
  have:=Yv a o b
  rw[← hd] at this
  simp only[bO] at this;simp only[zv];omega:bSs o.sels≤zv d)
 have hfr:=fun(f:FragD) (h:f∈d.frags)=>(by have:=zbM h;have:=zap f;simp only[zv];omega:bSs f.sels≤zv d)
 have e0:ZJ s d p=((d.ops.all fun o=>YH s p (ZV s o) o.sels)&&d.frags.all fun f=>YH s p f.on f.sels):=rfl
 generalize ZJ s d p=F at *
 obtain⟨ops,frags⟩:=d
 simp only at l1 l2 hol hfl hb' hop hfr e0
 obtain⟨sd,sq,sm⟩:=s
 generalize hS:(⟨sd,sq,sm⟩:SchD)=s at *
 have hcs:zq s=[.sl .no 6 (cEs sd),.str sq,.str sm]:=by rw[← hS];rfl
 unfold zqb at hA
 simp only[hcs,zT] at hA hR ⊢
 refine zi.go ir47 ck47 (Al4 _) fun KP Q hQ=>?_
 have fin:∀ r,F=r→∀ ρ H,zL ρ H ir47.res=some [.bool r]→Q .ret ρ H:=fun r e ρ H h1=>hQ _ ρ H _ nofun h1 (by rw[e];rfl)
 simp(disch:=omega) only[ir47,l1,go_sem]
 refine zf ops 14 (fun _:Unit=>[]) (fun done rest _ H=>(rest.all fun o=>YH s p (ZV s o) o.sels)=ops.all fun o=>YH s p (ZV s o) o.sels) () (by simp(disch:=omega) only[go_sem]) rfl ?_ ?_
 ·rintro _ H J hn hlt
  simp(disch:=omega) only[l1,hlt,l2,go_sem]
  refine zf frags 31 (fun _:Unit=>[]) (fun done rest _ H=>(rest.all fun f=>YH s p f.on f.sels)=frags.all fun f=>YH s p f.on f.sels) () (by simp(disch:=omega) only[go_sem]) rfl ?_ ?_
  ·rintro _ H J hn2 hlt
   simp(disch:=omega) only[l2,hlt,go_sem]
   exact fin true (by rw[e0,← hn,← hn2];rfl) _ _ rfl
  ·rintro done x rest _ H J hd hlt _ hn2 hJ
   have hg:=Yw hd
   have hx:=hA x.sels x.on (hfr x (by rw[hd];simp))
   rw[List.all_cons] at hn2
   obtain⟨nm,on,ds,ss⟩:=x
   simp only at hx hn2
   rw[Yh] at hg
   simp(disch:=omega) only[l2,hlt,hg,go_sem]
   refine zb fun b10 hb10=>?_
   simp(disch:=omega) only[go_sem]
   refine za hx ?_
   cases hv:YH s p on ss with
   | false =>
    rw[hv] at hn2
    simp(disch:=omega) only[go_sem]
    exact fin false (by rw[e0,← hn2];simp) _ _ rfl
   | true =>
    rw[hv] at hn2
    simp(disch:=omega) only[go_sem]
    exact goJ (hJ () _ (by simpa using hn2)) (by simp(disch:=omega) only[wrap64,go_sem])
 ·rintro done x rest _ H J hd hlt _ hn hJ
  have hg:=Yf hd
  have hx:=hA x.sels (ZV s x) (hop x (by rw[hd];simp))
  have hr:=hR x
  rw[List.all_cons] at hn
  generalize ZV s x=rt at *
  obtain⟨k,nm,vs,ds,ss⟩:=x
  simp only at hx hn
  rw[zad] at hg hr
  simp(disch:=omega) only[l1,hlt,hg,go_sem]
  refine zb fun b8 hb8=>?_
  simp(disch:=omega) only[go_sem]
  refine za hr ?_
  simp(disch:=omega) only[go_sem]
  refine za hx ?_
  cases hv:YH s p rt ss with
  | false =>
   rw[hv] at hn
   simp(disch:=omega) only[go_sem]
   exact fin false (by rw[e0,← hn];simp) _ _ rfl
  | true =>
   rw[hv] at hn
   simp(disch:=omega) only[go_sem]
   exact goJ (hJ () _ (by simpa using hn)) (by simp(disch:=omega) only[wrap64,go_sem])
def zlX (s:SchD) (typ:List UInt8):SelD→Bool
 | .mk k al nm args dirs on sels=>!decide (k=0)||((!zaD s (zO s typ (.mk k al nm args dirs on sels))&&!ZZ s (zO s typ (.mk k al nm args dirs on sels))) ||
  (ZZ s (zO s typ (.mk k al nm args dirs on sels))==decide (0<sels.length)))
theorem zt3 (s:SchD) (typ:List UInt8) (x:SelD) (hb:zJ s≤Lim):zi Tryz.prog 50 [.agg (zq s),.str typ,.agg (cS x)] (.bool (zlX s typ x)):=by
 have hw:=zgd s typ x hb
 have hl:=yc hb
 have h1:=zjy s (zO s typ x) hl
 have h2:=zgz s (zO s typ x) hl
 obtain⟨k,al,nm,args,dirs,on,xs⟩:=x
 simp only[zlX]
 generalize zO s typ (.mk k al nm args dirs on xs)=t at *
 generalize zaD s t=x1 at *
 generalize ZZ s t=x2 at *
 have hx:=Ya xs
 obtain⟨sd,sq,sm⟩:=s
 simp only[zq,y8] at hw h1 h2 ⊢
 refine zi.go ir50 ck50 (Al4 _) fun KP Q hQ=>?_
 by_cases h0:k=0
 case neg =>
  simp(disch:=omega) only[ir50,h0,go_sem]
  exact hQ _ _ _ _ nofun rfl (by simp[zd,ze,AV.strip,AV.strip1,h0])
 subst h0
 simp(disch:=omega) only[ir50,go_sem]
 refine za hw ?_
 simp(disch:=omega) only[go_sem]
 refine za h1 ?_
 cases x1 with
 | true =>
  simp(disch:=omega) only[hx,go_sem]
  refine za h2 ?_
  simp(disch:=omega) only[hx,go_sem]
  exact hQ _ _ _ _ nofun rfl (by cases x2<;>by_cases h:(0:Int)<xs.length<;>simp_all [zd,ze,AV.strip,AV.strip1])
 | false =>
  simp(disch:=omega) only[hx,go_sem]
  refine za h2 ?_
  cases x2 with
  | false =>
   simp(disch:=omega) only[hx,go_sem]
   exact hQ _ _ _ _ nofun rfl (by simp[zd,ze,AV.strip,AV.strip1])
  | true =>
   simp(disch:=omega) only[hx,go_sem]
   refine za h2 ?_
   simp(disch:=omega) only[hx,go_sem]
   exact hQ _ _ _ _ nofun rfl (by by_cases h:(0:Int)<xs.length<;>simp_all [zd,ze,AV.strip,AV.strip1])
def zbA (s:SchD) (d:DocD) (typ:List UInt8):SelD→Bool
 | .mk k _ nm _ _ on _=>if k=2 then decide (on=[])||zoI s typ on else if k=1 then zoI s typ ((zC d nm).getD zFr).on else true
theorem zug (s:SchD) (d:DocD) (typ:List UInt8) (x:SelD) (hb:zJ s+1≤Lim) (hd:d.frags.length≤Lim):zi Tryz.prog 51 [.agg (zq s),.agg (zT d),.str typ,.agg (cS x)] (.bool (zbA s d typ x)):=by
 have hm:=fun n=>zvH s typ n hb
 obtain⟨k,al,nm,args,dirs,on,xs⟩:=x
 have hf:=zkt d nm hd
 simp only[zbA]
 generalize (zC d nm).isSome=fs at *
 generalize (zC d nm).getD zFr=f at *
 obtain⟨fn,fo,fd,fss⟩:=f
 obtain⟨ops,frags⟩:=d
 obtain⟨sd,sq,sm⟩:=s
 simp only[zq,zT,y8,Yh] at hm hf ⊢
 refine zi.go ir51 ck51 (Al4 _) fun KP Q hQ=>?_
 by_cases h2:k=2
 ·subst h2
  by_cases ho:on=[]
  ·have ho':=eq_true ho
   simp(disch:=omega) only[ir51,ho',go_sem]
   exact hQ _ _ _ _ nofun rfl (by simp[zd,ze,AV.strip,AV.strip1,ho])
  ·simp(disch:=omega) only[ir51,ho,go_sem]
   refine za (hm on) ?_
   simp(disch:=omega) only[go_sem]
   exact hQ _ _ _ _ nofun rfl (by simp[zd,ze,AV.strip,AV.strip1,ho])
 by_cases h1:k=1
 ·subst h1
  simp(disch:=omega) only[ir51,go_sem]
  refine za hf ?_
  simp(disch:=omega) only[go_sem]
  refine zb fun b10 hb10=>?_
  simp(disch:=omega) only[go_sem]
  refine za (hm fo) ?_
  simp(disch:=omega) only[go_sem]
  exact hQ _ _ _ _ nofun rfl (by simp[zd,ze,AV.strip,AV.strip1])
 ·simp(disch:=omega) only[ir51,h1,h2,go_sem]
  exact hQ _ _ _ _ nofun rfl (by simp[zd,ze,AV.strip,AV.strip1,h1,h2])
def zhy (s:SchD) (d:DocD) (n:Int) (typ:List UInt8) (x:SelD):Bool:=if n=9 then ziH s typ x else if n=10 then zlX s typ x else if n=11 then zbA s d typ x else false
theorem znI (s:SchD) (d:DocD) (n:Int) (hb:zJ s+1≤Lim) (hd:d.frags.length≤Lim) (typ:List UInt8) (x:SelD):zi Tryz.prog 48 [.str typ,.agg (cS x),.view [.int .i64 n],.view (zq s),.view (zT d)] (.bool (zhy s d n typ x)):=by
 have h1:=ztB s typ x (by omega)
 have h2:=zt3 s typ x (by omega)
 have h3:=zug s d typ x hb hd
 unfold zhy
 generalize ziH s typ x=x1 at *
 generalize zlX s typ x=x2 at *
 generalize zbA s d typ x=x3 at *
 obtain⟨k,al,nm,args,dirs,on,xs⟩:=x
 obtain⟨ops,frags⟩:=d
 obtain⟨sd,sq,sm⟩:=s
 simp only[zq,zT,y8] at h1 h2 h3 ⊢
 refine zi.go ir48 ck48 (Al4 _) fun KP Q hQ=>?_
 by_cases n1:n=9
 ·subst n1
  simp(disch:=omega) only[ir48,go_sem]
  refine za h1 ?_
  simp(disch:=omega) only[go_sem]
  exact hQ _ _ _ _ nofun rfl (by simp[zd,ze,AV.strip,AV.strip1])
 by_cases n2:n=10
 ·subst n2
  simp(disch:=omega) only[ir48,go_sem]
  refine za h2 ?_
  simp(disch:=omega) only[go_sem]
  exact hQ _ _ _ _ nofun rfl (by simp[zd,ze,AV.strip,AV.strip1])
 by_cases n3:n=11
 ·subst n3
  simp(disch:=omega) only[ir48,go_sem]
  refine za h3 ?_
  simp(disch:=omega) only[go_sem]
  exact hQ _ _ _ _ nofun rfl (by simp[zd,ze,AV.strip,AV.strip1])
 ·simp(disch:=omega) only[ir48,n1,n2,n3,go_sem]
  exact hQ _ _ _ _ nofun rfl (by simp[zd,ze,AV.strip,AV.strip1,n1,n2,n3])
def zau (s:SchD) (d:DocD) (n:Int):Bool:=ZJ s d (zhy s d n)&&(decide (9≤n)&&decide (n≤11))
theorem zoZ (s:SchD) (d:DocD) (n:Int) (hb:zJ s+1≤Lim) (hd:zv d≤Lim):zi Tryz.prog 18 [.agg (zq s),.agg (zT d),.int .i64 n] (.bool (zau s d n)):=by
 have hfl:=yD d.frags
 have hbd:bOs d.ops+bFs d.frags≤Lim:=hd
 have h1:=zpa s d 48 [.view [.int .i64 n],.view (zq s),.view (zT d)] (zhy s d n) (by omega) hd ⟨by kernel_rfl,fun typ x _=>znI s d n hb (by omega) typ x⟩
 unfold zau
 generalize ZJ s d (zhy s d n)=x1 at *
 obtain⟨ops,frags⟩:=d
 obtain⟨sd,sq,sm⟩:=s
 simp only[zq,zT] at h1 ⊢
 refine zi.go ir18 ck18 (Al4 _) fun KP Q hQ=>?_
 simp(disch:=omega) only[ir18,go_sem]
 refine za h1 ?_
 cases x1 with
 | false =>
  simp(disch:=omega) only[go_sem]
  exact hQ _ _ _ _ nofun rfl (by simp[zd,ze,AV.strip,AV.strip1])
 | true =>
  by_cases n1:9≤n
  ·simp(disch:=omega) only[n1,go_sem]
   exact hQ _ _ _ _ nofun rfl (by simp[zd,ze,AV.strip,AV.strip1,n1])
  ·simp(disch:=omega) only[n1,go_sem]
   exact hQ _ _ _ _ nofun rfl (by simp[zd,ze,AV.strip,AV.strip1,n1])
theorem zhq (nm:List UInt8) (args:List Mem):cD ⟨nm,args⟩=[.str nm,.sl .no 6 (cMs args)]:=rfl
def zbz (n:List UInt8):Option VarD:=if n=[115,107,105,112]∨n=[105,110,99,108,117,100,101] then some ⟨[105,102],⟨[66,111,111,108,101,97,110],0,1⟩,false,zV⟩ else none
theorem zhB (n:List UInt8):zi Tryz.prog 93 [.str n] (.tup [.agg (cW ((zbz n).getD zW)),.bool (zbz n).isSome]):=by
 refine zi.go ir93 ck93 (Al4 _) fun KP Q hQ=>?_
 have fin:∀ o,zbz n=o→∀ ρ H vs,zL ρ H ir93.res=some vs→(zd vs).strip=.tup [.agg (cW (o.getD zW)),.bool o.isSome]→Q .ret ρ H:=fun o e ρ H vs h1 h2=>hQ _ ρ H vs nofun h1 (by rw[h2,e])
 by_cases h1:n=[115,107,105,112]
 ·have e:zbz n=some ⟨[105,102],⟨[66,111,111,108,101,97,110],0,1⟩,false,zV⟩:=if_pos (.inl h1)
  have h1':=eq_true h1
  simp(disch:=omega) only[ir93,go_sem]
  refine zb fun b2 hb2=>?_
  simp(disch:=omega) only[h1',go_sem]
  exact fin _ e _ _ [.agg [.str [105,102],.str [66,111,111,108,101,97,110],.int .i64 0,.int .i64 1,.bool false,.int .i64 0,.int .i64 0,.str [],.sl .nil 5 [],.sl .nil 6 []],.bool true] (by simp(disch:=omega) only[ir93,zL,Zt,go_sem]) rfl
 by_cases h2:n=[105,110,99,108,117,100,101]
 ·have e:zbz n=some ⟨[105,102],⟨[66,111,111,108,101,97,110],0,1⟩,false,zV⟩:=if_pos (.inr h2)
  have h2':=eq_true h2
  simp(disch:=omega) only[ir93,go_sem]
  refine zb fun b2 hb2=>?_
  simp(disch:=omega) only[h1,h2',go_sem]
  exact fin _ e _ _ [.agg [.str [105,102],.str [66,111,111,108,101,97,110],.int .i64 0,.int .i64 1,.bool false,.int .i64 0,.int .i64 0,.str [],.sl .nil 5 [],.sl .nil 6 []],.bool true] (by simp(disch:=omega) only[ir93,zL,Zt,go_sem]) rfl
 have e:zbz n=none:=if_neg (fun h=>h.elim h1 h2)
 simp(disch:=omega) only[ir93,go_sem]
 refine zb fun b2 hb2=>?_
 simp(disch:=omega) only[h1,h2,go_sem]
 exact fin _ e _ _ [.agg [.str [],.str [],.int .i64 0,.int .i64 0,.bool false,.int .i64 0,.int .i64 0,.str [],.sl .nil 5 [],.sl .nil 6 []],.bool false] (by simp(disch:=omega) only[ir93,zL,Zt,go_sem]) rfl
def Z8 (l:List DirD):Bool:=l.all fun d=>(zbz d.nm).isSome
theorem znZ (l:List DirD) (hl:l.length≤Lim):zi Tryz.prog 53 [.sl .no 2 (cDs l)] (.bool (Z8 l)):=by
 refine zi.go ir53 ck53 (Al4 _) fun KP Q hQ=>?_
 have h1:=Yd l
 simp only[Lim] at hl
 simp(disch:=omega) only[ir53,h1,go_sem]
 refine zf l 9 (fun _:Unit=>[]) (fun done rest _ H=>Z8 rest=Z8 l) () (by simp(disch:=omega) only[go_sem]) rfl ?_ ?_
 ·rintro _ H J hn hlt
  simp(disch:=omega) only[h1,hlt,go_sem]
  exact hQ _ _ _ [.bool true] nofun rfl (by rw[← hn];rfl)
 ·rintro done x rest _ H J hd hlt _ hn hJ
  have hg:=YO hd
  have hstep:Z8 (x::rest)=((zbz x.nm).isSome&&Z8 rest):=by simp[Z8]
  rw[hstep] at hn
  obtain⟨nm,args⟩:=x
  have hP:=zhB nm
  simp only at hn
  rw[zhq] at hg
  generalize (zbz nm).getD zW=w at *
  obtain⟨wn,⟨w1,w2,w3⟩,wh,⟨wk,wq,ws,wl,wm⟩⟩:=w
  rw[z7] at hP
  simp(disch:=omega) only[h1,hlt,hg,go_sem]
  refine zb fun b4 hb4=>?_
  simp(disch:=omega) only[go_sem]
  refine za hP ?_
  simp(disch:=omega) only[go_sem]
  refine zb fun b5 hb5=>?_
  have hne:=yS hb5
  cases hv:(zbz nm).isSome with
  | false =>
   rw[hv] at hn
   simp(disch:=omega) only[hne,Ne.symm hne,go_sem]
   exact hQ _ _ _ [.bool false] nofun rfl (by rw[← hn];rfl)
  | true =>
   rw[hv] at hn
   simp(disch:=omega) only[hne,Ne.symm hne,go_sem]
   exact goJ (hJ () _ (by simpa using hn)) (by simp(disch:=omega) only[wrap64,go_sem])
theorem znH (l:List DirD):zi Tryz.prog 55 [.sl .no 2 (cDs l)] (.bool (decide (l.length=0))):=by
 have h1:=Yd l
 refine zi.go ir55 ck55 (Al4 _) fun KP Q hQ=>?_
 simp(disch:=omega) only[ir55,h1,go_sem]
 exact hQ _ _ _ _ nofun rfl (by simp[zd,ze,AV.strip,AV.strip1])
def cLD (l:List (List DirD)):List (List AV):=l.map fun x=>[.sl .no 2 (cDs x)]
theorem zge (l:List (List DirD)):(cLD l).length=l.length:=by simp[cLD]
theorem zrP {l a:List (List DirD)} {x:List DirD} {b:List (List DirD)} (h:l=a++x::b):(cLD l).getD a.length []=[.sl .no 2 (cDs x)]:=yR h
def zb8 (d:DocD):List (List DirD):=d.ops.map (·.dirs)++d.frags.map (·.dirs)
theorem zvN (d:DocD) (H:zc) (hb:zv d≤Lim):zac Tryz.prog 92 [.agg (zT d)] H .nil 1 (cLD (zb8 d)):=by
 obtain⟨ops,frags⟩:=d
 have hb':bOs ops+bFs frags≤1099511627776:=by simpa only[Lim,zv] using hb
 have l1:=Zx ops
 have l2:=ZL frags
 have m1:=Zi ops
 have m2:=yD frags
 rw[show zT ⟨ops,frags⟩=[.sl .no 5 (cOs ops),.sl .no 4 (cFs frags)] from rfl]
 refine zk.goO ir92 ck92 (Al4 _) fun KP Q hQ hP=>?_
 simp(disch:=omega) only[ir92,l1,go_sem]
 refine zf ops 11 (fun x:Own×List (List DirD)=>[(3,.sl x.1 1 (cLD x.2))]) (fun done rest x H'=>x.2=done.map (·.dirs)∧OwnS H .nil H' x.1 done.length 1) (.nil,[]) (by simp(disch:=omega) only[cLD,List.map,go_sem]) ⟨rfl,OwnS.refl (o:=.nil) (n:=0) rfl⟩ ?_ ?_
 ·rintro⟨o1,a⟩ H1 J ⟨hn,hs⟩ hlt
  simp only at hn
  subst hn
  replace hs:OwnS H .nil H1 o1 ops.length 1:=hs
  simp(disch:=omega) only[l1,hlt,l2,go_sem]
  refine zf frags 24 (fun x:Own×List (List DirD)=>[(3,.sl x.1 1 (cLD x.2))]) (fun done rest x H'=>x.2=ops.map (·.dirs)++done.map (·.dirs)∧OwnS H .nil H' x.1 (ops.length+done.length) 1) (o1,ops.map (·.dirs)) (by simp(disch:=omega) only[go_sem]) ⟨by simp,hs⟩ ?_ ?_
  ·rintro⟨o2,a⟩ H2 J ⟨hn,hs⟩ hlt
   simp only at hn
   subst hn
   simp(disch:=omega) only[l2,hlt,go_sem]
   refine hQ _ _ H2 H2 [.sl o2 1 (cLD (zb8 ⟨ops,frags⟩))] nofun (by simp(disch:=omega) only[ir92,zL,Zt,zb8,go_sem]) (Low.refl _) ⟨o2,rfl,by rw[zge];simpa[zb8] using hs⟩
  ·rintro done x rest ⟨o2,a⟩ H2 J hd hlt _ ⟨hn,hs⟩ hJ
   have hg:=Yw hd
   simp only at hn
   subst hn
   have h3:=zge (ops.map (·.dirs)++done.map (·.dirs))
   simp only[Al5,List.length_map] at h3
   replace hs:OwnS H .nil H2 o2 (ops.length+done.length) 1:=hs
   obtain⟨nm,on,ds,ss⟩:=x
   rw[Yh] at hg
   simp(disch:=omega) only[l2,hlt,hg,go_sem]
   refine zb fun b7 hb7=>?_
   have hsu:=hs.upd (x:=.cells [.str nm,.str on,.sl .no 2 (cDs ds),.sl .no 7 (cSs ss)]) hb7
   simp(disch:=omega) only[go_sem]
   refine zt (by rw[h3];exact hsu.own) ?_ ?_ fun o' H3 hs2=>?_
   ·simp only[h3,Al2,Al3];omega
   ·simp only[h3,Al2,Al3,maxLen];omega
   have e1:cLD (ops.map (·.dirs)++done.map (·.dirs))++[[AV.sl .no 2 (cDs ds)]]=cLD (ops.map (·.dirs)++(done.map (·.dirs)++[ds])):=by simp[cLD]
   have hs3:=hsu.trans hs2
   simp only[h3,Al2,Al3] at hs3
   simp(disch:=omega) only[wrap64,e1,go_sem]
   exact goJ (hJ (o',ops.map (·.dirs)++(done.map (·.dirs)++[ds])) H3 ⟨by simp,by simpa[Nat.add_assoc] using hs3⟩) (by simp(disch:=omega) only[wrap64,go_sem])
 ·rintro done x rest ⟨o1,a⟩ H1 J hd hlt _ ⟨hn,hs⟩ hJ
  have hg:=Yf hd
  simp only at hn
  subst hn
  have h3:=zge (done.map (·.dirs))
  simp only[List.length_map] at h3
  replace hs:OwnS H .nil H1 o1 done.length 1:=hs
  obtain⟨k,nm,vs,ds,ss⟩:=x
  rw[zad] at hg
  simp(disch:=omega) only[l1,hlt,hg,go_sem]
  refine zb fun b5 hb5=>?_
  have hsu:=hs.upd (x:=.cells [.int .i64 k,.str nm,.sl .no 10 (cWs vs),.sl .no 2 (cDs ds),.sl .no 7 (cSs ss)]) hb5
  simp(disch:=omega) only[go_sem]
  refine zt (by rw[h3];exact hsu.own) ?_ ?_ fun o' H3 hs2=>?_
  ·simp only[h3,Al2,Al3];omega
  ·simp only[h3,Al2,Al3,maxLen];omega
  have e1:cLD (done.map (·.dirs))++[[AV.sl .no 2 (cDs ds)]]=cLD (done.map (·.dirs)++[ds]):=by simp[cLD]
  have hs3:=hsu.trans hs2
  simp only[h3,Al2,Al3] at hs3
  simp(disch:=omega) only[wrap64,e1,go_sem]
  exact goJ (hJ (o',done.map (·.dirs)++[ds]) H3 ⟨by simp,by simpa using hs3⟩) (by simp(disch:=omega) only[wrap64,go_sem])
def zoy (f:FuncId) (p:List DirD→Bool):Prop:=Program.callable Tryz.prog f=true∧∀ l:List DirD,l.length≤Lim→zi Tryz.prog f [.sl .no 2 (cDs l)] (.bool (p l))
theorem zoB {d:DocD} {l:List DirD} (h:l∈zb8 d):l.length≤zv d:=by
 simp only[zb8,List.mem_append,List.mem_map] at h
 rcases h with ⟨o,ho,rfl⟩|⟨f,hf,rfl⟩
 ·obtain⟨a,b,hd⟩:=List.append_of_mem ho
  have:=Yv a o b
  have h2:=Y9 o.dirs
  rw[← hd] at this
  simp only[bO] at this;simp only[zv];omega
 ·have:=zbM hf
  have h2:=Y9 f.dirs
  simp only[bF] at this;simp only[zv];omega
theorem zld (d:DocD) (f:FuncId) (p:List DirD→Bool) (hb:zv d≤Lim) (hf:zoy f p):zi Tryz.prog 52 [.agg (zT d),.clo f [] []] (.bool ((zb8 d).all p)):=by
 have h1:=fun H=>zvN d H hb
 have hm:=fun l (h:l∈zb8 d)=>hf.2 l (by have:=zoB h;omega)
 have hol:=Zi d.ops
 have hfl:=yD d.frags
 have hb':bOs d.ops+bFs d.frags≤1099511627776:=by simpa only[Lim,zv] using hb
 have hlen:(zb8 d).length≤1099511627776:=by simp only[zb8,Al5,List.length_map];omega
 generalize zb8 d=L at *
 have l1:=zge L
 obtain⟨ops,frags⟩:=d
 simp only[zT] at h1 ⊢
 refine zi.go ir52 ck52 (Al4 _) fun KP Q hQ=>?_
 simp(disch:=omega) only[ir52,go_sem]
 refine zB (h1 _) fun o2 H2 hs2=>?_
 simp(disch:=omega) only[l1,go_sem]
 refine zf L 10 (fun _:Unit=>[]) (fun done rest _ H=>rest.all p=L.all p) () (by simp(disch:=omega) only[go_sem]) rfl ?_ ?_
 ·rintro _ H J hn hlt
  simp(disch:=omega) only[l1,hlt,go_sem]
  exact hQ _ _ _ [.bool true] nofun rfl (by rw[← hn];rfl)
 ·rintro done x rest _ H J hd hlt _ hn hJ
  have hg:=zrP hd
  have hx:=hm x (by rw[hd];simp)
  rw[List.all_cons] at hn
  simp(disch:=omega) only[l1,hlt,hg,go_sem]
  refine⟨hf.1,za hx ?_⟩
  cases hv:p x with
  | false =>
   rw[hv] at hn
   simp(disch:=omega) only[go_sem]
   exact hQ _ _ _ [.bool false] nofun rfl (by rw[← hn];rfl)
  | true =>
   rw[hv] at hn
   simp(disch:=omega) only[go_sem]
   exact goJ (hJ () _ (by simpa using hn)) (by simp(disch:=omega) only[wrap64,go_sem])
def zcV:SelD→List DirD
 | .mk _ _ _ _ dirs _ _=>dirs
theorem zil (s:SchD) (d:DocD) (f:FuncId) (p:List DirD→Bool) (hs:zJ s≤Lim) (hb:zv d≤Lim) (hf:zoy f p):zi Tryz.prog 54 [.agg (zq s),.agg (zT d),.clo f [] []] (.bool (ZJ s d fun _ x=>p (zcV x))):=by
 have h1:=zpa s d 94 [.view [.clo f [] []]] (fun _ x=>p (zcV x)) hs hb ⟨by kernel_rfl,fun typ x hx=>by
  obtain⟨k,al,nm,args,dirs,on,xs⟩:=x
  have hdl:=Y9 dirs
  have h2:=hf.2 dirs (by simp only[bS] at hx;omega)
  simp only[zcV]
  rw[y8]
  refine zi.go ir94 ck94 (Al4 _) fun KP Q hQ=>?_
  simp(disch:=omega) only[ir94,go_sem]
  refine⟨hf.1,za h2 ?_⟩
  simp(disch:=omega) only[go_sem]
  exact hQ _ _ _ _ nofun rfl (by simp[zd,ze,AV.strip,AV.strip1])⟩
 generalize (ZJ s d fun _ x=>p (zcV x))=x1 at *
 obtain⟨ops,frags⟩:=d
 obtain⟨sd,sq,sm⟩:=s
 simp only[zq,zT] at h1 ⊢
 refine zi.go ir54 ck54 (Al4 _) fun KP Q hQ=>?_
 simp(disch:=omega) only[ir54,go_sem]
 refine za h1 ?_
 simp(disch:=omega) only[go_sem]
 exact hQ _ _ _ _ nofun rfl (by simp[zd,ze,AV.strip,AV.strip1])
def zcN:List DirD→List DirD→Bool
 | _,[]=>true
 | a,x::r=>!(a.any fun y=>decide (y.nm=x.nm))&&zcN (a++[x]) r
def zbp (l:List DirD):Bool:=zcN [] l
theorem zpC (l:List DirD) (hl:l.length≤Lim):zi Tryz.prog 56 [.sl .no 2 (cDs l)] (.bool (zbp l)):=by
 refine zi.go ir56 ck56 (Al4 _) fun KP Q hQ=>?_
 have h1:=Yd l
 have e0:zbp l=zcN [] l:=rfl
 generalize zbp l=F at *
 simp only[Lim] at hl
 simp(disch:=omega) only[ir56,h1,go_sem]
 refine zf l 10 (fun _:Unit=>[(3,.bool true)]) (fun done rest _ H=>zcN done rest=F) () (by simp(disch:=omega) only[go_sem]) e0.symm ?_ ?_
 ·rintro _ H J hn hlt
  simp(disch:=omega) only[h1,hlt,go_sem]
  exact hQ _ _ _ [.bool true] nofun rfl (by rw[← hn];rfl)
 ·rintro done x rest _ H J hd hlt _ hn hJ
  have hg:=YO hd
  have htk:(cDs l).take done.length=cDs done:=by rw[hd];simp[cDs]
  have hle:(done.length:Int)≤l.length:=by omega
  have h2:=Yd done
  simp only[zcN] at hn
  obtain⟨nm,args⟩:=x
  simp only at hn
  rw[zhq] at hg
  simp(disch:=omega) only[h1,hlt,hg,go_sem]
  refine zb fun b5 hb5=>?_
  simp(disch:=omega) only[htk,hle,h1,h2,go_sem]
  refine zf done 19 (fun _:Unit=>[]) (fun done2 rest2 _ H2=>H2 b5=some (.cells [.str nm,.sl .no 6 (cMs args)])∧(rest2.any fun y=>decide (y.nm=nm))=done.any fun y=>decide (y.nm=nm)) () (by simp(disch:=omega) only[go_sem]) ⟨upd_same ..,rfl⟩ ?_ ?_
  ·rintro _ H2 J2 ⟨hH,hn2⟩ hlt2
   rw[← hn2] at hn
   simp(disch:=omega) only[h2,hlt2,go_sem]
   exact goJ (hJ () _ (by simpa using hn)) (by simp(disch:=omega) only[wrap64,go_sem])
  ·rintro done2 y rest2 _ H2 J2 hd2 hlt2 _ ⟨hH,hn2⟩ hJ2
   have hg2:=YO hd2
   rw[List.any_cons] at hn2
   obtain⟨ym,yargs⟩:=y
   simp only at hn2
   rw[zhq] at hg2
   simp(disch:=omega) only[h2,hlt2,hg2,go_sem]
   refine zb fun b7 hb7=>?_
   have hne:b5≠b7:=fun e=>by subst e;rw[hH] at hb7;cases hb7
   by_cases hy:ym=nm
   ·rw[← hn2] at hn
    have hy':=eq_true hy
    simp(disch:=omega) only[hH,hne,Ne.symm hne,hy',go_sem]
    exact hQ _ _ _ [.bool false] nofun rfl (by rw[← hn];simp[hy,zd,AV.strip,AV.strip1])
   ·simp(disch:=omega) only[hH,hne,Ne.symm hne,hy,go_sem]
    exact goJ (hJ2 () _ ⟨by simp(disch:=omega) only[hH,hne,Ne.symm hne,go_sem],by rw[← hn2];simp[hy]⟩) (by simp(disch:=omega) only[wrap64,go_sem])
def zaG (s:SchD) (d:DocD) (n:Int):Bool :=
 if n=12 then (zb8 d).all Z8&&ZJ s d (fun _ x=>Z8 (zcV x)) else if n=13 then (zb8 d).all (fun l=>decide (l.length=0))
 else if n=14 then (zb8 d).all zbp&&ZJ s d (fun _ x=>zbp (zcV x)) else false
theorem zpx (s:SchD) (d:DocD) (n:Int) (hs:zJ s≤Lim) (hb:zv d≤Lim):zi Tryz.prog 19 [.agg (zq s),.agg (zT d),.int .i64 n] (.bool (zaG s d n)):=by
 have f1:zoy 53 Z8:=⟨by kernel_rfl,znZ⟩
 have f2:zoy 55 (fun l=>decide (l.length=0)):=⟨by kernel_rfl,fun l _=>znH l⟩
 have f3:zoy 56 zbp:=⟨by kernel_rfl,zpC⟩
 have h1:=zld d _ _ hb f1
 have h2:=zld d _ _ hb f2
 have h3:=zld d _ _ hb f3
 have h4:=zil s d _ _ hs hb f1
 have h5:=zil s d _ _ hs hb f3
 unfold zaG
 generalize (zb8 d).all Z8=x1 at *
 generalize (zb8 d).all zbp=x3 at *
 generalize ((zb8 d).all fun l=>decide (l.length=0))=x2 at *
 generalize (ZJ s d fun _ x=>Z8 (zcV x))=x4 at *
 generalize (ZJ s d fun _ x=>zbp (zcV x))=x5 at *
 obtain⟨ops,frags⟩:=d
 obtain⟨sd,sq,sm⟩:=s
 simp only[zq,zT] at h1 h2 h3 h4 h5 ⊢
 refine zi.go ir19 ck19 (Al4 _) fun KP Q hQ=>?_
 by_cases n1:n=12
 ·subst n1
  simp(disch:=omega) only[ir19,go_sem]
  refine za h1 ?_
  cases x1 with
  | false =>
   simp(disch:=omega) only[go_sem]
   exact hQ _ _ _ _ nofun rfl (by simp[zd,ze,AV.strip,AV.strip1])
  | true =>
   simp(disch:=omega) only[go_sem]
   refine za h4 ?_
   simp(disch:=omega) only[go_sem]
   exact hQ _ _ _ _ nofun rfl (by simp[zd,ze,AV.strip,AV.strip1])
 by_cases n2:n=13
 ·subst n2
  simp(disch:=omega) only[ir19,go_sem]
  refine za h2 ?_
  simp(disch:=omega) only[go_sem]
  exact hQ _ _ _ _ nofun rfl (by simp[zd,ze,AV.strip,AV.strip1])
 by_cases n3:n=14
 ·subst n3
  simp(disch:=omega) only[ir19,go_sem]
  refine za h3 ?_
  cases x3 with
  | false =>
   simp(disch:=omega) only[go_sem]
   exact hQ _ _ _ _ nofun rfl (by simp[zd,ze,AV.strip,AV.strip1])
  | true =>
   simp(disch:=omega) only[go_sem]
   refine za h5 ?_
   simp(disch:=omega) only[go_sem]
   exact hQ _ _ _ _ nofun rfl (by simp[zd,ze,AV.strip,AV.strip1])
 ·simp(disch:=omega) only[ir19,n1,n2,n3,go_sem]
  exact hQ _ _ _ _ nofun rfl (by simp[zd,ze,AV.strip,AV.strip1,n1,n2,n3])
def mN:Mem→List UInt8
 | .mk n _=>n
def Y0 (ps:List VarD) (l:List Mem):Bool:=l.all fun m=>(ya ps (mN m)).isSome
theorem znc (ps:List VarD) (l:List Mem) (hp:ps.length≤Lim) (hl:l.length≤Lim):zi Tryz.prog 58 [.sl .no 10 (cWs ps),.sl .no 6 (cMs l)] (.bool (Y0 ps l)):=by
 refine zi.go ir58 ck58 (Al4 _) fun KP Q hQ=>?_
 have h1:=yY l
 have hP:=fun n=>zd0 ps n hp
 simp only[Lim] at hl
 simp(disch:=omega) only[ir58,h1,go_sem]
 refine zf l 11 (fun _:Unit=>[]) (fun done rest _ H=>Y0 ps rest=Y0 ps l) () (by simp(disch:=omega) only[go_sem]) rfl ?_ ?_
 ·rintro _ H J hn hlt
  simp(disch:=omega) only[h1,hlt,go_sem]
  exact hQ _ _ _ [.bool true] nofun rfl (by rw[← hn];rfl)
 ·rintro done x rest _ H J hd hlt _ hn hJ
  have hg:=Zr hd
  have hstep:Y0 ps (x::rest)=((ya ps (mN x)).isSome&&Y0 ps rest):=by simp[Y0]
  rw[hstep] at hn
  obtain⟨nm,⟨xk,xq,xs,xl,xm⟩⟩:=x
  simp only[mN] at hn
  have hPn:=hP nm
  rw[zr,yh] at hg
  generalize (ya ps nm).getD zW=w at *
  obtain⟨wn,⟨w1,w2,w3⟩,wh,⟨wk,wq,ws,wl,wm⟩⟩:=w
  rw[z7] at hPn
  simp(disch:=omega) only[h1,hlt,hg,go_sem]
  refine zb fun b6 hb6=>?_
  simp(disch:=omega) only[go_sem]
  refine za hPn ?_
  simp(disch:=omega) only[go_sem]
  refine zb fun b7 hb7=>?_
  have hne:=yS hb7
  cases hv:(ya ps nm).isSome with
  | false =>
   rw[hv] at hn
   simp(disch:=omega) only[hne,Ne.symm hne,go_sem]
   exact hQ _ _ _ [.bool false] nofun rfl (by rw[← hn];rfl)
  | true =>
   rw[hv] at hn
   simp(disch:=omega) only[hne,Ne.symm hne,go_sem]
   exact goJ (hJ () _ (by simpa using hn)) (by simp(disch:=omega) only[wrap64,go_sem])
theorem zlk (ps:List VarD) (l:List Mem) (hp:bWs ps≤Lim) (hl:l.length≤Lim):zi Tryz.prog 60 [.sl .no 10 (cWs ps),.sl .no 6 (cMs l)] (.bool (zdB ps l)):=by
 refine zi.go ir60 ck60 (Al4 _) fun KP Q hQ=>?_
 have h1:=Zq ps
 have hpl:=yP ps
 have hp':=hp
 simp only[Lim] at hp'
 simp(disch:=omega) only[ir60,h1,go_sem]
 refine zf ps 11 (fun _:Unit=>[]) (fun done rest _ H=>zdB rest l=zdB ps l) () (by simp(disch:=omega) only[go_sem]) rfl ?_ ?_
 ·rintro _ H J hn hlt
  simp(disch:=omega) only[h1,hlt,go_sem]
  exact hQ _ _ _ [.bool true] nofun rfl (by rw[← hn];rfl)
 ·rintro done x rest _ H J hd hlt _ hn hJ
  have hg:=Zp hd
  have hR:=ztz x (by have:=@Yt x ps (by rw[hd];simp);simp only[bW] at this;simp only[Lim];omega)
  have hG:=zq0 x.nm l hl
  have hstep:zdB (x::rest) l=(((zb9 x.nm l).2||!zgu x)&&zdB rest l):=by simp[zdB]
  rw[hstep] at hn
  generalize zgu x=rq at *
  obtain⟨nm,⟨t1,t2,t3⟩,hh,⟨xk,xq,xs,xl,xm⟩⟩:=x
  rw[z7] at hg hR
  simp only at hG hn
  generalize zb9 nm l=g at *
  obtain⟨⟨gk,gq,gs,gl,gm⟩,gb⟩:=g
  simp only[yh] at hG
  simp(disch:=omega) only[h1,hlt,hg,go_sem]
  refine zb fun b6 hb6=>?_
  simp(disch:=omega) only[go_sem]
  refine za hG ?_
  simp(disch:=omega) only[go_sem]
  refine zb fun b7 hb7=>?_
  have hne:=yS hb7
  cases gb with
  | true =>
   simp(disch:=omega) only[hne,Ne.symm hne,go_sem]
   exact goJ (hJ () _ (by simpa using hn)) (by simp(disch:=omega) only[wrap64,go_sem])
  | false =>
   simp(disch:=omega) only[hne,Ne.symm hne,go_sem]
   refine za hR ?_
   cases rq with
   | true =>
    simp(disch:=omega) only[go_sem]
    exact hQ _ _ _ [.bool false] nofun rfl (by rw[← hn];rfl)
   | false =>
    simp(disch:=omega) only[go_sem]
    exact goJ (hJ () _ (by simpa using hn)) (by simp(disch:=omega) only[wrap64,go_sem])
def Y7:List Mem→List Mem→Bool
 | _,[]=>true
 | a,x::r=>!(zb9 (mN x) a).2&&Y7 (a++[x]) r
theorem zqd (l:List Mem) (hl:l.length≤Lim):zi Tryz.prog 98 [.sl .no 6 (cMs l)] (.bool (Y7 [] l)):=by
 refine zi.go ir98 ck98 (Al4 _) fun KP Q hQ=>?_
 have h1:=yY l
 simp only[Lim] at hl
 simp(disch:=omega) only[ir98,h1,go_sem]
 refine zf l 9 (fun _:Unit=>[]) (fun done rest _ H=>Y7 done rest=Y7 [] l) () (by simp(disch:=omega) only[go_sem]) rfl ?_ ?_
 ·rintro _ H J hn hlt
  simp(disch:=omega) only[h1,hlt,go_sem]
  exact hQ _ _ _ [.bool true] nofun rfl (by rw[← hn];rfl)
 ·rintro done x rest _ H J hd hlt _ hn hJ
  have hg:=Zr hd
  have htk:(cMs l).take done.length=cMs done:=by rw[zbD,zbD,hd];simp
  have hle:(done.length:Int)≤l.length:=by omega
  obtain⟨nm,⟨xk,xq,xs,xl,xm⟩⟩:=x
  simp only[Y7,mN] at hn
  have hG:=zq0 nm done (by simp only[Lim];omega)
  rw[zr,yh] at hg
  generalize zb9 nm done=g at *
  obtain⟨⟨gk,gq,gs,gl,gm⟩,gb⟩:=g
  simp only[yh] at hG hn
  simp(disch:=omega) only[h1,hlt,hg,go_sem]
  refine zb fun b4 hb4=>?_
  simp(disch:=omega) only[h1,hle,htk,go_sem]
  refine za hG ?_
  simp(disch:=omega) only[go_sem]
  refine zb fun b5 hb5=>?_
  have hne:=yS hb5
  cases gb with
  | true =>
   simp(disch:=omega) only[hne,Ne.symm hne,go_sem]
   exact hQ _ _ _ [.bool false] nofun rfl (by rw[← hn];rfl)
  | false =>
   simp(disch:=omega) only[hne,Ne.symm hne,go_sem]
   exact goJ (hJ () _ (by simpa using hn)) (by simp(disch:=omega) only[wrap64,go_sem])
theorem znB (v:AV) (l:List Mem) (hl:l.length≤Lim):zi Tryz.prog 59 [v,.sl .no 6 (cMs l)] (.bool (Y7 [] l)):=by
 refine zi.go ir59 ck59 (Al4 _) fun KP Q hQ=>?_
 simp(disch:=omega) only[ir59,go_sem]
 refine za (zqd l hl) ?_
 simp(disch:=omega) only[go_sem]
 exact hQ _ _ _ _ nofun rfl (by simp[zd,ze,AV.strip,AV.strip1])
def Zb (d:DirD):List VarD:=match zbz d.nm with
 | none=>[]
 | some p=>[p]
theorem zgK (d:DirD):zi Tryz.prog 96 [.agg (cD d)] (.sl .no 10 (cWs (Zb d))):=by
 obtain⟨nm,args⟩:=d
 have h1:=zhB nm
 have e0:Zb ⟨nm,args⟩=match zbz nm with|none=>[]|some p=>[p]:=rfl
 generalize Zb ⟨nm,args⟩=F at *
 rw[zhq]
 refine zi.go ir96 ck96 (Al4 _) fun KP Q hQ=>?_
 simp(disch:=omega) only[ir96,go_sem]
 cases hp:zbz nm with
 | none =>
  rw[hp] at h1 e0
  refine za h1 ?_
  simp(disch:=omega) only[Option.getD,Option.isSome,zW,zV,z7,go_sem]
  refine zb fun b3 hb3=>?_
  simp(disch:=omega) only[go_sem]
  exact hQ _ _ _ [.sl .nil 10 []] nofun rfl (by rw[e0];rfl)
 | some p =>
  rw[hp] at h1 e0
  obtain⟨wn,⟨w1,w2,w3⟩,wh,⟨wk,wq,ws,wl,wm⟩⟩:=p
  refine za h1 ?_
  simp(disch:=omega) only[Option.getD,Option.isSome,z7,go_sem]
  refine zb fun b3 hb3=>?_
  simp(disch:=omega) only[go_sem]
  exact hQ _ _ _ [.sl .full 10 [cW ⟨wn,⟨w1,w2,w3⟩,wh,.mk wk wq ws wl wm⟩]] nofun rfl (by rw[e0];rfl)
def zvg (f:FuncId) (caps:List AV) (p:List VarD→List Mem→Bool):Prop:=Program.callable Tryz.prog f=true∧∀ ps l,bWs ps≤Lim→bMs l≤Lim→zi Tryz.prog f (.sl .no 10 (cWs ps)::.sl .no 6 (cMs l)::caps) (.bool (p ps l))
def zd4 (s:SchD) (p:List VarD→List Mem→Bool) (typ:List UInt8):SelD→Bool
 | .mk k _ nm args dirs _ _=>(!decide (k=0)||p ((yw s typ nm).getD zF).ps args)&&dirs.all fun d=>p (Zb d) d.args
theorem zfF (s:SchD) (typ nm:List UInt8):bWs ((yw s typ nm).getD zF).ps≤zJ s:=by
 cases h:yw s typ nm with
 | none=>simp[zF,bWs]
 | some f =>
  unfold yw at h
  split at h
  ·cases h;simp[tnF,bWs]
  ·split at h
   ·cases h
   ·rename_i d hd
    split at h
    ·have h1:=zcb (List.mem_of_find?_eq_some h)
     have h2:=(Yr hd).1
     have h3:=@ziJ f
     show bWs f.ps≤_
     omega
    ·cases h
theorem zcm (d:DirD):bWs (Zb d)≤100:=by
 unfold Zb zbz
 split
 ·simp[bWs]
 ·rename_i p hp
  split at hp
  ·cases hp;decide
  ·cases hp
theorem zrJ {d:DirD} {l:List DirD} (h:d∈l):bMs d.args≤bDs l:=by
 obtain⟨a,b,hd⟩:=List.append_of_mem h
 have:=zbn a d b
 rw[← hd] at this
 simp only[bD] at this
 omega
theorem zni (s:SchD) (f:FuncId) (caps:List AV) (p:List VarD→List Mem→Bool) (hs:zJ s≤Lim) (hf:zvg f caps p) (typ:List UInt8) (x:SelD) (hx:bS x≤Lim) :
  zi Tryz.prog 95 [.str typ,.agg (cS x),.view (zq s),.view [.clo f [] caps]] (.bool (zd4 s p typ x)):=by
 obtain⟨k,al,nm,args,dirs,on,xs⟩:=x
 have h1:=zfs s typ nm hs
 have hps:=zfF s typ nm
 simp only[bS] at hx
 have h2:=hf.2 ((yw s typ nm).getD zF).ps args (by omega) (by omega)
 have h3:=fun(d:DirD) (h:d∈dirs)=>hf.2 (Zb d) d.args (by have:=zcm d;simp only[Lim];omega) (by have:=zrJ h;omega)
 have e0:zd4 s p typ (.mk k al nm args dirs on xs)=((!decide (k=0)||p ((yw s typ nm).getD zF).ps args)&&dirs.all fun d=>p (Zb d) d.args):=rfl
 generalize zd4 s p typ (.mk k al nm args dirs on xs)=F at *
 generalize (yw s typ nm).isSome=fs at *
 generalize (yw s typ nm).getD zF=w at *
 obtain⟨fn,fp,⟨f1,f2,f3⟩,fd⟩:=w
 simp only at h2 e0
 generalize p fp args=x1 at *
 have hdl:=Y9 dirs
 have l1:=Yd dirs
 have hx':=hx
 simp only[Lim] at hx'
 obtain⟨sd,sq,sm⟩:=s
 simp only[zq,zaB,y8] at h1 ⊢
 refine zi.go ir95 ck95 (Al4 _) fun KP Q hQ=>?_
 have three:(k=0∧x1=false)∨((!decide (k=0)||x1)=true∧(k=0→x1=true)):=by cases x1<;>by_cases h:k=0<;>simp[h]
 rcases three with ⟨h0,hx1⟩|⟨h0,hx1⟩
 ·subst h0
  subst hx1
  simp(disch:=omega) only[ir95,go_sem]
  refine za h1 ?_
  simp(disch:=omega) only[go_sem]
  refine zb fun b7 hb7=>?_
  simp(disch:=omega) only[go_sem]
  refine⟨hf.1,za h2 ?_⟩
  simp(disch:=omega) only[go_sem]
  exact hQ _ _ _ [.bool false] nofun rfl (by rw[e0];rfl)
 rw[h0,Bool.true_and] at e0
 by_cases hk:k=0
 case' pos =>
  have hx2:=hx1 hk
  subst hk
  subst hx2
  simp(disch:=omega) only[ir95,go_sem]
  refine za h1 ?_
  simp(disch:=omega) only[go_sem]
  refine zb fun b7 hb7=>?_
  simp(disch:=omega) only[go_sem]
  refine⟨hf.1,za h2 ?_⟩
  simp(disch:=omega) only[l1,go_sem]
 case' neg=>simp(disch:=omega) only[ir95,hk,l1,go_sem]
 all_goals
  refine zf dirs 32 (fun _:Unit=>[]) (fun done rest _ H=>(rest.all fun d=>p (Zb d) d.args)=F) () (by simp(disch:=omega) only[go_sem]) e0.symm ?_ ?_
  ·rintro _ H J hn hlt
   simp(disch:=omega) only[l1,hlt,go_sem]
   exact hQ _ _ _ [.bool true] nofun rfl (by rw[← hn];rfl)
  ·rintro done d rest _ H J hd hlt _ hn hJ
   have hg:=YO hd
   have hP:=zgK d
   have hc:=h3 d (by rw[hd];simp)
   rw[List.all_cons] at hn
   generalize p (Zb d) d.args=y1 at *
   generalize Zb d=ps at *
   obtain⟨dn,da⟩:=d
   simp only at hc
   rw[zhq] at hg hP
   simp(disch:=omega) only[l1,hlt,hg,go_sem]
   refine zb fun b10 hb10=>?_
   simp(disch:=omega) only[go_sem]
   refine za hP ?_
   simp(disch:=omega) only[go_sem]
   refine⟨hf.1,za hc ?_⟩
   cases y1 with
   | false =>
    simp(disch:=omega) only[go_sem]
    exact hQ _ _ _ [.bool false] nofun rfl (by rw[← hn];rfl)
   | true =>
    simp(disch:=omega) only[go_sem]
    exact goJ (hJ () _ (by simpa using hn)) (by simp(disch:=omega) only[wrap64,go_sem])
theorem zeo (s:SchD) (d:DocD) (f:FuncId) (caps:List AV) (p:List VarD→List Mem→Bool) (hs:zJ s≤Lim) (hb:zv d≤Lim) (hf:zvg f caps p):zi Tryz.prog 57 [.agg (zq s),.agg (zT d),.clo f [] caps] (.bool (ZJ s d (zd4 s p))):=by
 have h1:=zpa s d 95 [.view (zq s),.view [.clo f [] caps]] (zd4 s p) hs hb ⟨by kernel_rfl,fun typ x hx=>zni s f caps p hs hf typ x (by omega)⟩
 generalize ZJ s d (zd4 s p)=x1 at *
 obtain⟨ops,frags⟩:=d
 obtain⟨sd,sq,sm⟩:=s
 simp only[zq,zT] at h1 ⊢
 refine zi.go ir57 ck57 (Al4 _) fun KP Q hQ=>?_
 simp(disch:=omega) only[ir57,go_sem]
 refine za h1 ?_
 simp(disch:=omega) only[go_sem]
 exact hQ _ _ _ _ nofun rfl (by simp[zd,ze,AV.strip,AV.strip1])
def zax (s:SchD) (d:DocD) (n:Int):Bool:=if n=15 then ZJ s d (zd4 s Y0) else if n=16 then ZJ s d (zd4 s fun _ l=>Y7 [] l) else if n=17 then ZJ s d (zd4 s zdB) else false
theorem zoQ (s:SchD) (d:DocD) (n:Int) (hs:zJ s≤Lim) (hb:zv d≤Lim):zi Tryz.prog 20 [.agg (zq s),.agg (zT d),.int .i64 n] (.bool (zax s d n)):=by
 have h1:=zeo s d 58 [] Y0 hs hb ⟨by kernel_rfl,fun ps l hp hl=>znc ps l (by have:=yP ps;omega) (by have:=y5 l;omega)⟩
 have h2:=zeo s d 59 [] (fun _ l=>Y7 [] l) hs hb ⟨by kernel_rfl,fun ps l hp hl=>znB _ l (by have:=y5 l;omega)⟩
 have h3:=zeo s d 60 [] zdB hs hb ⟨by kernel_rfl,fun ps l hp hl=>zlk ps l hp (by have:=y5 l;omega)⟩
 unfold zax
 generalize ZJ s d (zd4 s Y0)=x1 at *
 generalize ZJ s d (zd4 s fun _ l=>Y7 [] l)=x2 at *
 generalize ZJ s d (zd4 s zdB)=x3 at *
 obtain⟨ops,frags⟩:=d
 obtain⟨sd,sq,sm⟩:=s
 simp only[zq,zT] at h1 h2 h3 ⊢
 refine zi.go ir20 ck20 (Al4 _) fun KP Q hQ=>?_
 by_cases n1:n=15
 ·subst n1
  simp(disch:=omega) only[ir20,go_sem]
  refine za h1 ?_
  simp(disch:=omega) only[go_sem]
  exact hQ _ _ _ _ nofun rfl (by simp[zd,ze,AV.strip,AV.strip1])
 by_cases n2:n=16
 ·subst n2
  simp(disch:=omega) only[ir20,go_sem]
  refine za h2 ?_
  simp(disch:=omega) only[go_sem]
  exact hQ _ _ _ _ nofun rfl (by simp[zd,ze,AV.strip,AV.strip1])
 by_cases n3:n=17
 ·subst n3
  simp(disch:=omega) only[ir20,go_sem]
  refine za h3 ?_
  simp(disch:=omega) only[go_sem]
  exact hQ _ _ _ _ nofun rfl (by simp[zd,ze,AV.strip,AV.strip1])
 ·simp(disch:=omega) only[ir20,n1,n2,n3,go_sem]
  exact hQ _ _ _ _ nofun rfl (by simp[zd,ze,AV.strip,AV.strip1,n1,n2,n3])
end Go.Proofs.YtbcocdloklbkjaaGreatDoor
