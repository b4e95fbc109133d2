import Derived.Test.YtbjofkamhijjlaaGreatDoorM1
import Derived.Test.YtbjofkamhijjlaaGreatDoorM2
import Derived.Test.YtbjofkamhijjlaaGreatDoorM3
import Derived.Test.YtbjofkamhijjlaaGreatDoorM4
import Derived.Test.YtbjofkamhijjlaaGreatDoorM5
import Derived.Test.YtbjofkamhijjlaaGreatDoorM6
set_option maxRecDepth 100000
set_option linter.all false
namespace Go.Proofs.YtbjofkamhijjlaaGreatDoor
open Go.Ab
theorem zlm (n:List UInt8):∀(l:List DefD) (a:List (List UInt8)),(l.foldl (zbG n) a).length≤a.length+l.length
 | [],a=>by simp
 | x::l,a=>by have:=zlm n l (zbG n a x);have:=zko n a x;simp only[List.foldl,Al2];omega
theorem zk7 (s:SchD):∀(l:List (List UInt8)) (a:List (List UInt8)),(l.foldl (zcO s) a).length≤a.length+l.length
 | [],a=>by simp
 | x::l,a=>by have:=zk7 s l (zcO s a x);have:=zlV s a x;simp only[List.foldl,Al2];omega
theorem zhv (s:SchD) (n:List UInt8):(zbI s n).length≤zI s+1:=by
 rw[zlw]
 cases h:yv s n with
 | none=>simp
 | some d =>
  obtain⟨_,_,h3,_⟩:=Yw h
  have h4:=ZS d.parts
  have h5:=ze2 s.defs
  have h6:bEs s.defs≤zI s:=by simp only[zI];omega
  have h1:=zlm n s.defs []
  have h2:=zk7 s d.parts []
  simp only[Al3] at h1 h2
  show (if d.k=1 then [n] else if d.k=2 then s.defs.foldl (zbG n) [] else if d.k=3 then d.parts.foldl (zcO s) [] else []).length≤_
  split
  ·simp
  ·split
   ·omega
   ·split
    ·omega
    ·simp
def zoT (s:SchD) (a b:TyD):Bool:=if zO a=true∧za2 ⟨b.nm,a.lists,a.musts⟩ b=true then (if a.nm=b.nm then true else match yv s a.nm with
  | none=>false
  | some d=>(decide (d.k=1)&&zL a.nm (zbI s b.nm))||(decide (d.k=2)&&(yQ s b.nm [2]&&zL b.nm d.faces))) else false
theorem zwL (s:SchD) (a b:TyD) (hb:zI s+1≤Lim) (ha:a.nm.length≤Lim) (hbn:b.nm.length≤Lim):zg Tryz.prog 188 [.agg (zl s),.agg (cTy a),.agg (cTy b)] (.bool (zoT s a b)):=by
 have hl:=@z7 s (by omega)
 have h1:=zaO a ha
 have h2:=zmb ⟨b.nm,a.lists,a.musts⟩ b hbn hbn
 have h3:=zeL s a.nm hl
 have hle:=@Yw s a.nm
 have h4:=zrV s b.nm (by omega)
 have h5:=yE (zbI s b.nm) a.nm (by have:=zhv s b.nm;omega)
 have h6:=zcM s b.nm [2] hl (by decide)
 have h7:=fun(l:List (List UInt8)) (h:l.length≤Lim)=>yE l b.nm h
 have hbl:zI s≤1099511627776:=by simp only[Lim] at hb;omega
 have e0:zoT s a b=if zO a=true∧za2 ⟨b.nm,a.lists,a.musts⟩ b=true then (if a.nm=b.nm then true else match yv s a.nm with
  | none=>false
  | some d=>(decide (d.k=1)&&zL a.nm (zbI s b.nm))||(decide (d.k=2)&&(yQ s b.nm [2]&&zL b.nm d.faces))) else false:=rfl
 generalize zoT s a b=F at *
 obtain⟨an,al,am⟩:=a
 obtain⟨bn,bl,bm⟩:=b
 simp only at h1 h2 h3 h4 h5 h6 h7 e0 hle
 generalize zO ⟨an,al,am⟩=x1 at *
 generalize za2 ⟨bn,al,am⟩ ⟨bn,bl,bm⟩=x2 at *
 generalize zbI s bn=x3 at *
 generalize yQ s bn [2]=x4 at *
 obtain⟨sd,sq,sm⟩:=s
 generalize hS:(⟨sd,sq,sm⟩:SchD)=s at *
 have hcs:zl s=[.sl .no 6 (cEs sd),.str sq,.str sm]:=by rw[← hS];rfl
 simp only[hcs,cTy,List.map,cI] at h1 h2 h3 h4 h6 ⊢
 refine zg.go ir188 ck188 (Al4 _) fun KP Q hQ=>?_
 have fin:∀ r,F=r→∀ ρ H,zG ρ H ir188.res=some [.bool r]→Q .ret ρ H:=fun r e ρ H h1=>hQ _ ρ H _ nofun h1 (by rw[e];rfl)
 simp(disch:=omega) only[ir188,go_sem]
 refine zc fun b7 hb7=>?_
 simp(disch:=omega) only[go_sem]
 refine za h1 ?_
 cases x1 with
 | false =>
  simp(disch:=omega) only[go_sem]
  exact fin false (by rw[e0];simp) _ _ rfl
 | true =>
 simp(disch:=omega) only[go_sem]
 refine za h2 ?_
 cases x2 with
 | false =>
  simp(disch:=omega) only[go_sem]
  exact fin false (by rw[e0];simp) _ _ rfl
 | true =>
 rw[if_pos ⟨rfl,rfl⟩] at e0
 by_cases hn:an=bn
 ·rw[if_pos hn] at e0
  have hn':=eq_true hn
  simp(disch:=omega) only[hn',go_sem]
  exact fin true e0 _ _ rfl
 rw[if_neg hn] at e0
 simp(disch:=omega) only[hn,go_sem]
 refine za h3 ?_
 cases hfe:yv s an with
 | none =>
  rw[hfe] at e0
  simp(disch:=omega) only[Option.getD,Option.isSome,zE,yf,go_sem]
  refine zc fun b8 hb8=>?_
  have hne:=yF hb8
  simp(disch:=omega) only[hne,Ne.symm hne,go_sem]
  exact fin false e0 _ _ rfl
 | some d =>
  rw[hfe] at e0
  obtain⟨_,hle2,_,_⟩:=hle hfe
  obtain⟨k,dn,fs,fl,ps,pa⟩:=d
  simp only at e0 hle2
  have hfs:=ZS fs
  replace h7:=h7 fs (by simp only[Lim];omega)
  simp(disch:=omega) only[Option.getD,Option.isSome,yf,go_sem]
  refine zc fun b8 hb8=>?_
  have hne:=yF hb8
  by_cases k1:k=1
  ·subst k1
   simp(disch:=omega) only[hne,Ne.symm hne,go_sem]
   refine za h4 ?_
   simp(disch:=omega) only[hne,Ne.symm hne,go_sem]
   refine za h5 ?_
   cases hh:zL an x3 with
   | true =>
    simp(disch:=omega) only[hne,Ne.symm hne,go_sem]
    exact fin true (by rw[e0];simp[hh]) _ _ rfl
   | false =>
    simp(disch:=omega) only[hne,Ne.symm hne,go_sem]
    exact fin false (by rw[e0];simp[hh]) _ _ rfl
  ·by_cases k2:k=2
   ·subst k2
    simp(disch:=omega) only[hne,Ne.symm hne,go_sem]
    refine za (zg.low h6) ?_
    cases x4 with
    | false =>
     simp(disch:=omega) only[hne,Ne.symm hne,go_sem]
     exact fin false (by rw[e0];simp) _ _ rfl
    | true =>
     simp(disch:=omega) only[hne,Ne.symm hne,go_sem]
     refine za h7 ?_
     simp(disch:=omega) only[go_sem]
     exact fin (zL bn fs) (by rw[e0];simp) _ _ rfl
   ·simp(disch:=omega) only[hne,Ne.symm hne,k1,k2,go_sem]
    exact fin false (by rw[e0];simp[k1,k2]) _ _ rfl
def zs8 (a b:TyD):Bool:=zcQ (cTy a) (cTy b)
def zqq (fp:List VarD) (p:VarD):Bool:=match z6 fp p.nm with|none=>false|some q=>zs8 q.t p.t
def zrB (gp:List VarD) (q:VarD):Bool:=(z6 gp q.nm).isSome||!zhY q
def zfq (f g:FldD):Bool:=g.ps.all (zqq f.ps)&&f.ps.all (zrB g.ps)
theorem zv3 (f g:FldD) (hf:bWs f.ps≤Lim) (hg:bWs g.ps≤Lim):zg Tryz.prog 189 [.agg (cL f),.agg (cL g)] (.bool (zfq f g)):=by
 have e0:zfq f g=(g.ps.all (zqq f.ps)&&f.ps.all (zrB g.ps)):=rfl
 generalize zfq f g=F at *
 obtain⟨fn,fp,⟨f1,f2,f3⟩,fd⟩:=f
 obtain⟨gn,gp,⟨g1,g2,g3⟩,gd⟩:=g
 simp only at e0 hf hg
 have hfl:=yD fp
 have hgl:=yD gp
 have l1:=Zj fp
 have l2:=Zj gp
 simp only[Lim] at hf hg
 rw[zaL,zaL]
 refine zg.go ir189 ck189 (Al4 _) fun KP Q hQ=>?_
 have fin:∀ r,F=r→∀ ρ H,zG ρ H ir189.res=some [.bool r]→Q .ret ρ H:=fun r e ρ H h1=>hQ _ ρ H _ nofun h1 (by rw[e];rfl)
 simp(disch:=omega) only[ir189,l2,go_sem]
 refine zf gp 16 (fun _:Unit=>[]) (fun done rest _ H=>rest.all (zqq fp)=gp.all (zqq fp)) () (by simp(disch:=omega) only[go_sem]) rfl ?_ ?_
 ·rintro _ H J hn hlt
  simp(disch:=omega) only[l1,l2,hlt,go_sem]
  refine zf fp 41 (fun _:Unit=>[]) (fun done rest _ H=>rest.all (zrB gp)=fp.all (zrB gp)) () (by simp(disch:=omega) only[go_sem]) rfl ?_ ?_
  ·rintro _ H J hn2 hlt
   simp(disch:=omega) only[l1,hlt,go_sem]
   exact fin true (by rw[e0,← hn,← hn2];rfl) _ _ rfl
  ·rintro done x rest _ H J hd hlt _ hn2 hJ
   have hgt:=Z9 hd
   have hP:=zeb gp x.nm (by simp only[Lim];omega)
   have hR:=zu7 x (by have:=@YD x fp (by rw[hd];simp);simp only[bW] at this;simp only[Lim];omega)
   rw[List.all_cons] at hn2
   have ht:zrB gp x=((z6 gp x.nm).isSome||!zhY x):=rfl
   generalize zhY x=rq at *
   obtain⟨nm,⟨t1,t2,t3⟩,hh,⟨xk,xq,xs,xl,xm⟩⟩:=x
   rw[zZ] at hgt hR
   simp only at hP ht
   simp(disch:=omega) only[l1,hlt,hgt,go_sem]
   refine zc fun b10 hb10=>?_
   simp(disch:=omega) only[go_sem]
   refine za hP ?_
   cases hp2:z6 gp nm with
   | some p =>
    rw[hp2] at ht
    rw[ht] at hn2
    obtain⟨pn,⟨p1,p2,p3⟩,ph,⟨pk,pq,ps2,pl,pm⟩⟩:=p
    simp(disch:=omega) only[Option.getD,Option.isSome,zZ,go_sem]
    refine zc fun b11 hb11=>?_
    have hne:=yF hb11
    simp(disch:=omega) only[hne,Ne.symm hne,go_sem]
    exact goJ (hJ () _ (by simpa using hn2)) (by simp(disch:=omega) only[wrap64,go_sem])
   | none =>
    rw[hp2] at ht
    rw[ht] at hn2
    simp(disch:=omega) only[Option.getD,Option.isSome,zW,zV,zZ,go_sem]
    refine zc fun b11 hb11=>?_
    have hne:=yF hb11
    simp(disch:=omega) only[hne,Ne.symm hne,go_sem]
    refine za hR ?_
    cases rq with
    | true =>
     simp(disch:=omega) only[go_sem]
     exact fin false (by rw[e0,← hn2];simp) _ _ rfl
    | false =>
     simp(disch:=omega) only[go_sem]
     exact goJ (hJ () _ (by simpa using hn2)) (by simp(disch:=omega) only[wrap64,go_sem])
 ·rintro done x rest _ H J hd hlt _ hn hJ
  have hgt:=Z9 hd
  have hP:=zeb fp x.nm (by simp only[Lim];omega)
  rw[List.all_cons] at hn
  have ht:zqq fp x=match z6 fp x.nm with|none=>false|some q=>zs8 q.t x.t:=rfl
  obtain⟨nm,⟨t1,t2,t3⟩,hh,⟨xk,xq,xs,xl,xm⟩⟩:=x
  rw[zZ] at hgt
  simp only at hP ht
  simp(disch:=omega) only[l2,hlt,hgt,go_sem]
  refine zc fun b6 hb6=>?_
  simp(disch:=omega) only[go_sem]
  refine za hP ?_
  cases hp2:z6 fp nm with
  | none =>
   rw[hp2] at ht
   rw[ht] at hn
   simp(disch:=omega) only[Option.getD,Option.isSome,zW,zV,zZ,go_sem]
   refine zc fun b7 hb7=>?_
   have hne:=yF hb7
   simp(disch:=omega) only[hne,Ne.symm hne,go_sem]
   exact fin false (by rw[e0,← hn];simp) _ _ rfl
  | some p =>
   rw[hp2] at ht
   simp only at ht
   rw[ht] at hn
   obtain⟨pn,⟨p1,p2,p3⟩,ph,⟨pk,pq,ps2,pl,pm⟩⟩:=p
   simp only at hn
   simp(disch:=omega) only[Option.getD,Option.isSome,zZ,go_sem]
   refine zc fun b7 hb7=>?_
   have hne:=yF hb7
   have hfit:zX [K1.s,K1.i .i64,K1.i .i64] [.str p1,.int .i64 p2,.int .i64 p3]=true:=by simp[zX,K1.fits]
   have hfit2:zX [K1.s,K1.i .i64,K1.i .i64] [.str t1,.int .i64 t2,.int .i64 t3]=true:=by simp[zX,K1.fits]
   have hk:zcQ [.str p1,.int .i64 p2,.int .i64 p3] [.str t1,.int .i64 t2,.int .i64 t3]=zs8 ⟨p1,p2,p3⟩ ⟨t1,t2,t3⟩:=rfl
   cases hq:zs8 ⟨p1,p2,p3⟩ ⟨t1,t2,t3⟩ with
   | true =>
    rw[hq] at hn hk
    simp(disch:=omega) only[hne,Ne.symm hne,hfit,hfit2,hk,go_sem]
    exact goJ (hJ () _ (by simpa using hn)) (by simp(disch:=omega) only[wrap64,go_sem])
   | false =>
    rw[hq] at hn hk
    simp(disch:=omega) only[hne,Ne.symm hne,hfit,hfit2,hk,go_sem]
    exact fin false (by rw[e0,← hn];simp) _ _ rfl
theorem zwx (g f:FldD) (b:Nat) (H:zb) (hb:H b=some (.cells (cL g))):zi Tryz.prog 187 [.agg (cL f),.ptr b 0] H (At (.bool (nmF g.nm f)) H):=by
 obtain⟨gn,gp,⟨g1,g2,g3⟩,gd⟩:=g
 obtain⟨fn,fp,⟨f1,f2,f3⟩,fd⟩:=f
 rw[zaL] at hb
 refine zi.go ir187 ck187 (Al4 _) fun KP Q hQ=>?_
 simp(disch:=omega) only[ir187,zaL,hb,go_sem]
 exact hQ _ _ _ _ _ nofun rfl (Low.refl _) ⟨by simp[zd,ze,AV.strip,AV.strip1,nmF],rfl⟩
def zs2 (s:SchD) (d:DefD) (g:FldD):Bool:=match d.flds.find? (nmF g.nm) with
 | none=>false
 | some f=>zoT s f.t g.t&&zfq f g
def zkb (s:SchD) (d:DefD) (face:List UInt8):Bool:=((yv s face).getD zE).flds.all (zs2 s d)
theorem zui {f:FldD}:f.t.nm.length≤bL f:=by simp only[bL];omega
theorem zxA (s:SchD) (d:DefD) (face:List UInt8) (hs:zI s+1≤Lim) (hd:bE d≤Lim):zg Tryz.prog 122 [.agg (zl s),.agg (cE d),.str face] (.bool (zkb s d face)):=by
 have hl:=@z7 s (by omega)
 have h1:=zeL s face hl
 have hle:=@Yw s face
 have hsub:=fun a b h1 h2=>zwL s a b hs h1 h2
 have hbs:zI s+1≤1099511627776:=by simpa only[Lim] using hs
 have hfl:∀ x,(yv s face).getD zE=x→bLs x.flds≤zI s:=by
  intro x hx
  cases h:yv s face with
  | none=>rw[h] at hx;subst hx;simp[zE,bLs]
  | some y=>rw[h] at hx;subst hx;exact(hle h).1
 have e0:zkb s d face=((yv s face).getD zE).flds.all (zs2 s d):=rfl
 have hG:∀ g,zs2 s d g=match d.flds.find? (nmF g.nm) with|none=>false|some f=>zoT s f.t g.t&&zfq f g:=fun _=>rfl
 have hidx:=fun(g:FldD) (b:Nat) (H:zb) (hb:H b=some (.cells (cL g))) (hl:d.flds.length≤Lim)=>zst cL (fun _=>rfl) d.flds 187 [.ptr b 0] (nmF g.nm) H hl (by kernel_rfl) fun f _=>zwx g f b H hb
 generalize zkb s d face=F at *
 generalize (yv s face).isSome=fs at *
 generalize (yv s face).getD zE=x at *
 replace hfl:=hfl x rfl
 obtain⟨xk,xn,xfs,xfl,xps,xpa⟩:=x
 obtain⟨dk,dn,dfs,dfl,dps,dpa⟩:=d
 simp only[bE,Lim] at hd
 simp only at hfl e0 hG hidx
 have hxl:=zah xfl
 have hdl:=zah dfl
 have l1:=za3 xfl
 have l2:=za3 dfl
 generalize zs2 s ⟨dk,dn,dfs,dfl,dps,dpa⟩=G at *
 obtain⟨sd,sq,sm⟩:=s
 generalize hS:(⟨sd,sq,sm⟩:SchD)=s at *
 have hcs:zl s=[.sl .no 6 (cEs sd),.str sq,.str sm]:=by rw[← hS];rfl
 simp only[hcs,yf] at h1 hsub ⊢
 refine zg.go ir122 ck122 (Al4 _) fun KP Q hQ=>?_
 have fin:∀ r,F=r→∀ ρ H,zG ρ H ir122.res=some [.bool r]→Q .ret ρ H:=fun r e ρ H h1=>hQ _ ρ H _ nofun h1 (by rw[e];rfl)
 simp(disch:=omega) only[ir122,go_sem]
 refine za h1 ?_
 simp(disch:=omega) only[go_sem]
 refine zc fun b7 hb7=>?_
 simp(disch:=omega) only[l1,go_sem]
 refine zf xfl 21 (fun _:Unit=>[]) (fun done rest _ H=>rest.all G=xfl.all G) () (by simp(disch:=omega) only[go_sem]) rfl ?_ ?_
 ·rintro _ H J hn hlt
  simp(disch:=omega) only[l1,hlt,go_sem]
  exact fin true (by rw[e0,← hn];rfl) _ _ rfl
 ·rintro done g rest _ H J hd2 hlt _ hn hJ
  have hgt:=zdH hd2
  have hgb:=@zcH g xfl (by rw[hd2];simp)
  have hg1:=@zp7 g
  have hg2:=@zj1 g
  have hg3:=@zui g
  have hgg:=hG g
  have hid:=hidx g
  rw[List.all_cons,hgg] at hn
  have hcg:∀ g:FldD,cL g=[.str g.nm,.sl .no 10 (cWs g.ps),.str g.t.nm,.int .i64 g.t.lists,.int .i64 g.t.musts,.sl .no 2 (cDs g.dirs)]:=fun _=>rfl
  have hcc:=hcg g
  rw[hcc] at hgt
  simp(disch:=omega) only[l1,hlt,hgt,go_sem]
  refine zc fun b10 hb10=>?_
  simp(disch:=omega) only[go_sem]
  refine zY (hid b10 _ (by rw[upd_same];rfl) (by simp only[Lim];omega)) ?_
  rintro _ _ ⟨_,rfl,rfl,rfl⟩
  rcases zaw (nmF g.nm) dfl 0 with ⟨a,f,r,e1,e2,e3,e4⟩|⟨e1,e2⟩
  ·rw[e4,Int.zero_add]
   rw[e3] at hn
   simp only at hn
   have hft:=zdH e1
   have hfb:=@zcH f dfl (by rw[e1];simp)
   have hf2:=@zj1 f
   have hf3:=@zui f
   have h5:(a.length:Int)<dfl.length:=by rw[e1,Al5,Al2];omega
   have h7:¬ ((a.length:Int)<0):=by omega
   have hS1:=hsub f.t g.t (by simp only[Lim];omega) (by simp only[Lim];omega)
   have hT1:=zv3 f g (by simp only[Lim];omega) (by simp only[Lim];omega)
   rw[hcg f] at hft
   simp only[cTy] at hS1
   rw[hcg f,hcg g] at hT1
   simp(disch:=omega) only[ZU,hft,l2,h5,h7,go_sem]
   refine za hS1 ?_
   cases hb1:zoT s f.t g.t with
   | false =>
    rw[hb1] at hn
    simp(disch:=omega) only[go_sem]
    exact fin false (by rw[e0,← hn];simp) _ _ rfl
   | true =>
    rw[hb1] at hn
    simp(disch:=omega) only[hft,l2,h5,h7,go_sem]
    refine za hT1 ?_
    cases hb2:zfq f g with
    | false =>
     rw[hb2] at hn
     simp(disch:=omega) only[go_sem]
     exact fin false (by rw[e0,← hn];simp) _ _ rfl
    | true =>
     rw[hb2] at hn
     simp(disch:=omega) only[go_sem]
     exact goJ (hJ () _ (by simpa using hn)) (by simp(disch:=omega) only[wrap64,go_sem])
  ·rw[e2]
   rw[e1] at hn
   simp(disch:=omega) only[ZU,go_sem]
   exact fin false (by rw[e0,← hn];simp) _ _ rfl
theorem zsK (s:SchD) (d:DefD) (n:List UInt8) (b:Nat) (H:zb) (hb:H b=some (.cells (zl s))) (hs:zI s+1≤Lim) (hd:bE d≤Lim):zi Tryz.prog 121 [.str n,.ptr b 0,.view (cE d)] H (At (.bool (!zkb s d n)) H):=by
 have h1:=zxA s d n hs hd
 generalize zkb s d n=x1 at *
 obtain⟨dk,dn,dfs,dfl,dps,dpa⟩:=d
 obtain⟨sd,sq,sm⟩:=s
 simp only[zl,yf] at h1 hb ⊢
 refine zi.go ir121 ck121 (Al4 _) fun KP Q hQ=>?_
 simp(disch:=omega) only[ir121,hb,go_sem]
 refine za h1 ?_
 simp(disch:=omega) only[go_sem]
 exact hQ _ _ _ _ _ nofun rfl (Low.refl _) ⟨by simp[zd,ze,AV.strip,AV.strip1],rfl⟩
def zkU (s:SchD) (d:DefD):Bool:=!d.faces.any fun n=>!zkb s d n
theorem zuH (s:SchD) (d:DefD) (b:Nat) (H:zb) (hb:H b=some (.cells (zl s))) (hs:zI s+1≤Lim) (hd:bE d≤Lim):zi Tryz.prog 120 [.agg (cE d),.ptr b 0] H (At (.bool (zkU s d)) H):=by
 have hdf:d.faces.length≤Lim:=by have:=ZS d.faces;simp only[bE] at hd;omega
 have h3:=zeQ (fun n:List UInt8=>AV.str n) d.faces 121 [.ptr b 0,.view (cE d)] (fun n=>!zkb s d n) H hdf (by kernel_rfl) fun m _=>zsK s d m b H hb hs hd
 unfold zkU
 generalize (d.faces.any fun n=>!zkb s d n)=x1 at *
 obtain⟨k,nm,fs,fl,ps,pa⟩:=d
 simp only[yf] at h3 ⊢
 refine zi.go ir120 ck120 (Al4 _) fun KP Q hQ=>?_
 simp(disch:=omega) only[ir120,go_sem]
 refine zY h3 ?_
 rintro _ _ ⟨_,rfl,rfl,rfl⟩
 simp(disch:=omega) only[ZU,go_sem]
 exact hQ _ _ _ _ _ nofun rfl (Low.refl _) ⟨by simp[zd,ze,AV.strip,AV.strip1],rfl⟩
def zjn (s:SchD):Bool:=s.defs.all (zkU s)
theorem zvW (s:SchD) (hb:zI s+1≤Lim):zg Tryz.prog 53 [.agg (zl s)] (.bool (zjn s)):=by
 have hl:=@z7 s (by omega)
 have hx:=fun b H hb'=>zef s 120 [.ptr b 0] (zkU s) H hl (by kernel_rfl) fun d hd=>zuH s d b H hb' hb (ziH hd (by omega))
 rw[zjn]
 generalize s.defs.all (zkU s)=x1 at *
 obtain⟨sd,sq,sm⟩:=s
 simp only[zl] at hx ⊢
 refine zg.go ir53 ck53 (Al4 _) fun KP Q hQ=>?_
 simp(disch:=omega) only[ir53,go_sem]
 refine zc fun b1 hb1=>?_
 simp(disch:=omega) only[go_sem]
 refine zY (hx b1 _ (upd_same ..)) ?_
 rintro _ _ ⟨_,rfl,rfl,rfl⟩
 simp(disch:=omega) only[ZU,go_sem]
 exact hQ _ _ _ _ nofun rfl rfl
theorem zl3 {H H':zb} {o:Own} {n sz:Nat} (h:zK H o n sz) (hk:Kept H .nil H'):zK H' o n sz:=by
 cases o with
 | no=>exact h
 | nil=>exact h
 | full=>exact h
 | tip b d=>exact hk b _ h fun d' e=>by cases e
def Yy (s:SchD) (l:List (List UInt8)) (p:VarD):List (List UInt8):=if p.t.lists=0∧isM p.t=true∧yQ s p.t.nm [5]=true∧zL p.t.nm l=false then l++[p.t.nm] else l
def zbR (s:SchD) (n:List UInt8):List (List UInt8):=((yv s n).getD zE).ps.foldl (Yy s) []
theorem zlP (s:SchD) (l:List (List UInt8)) (p:VarD):(Yy s l p).length≤l.length+1:=by unfold Yy;split<;>simp
theorem zvt (s:SchD) (n:List UInt8) (H:zb) (hs:zI s≤Lim):zae Tryz.prog 190 [.agg (zl s),.str n] H .nil 1 (cT (zbR s n)):=by
 have hl:=z7 hs
 have h1:=zeL s n hl
 have hle:=@Yw s n
 have hkind:=fun p=>zcM s p [5] hl (by decide)
 have hbs:zI s≤1099511627776:=by simpa only[Lim] using hs
 have hps:∀ x,(yv s n).getD zE=x→bWs x.ps≤zI s:=by
  intro x hx
  cases h:yv s n with
  | none=>rw[h] at hx;subst hx;simp[zE,bWs]
  | some y=>rw[h] at hx;subst hx;exact(hle h).2.2.2
 have e0:zbR s n=((yv s n).getD zE).ps.foldl (Yy s) []:=rfl
 generalize zbR s n=F at *
 generalize (yv s n).isSome=fs at *
 generalize (yv s n).getD zE=x at *
 replace hps:=hps x rfl
 obtain⟨xk,xn,xfs,xfl,xps,xpa⟩:=x
 simp only at hps e0
 have hpl:=yD xpa
 have l1:=Zj xpa
 obtain⟨sd,sq,sm⟩:=s
 generalize hS:(⟨sd,sq,sm⟩:SchD)=s at *
 have hcs:zl s=[.sl .no 6 (cEs sd),.str sq,.str sm]:=by rw[← hS];rfl
 simp only[hcs,yf,List.map,cI] at h1 hkind ⊢
 refine zi.goO ir190 ck190 (Al4 _) fun KP Q hQ hP=>?_
 simp(disch:=omega) only[ir190,go_sem]
 refine za h1 ?_
 simp(disch:=omega) only[go_sem]
 refine zc fun b5 hb5=>?_
 simp(disch:=omega) only[l1,go_sem]
 refine zf xpa 19 (fun x:Own×List (List UInt8)=>[(7,.sl x.1 1 (cT x.2))]) (fun done rest x H'=>rest.foldl (Yy s) x.2=xpa.foldl (Yy s) []∧x.2.length+rest.length≤xpa.length∧OwnS H .nil H' x.1 x.2.length 1) (.nil,[]) (by simp(disch:=omega) only[cT,List.map,go_sem]) ⟨rfl,by simp,(OwnS.refl (o:=.nil) (n:=0) rfl).upd hb5⟩ ?_ ?_
 ·rintro⟨o1,a⟩ H' J ⟨hn,_,hs2⟩ hlt
  simp only[List.foldl] at hn
  simp(disch:=omega) only[l1,hlt,go_sem]
  refine hQ _ _ H' H' [.sl o1 1 (cT a)] nofun (by simp(disch:=omega) only[ir190,zG,Zk,go_sem]) (Low.refl _) ⟨o1,by rw[e0,← hn];rfl,by rw[e0,← hn,zD];exact hs2⟩
 ·rintro done p rest ⟨o1,a⟩ H' J hd hlt _ ⟨hn,hle3,hs2⟩ hJ
  have hgt:=Z9 hd
  have hpb:=@YD p xpa (by rw[hd];simp)
  simp only[bW] at hpb
  replace hs2:OwnS H .nil H' o1 a.length 1:=hs2
  simp only[List.foldl,Al2] at hn hle3
  have hI:=isC p.t (by simp only[Lim];omega)
  have hK:=hkind p.t.nm
  have hC:=yE a p.t.nm (by simp only[Lim];omega)
  have hst:=zlP s a p
  have hne0:Yy s a p=if p.t.lists=0∧isM p.t=true∧yQ s p.t.nm [5]=true∧zL p.t.nm a=false then a++[p.t.nm] else a:=rfl
  obtain⟨nm,⟨t1,t2,t3⟩,hh,⟨xk,xq,xs,xl,xm⟩⟩:=p
  rw[zZ] at hgt
  simp only at hI hK hC hne0
  simp only[cTy] at hI
  generalize isM ⟨t1,t2,t3⟩=y1 at *
  generalize yQ s t1 [5]=y2 at *
  have h3:=zD a
  simp(disch:=omega) only[l1,hlt,hgt,go_sem]
  refine zc fun b9 hb9=>?_
  have hsu:=hs2.upd (x:=.cells (cW ⟨nm,⟨t1,t2,t3⟩,hh,.mk xk xq xs xl xm⟩)) hb9
  rw[zZ] at hsu
  by_cases h0:t2=0
  case neg =>
   rw[if_neg (fun h=>h0 h.1)] at hne0
   rw[hne0] at hn hst
   simp(disch:=omega) only[h0,go_sem]
   exact goJ (hJ (o1,a) _ ⟨hn,by simp only;omega,hsu⟩) (by simp(disch:=omega) only[wrap64,go_sem])
  subst h0
  simp(disch:=omega) only[go_sem]
  refine za hI ?_
  cases y1 with
  | false =>
   rw[if_neg (by simp)] at hne0
   rw[hne0] at hn hst
   simp(disch:=omega) only[go_sem]
   exact goJ (hJ (o1,a) _ ⟨hn,by simp only;omega,hsu⟩) (by simp(disch:=omega) only[wrap64,go_sem])
  | true =>
  simp(disch:=omega) only[go_sem]
  refine za (zg.low hK) ?_
  cases y2 with
  | false =>
   rw[if_neg (by simp)] at hne0
   rw[hne0] at hn hst
   simp(disch:=omega) only[go_sem]
   exact goJ (hJ (o1,a) _ ⟨hn,by simp only;omega,hsu⟩) (by simp(disch:=omega) only[wrap64,go_sem])
  | true =>
  simp(disch:=omega) only[go_sem]
  refine za (zg.low hC) ?_
  cases hh2:zL t1 a with
  | true =>
   rw[if_neg (by simp[hh2])] at hne0
   rw[hne0] at hn hst
   simp(disch:=omega) only[go_sem]
   exact goJ (hJ (o1,a) _ ⟨hn,by simp only;omega,hsu⟩) (by simp(disch:=omega) only[wrap64,go_sem])
  | false =>
   rw[if_pos ⟨rfl,rfl,rfl,hh2⟩] at hne0
   rw[hne0] at hn hst
   simp(disch:=omega) only[go_sem]
   refine zp (by rw[h3];exact hsu.own) ?_ ?_ fun o' H2 hs3=>?_
   ·simp only[h3,Al2,Al3];omega
   ·simp only[h3,Al2,Al3,maxLen];omega
   have e1:cT a++[[AV.str t1]]=cT (a++[t1]):=by simp[cT]
   have hs4:=hsu.trans hs3
   simp only[h3,Al2,Al3] at hs4
   simp(disch:=omega) only[wrap64,e1,go_sem]
   exact goJ (hJ (o',a++[t1]) H2 ⟨hn,by simp only[Al5,Al2,Al3];omega,by simpa using hs4⟩) (by simp(disch:=omega) only[go_sem])
def OkL (s:SchD) (l:List (List UInt8)):Prop:=l.Nodup∧∀ x∈l,x∈s.defs.map (·.nm)
theorem zo9 {s:SchD} {n:List UInt8} (h:yQ s n [5]=true):n∈s.defs.map (·.nm):=by
 unfold yQ at h
 cases hf:yv s n with
 | none=>rw[hf] at h;cases h
 | some d =>
  rw[hf] at h
  have hk:d.k=5:=by simpa[zpl] using h
  unfold yv at hf
  split at hf
  ·cases hf;simp[scE] at hk
  ·have h1:=List.mem_of_find?_eq_some hf
   have h2:=List.find?_some hf
   simp only[nmE,yH] at h2
   exact List.mem_map.2 ⟨d,h1,h2⟩
theorem zm7 {s:SchD} {l:List (List UInt8)} {x:List UInt8} (h:OkL s l) (hx:zL x l=false) (hm:x∈s.defs.map (·.nm)):OkL s (l++[x]):=by
 have hx':x ∉ l:=fun h=>by rw[(y7 x l).2 h] at hx;cases hx
 refine⟨List.nodup_append.2 ⟨h.1,by simp,fun a ha b hb e=>?_⟩,fun y hy=>?_⟩
 ·simp only[List.mem_singleton] at hb
  subst hb;subst e;exact hx' ha
 ·rcases List.mem_append.1 hy with h1|h1
  ·exact h.2 y h1
  ·simp only[List.mem_singleton] at h1
   subst h1;exact hm
theorem zle {s:SchD} {l:List (List UInt8)} (p:VarD) (h:OkL s l):OkL s (Yy s l p):=by
 unfold Yy
 split
 ·rename_i hc;exact zm7 h hc.2.2.2 (zo9 hc.2.2.1)
 ·exact h
theorem zgj {s:SchD}:∀(ps:List VarD) {l:List (List UInt8)},OkL s l→OkL s (ps.foldl (Yy s) l)
 | [],_,h=>h
 | p::ps,_,h=>zgj ps (zle p h)
theorem zot (s:SchD) (n:List UInt8):OkL s (zbR s n):=zgj _ ⟨List.nodup_nil,by simp⟩
theorem ztw {s:SchD} {l:List (List UInt8)} {x:List UInt8} (h:OkL s l) (hm:x∈s.defs.map (·.nm)):OkL s (zbW l x):=by
 unfold zbW
 split
 ·exact h
 ·rename_i hc;exact zm7 h (by simpa using hc) hm
theorem zjY {s:SchD} {l:List (List UInt8)} (h:OkL s l):l.length≤s.defs.length:=by
 have:=List.Nodup.length_le_of_subset h.1 (fun x hx=>h.2 x hx)
 simpa using this
def ziQ (s:SchD) (n:List UInt8):Nat→List (List UInt8)→Nat→Bool
 | 0,_,_=>false
 | k+1,l,i=>match l[i]? with
  | none=>false
  | some x=>if x=n then true else ziQ s n k ((zbR s x).foldl zbW l) (i+1)
def zk8 (s:SchD) (n:List UInt8):Bool:=ziQ s n (s.defs.length+1) (zbR s n) 0
theorem zvb (s:SchD) (n:List UInt8) (hs:zI s≤Lim):zg Tryz.prog 126 [.agg (zl s),.str n] (.bool (zk8 s n)):=by
 have hl:=z7 hs
 have hbs:zI s≤1099511627776:=by simpa only[Lim] using hs
 have hds:s.defs.length≤1099511627776:=by simpa only[Lim] using hl
 have hN:=fun x H=>zvt s x H hs
 have hok:=zot s
 have e0:zk8 s n=ziQ s n (s.defs.length+1) (zbR s n) 0:=rfl
 generalize zk8 s n=F at *
 obtain⟨sd,sq,sm⟩:=s
 generalize hS:(⟨sd,sq,sm⟩:SchD)=s at *
 have hcs:zl s=[.sl .no 6 (cEs sd),.str sq,.str sm]:=by rw[← hS];rfl
 simp only[hcs] at hN ⊢
 refine zg.go ir126 ck126 (Al4 _) fun KP Q hQ=>?_
 have fin:∀ r,F=r→∀ ρ H,zG ρ H ir126.res=some [.bool r]→Q .ret ρ H:=fun r e ρ H h1=>hQ _ ρ H _ nofun h1 (by rw[e];rfl)
 simp(disch:=omega) only[ir126,go_sem]
 refine zB (hN n _) fun o0 H0 hs0=>?_
 rw[zD] at hs0
 simp(disch:=omega) only[go_sem]
 refine zcZ (fun x:Own×List (List UInt8)×Nat=>[(5,.sl x.1 1 (cT x.2.1)),(6,.int .i64 x.2.2)]) (fun x H'=>zK H' x.1 x.2.1.length 1∧OkL s x.2.1∧x.2.2≤s.defs.length∧ziQ s n (s.defs.length+1-x.2.2) x.2.1 x.2.2=F) (fun x=>s.defs.length+1-x.2.2) (o0,zbR s n,0) (by simp(disch:=omega) only[go_sem]) ⟨hs0.own,hok n,Nat.zero_le _,e0.symm⟩ ?_
 rintro⟨o,l,i⟩ H1 J ⟨ho,hk,hi,hr⟩ hJ
 replace ho:zK H1 o l.length 1:=ho
 simp only at hk hi hr
 have hlen:=zjY hk
 have l1:=zD l
 have ek:s.defs.length+1-i=(s.defs.length-i)+1:=by omega
 rw[ek] at hr
 by_cases hil:i<l.length
 case neg =>
  have hg:l[i]?=none:=List.getElem?_eq_none (by omega)
  have hlt:¬ ((i:Int)<l.length):=by omega
  simp only[ziQ,hg] at hr
  simp(disch:=omega) only[l1,hlt,go_sem]
  exact fin false hr.symm _ _ rfl
 obtain⟨a,x,r,hlx,hai⟩:∃ a x r,l=a++x::r∧a.length=i:=⟨l.take i,l[i],l.drop (i+1),by rw[List.getElem_cons_drop,List.take_append_drop],by rw[List.length_take];omega⟩
 subst hai
 have hgx:l[a.length]?=some x:=by rw[hlx];simp
 have hgt:(cT l).getD a.length []=[.str x]:=Yr hlx
 have hlt:(a.length:Int)<l.length:=by omega
 simp only[ziQ,hgx] at hr
 by_cases hx:x=n
 ·rw[if_pos hx] at hr
  have hx':=eq_true hx
  simp(disch:=omega) only[l1,hlt,hgt,hx',go_sem]
  exact fin true hr.symm _ _ rfl
 rw[if_neg hx] at hr
 simp(disch:=omega) only[l1,hlt,hgt,hx,go_sem]
 refine zB (hN x _) fun o2 H2 hs2=>?_
 have l3:=zD (zbR s x)
 rw[l3] at hs2
 have ho2:=zl3 ho hs2.kept
 have hxs:=(hok x).2
 have hxl:=zjY (hok x)
 generalize zbR s x=xs at *
 simp(disch:=omega) only[l3,go_sem]
 refine zf xs 31 (fun y:Own×List (List UInt8)=>[(5,.sl y.1 1 (cT y.2))]) (fun done rest y H'=>zK H' y.1 y.2.length 1∧OkL s y.2∧rest.foldl zbW y.2=xs.foldl zbW l) (o,l) (by simp(disch:=omega) only[go_sem]) ⟨ho2,hk,rfl⟩ ?_ ?_
 ·rintro⟨o3,l3'⟩ H3 J2 ⟨h31,h32,h33⟩ hlt3
  simp only[List.foldl] at h33
  rw[← h33] at hr
  simp only at h32
  simp(disch:=omega) only[l3,hlt3,go_sem]
  exact goJ (hJ (o3,l3',a.length+1) H3 (by simp only;omega) ⟨h31,h32,by simp only;omega,by simp only;rw[← hr];congr 1;omega⟩) (by simp(disch:=omega) only[wrap64,go_sem];simp)
 ·rintro done y rest ⟨o3,l3'⟩ H3 J2 hd hlt3 _ ⟨h31,h32,h33⟩ hJ2
  have hgy:=Yr hd
  have hym:=hxs y (by rw[hd];simp)
  replace h31:zK H3 o3 l3'.length 1:=h31
  simp only[List.foldl] at h32 h33
  have hl3:=zjY h32
  have l4:=zD l3'
  have hA:=ztw h32 hym
  have ha0:zbW l3' y=if zL y l3'=true then l3' else l3'++[y]:=rfl
  simp(disch:=omega) only[l3,hlt3,hgy,go_sem]
  refine za (zg.low (yE l3' y (by simp only[Lim];omega))) ?_
  cases hh:zL y l3' with
  | true =>
   rw[if_pos hh] at ha0
   rw[ha0] at h33 hA
   simp(disch:=omega) only[go_sem]
   exact goJ (hJ2 (o3,l3') H3 ⟨h31,hA,h33⟩) (by simp(disch:=omega) only[wrap64,go_sem])
  | false =>
   rw[if_neg (by simp[hh])] at ha0
   rw[ha0] at h33 hA
   simp(disch:=omega) only[go_sem]
   refine zp (by rw[l4];exact h31) ?_ ?_ fun o' H4 hs4=>?_
   ·simp only[l4,Al2,Al3];omega
   ·simp only[l4,Al2,Al3,maxLen];omega
   have e1:cT l3'++[[AV.str y]]=cT (l3'++[y]):=by simp[cT]
   have hs5:=hs4.own
   simp only[l4,Al2,Al3] at hs5
   simp(disch:=omega) only[wrap64,e1,go_sem]
   exact goJ (hJ2 (o',l3'++[y]) H4 ⟨by simpa using hs5,hA,h33⟩) (by simp(disch:=omega) only[go_sem])
def zkT (s:SchD) (d:DefD):Bool:=!decide (d.k=5)||!zk8 s d.nm
theorem zvT (s:SchD) (d:DefD) (hs:zI s≤Lim):zg Tryz.prog 125 [.agg (cE d),.view (zl s)] (.bool (zkT s d)):=by
 have h1:=zvb s d.nm hs
 unfold zkT
 generalize zk8 s d.nm=x1 at *
 obtain⟨k,nm,fs,fl,ps,pa⟩:=d
 obtain⟨sd,sq,sm⟩:=s
 simp only[zl,yf] at h1 ⊢
 refine zg.go ir125 ck125 (Al4 _) fun KP Q hQ=>?_
 by_cases hk:k=5
 ·subst hk
  simp(disch:=omega) only[ir125,go_sem]
  refine za h1 ?_
  simp(disch:=omega) only[go_sem]
  exact hQ _ _ _ _ nofun rfl (by simp[zd,ze,AV.strip,AV.strip1])
 ·simp(disch:=omega) only[ir125,hk,go_sem]
  exact hQ _ _ _ _ nofun rfl (by simp[zd,ze,AV.strip,AV.strip1,hk])
def zm9 (s:SchD):Bool:=s.defs.all (zkT s)
theorem zxa (s:SchD) (hb:zI s≤Lim):zg Tryz.prog 55 [.agg (zl s)] (.bool (zm9 s)):=by
 have hl:=z7 hb
 have hx:=fun H=>zef s 125 [.view (zl s)] (zkT s) H hl (by kernel_rfl) fun d _=>zr1 (zvT s d hb) H
 rw[zm9]
 generalize s.defs.all (zkT s)=x1 at *
 obtain⟨sd,sq,sm⟩:=s
 simp only[zl] at hx ⊢
 refine zg.go ir55 ck55 (Al4 _) fun KP Q hQ=>?_
 simp(disch:=omega) only[ir55,go_sem]
 refine zY (hx _) ?_
 rintro _ _ ⟨_,rfl,rfl,rfl⟩
 simp(disch:=omega) only[ZU,go_sem]
 exact hQ _ _ _ _ nofun rfl rfl
mutual
def zda:SelD→List (List UInt8)→List (List UInt8)
 | .mk k al nm args dirs on sels,l=>yC sels (if k=1∧zL nm l=false then l++[nm] else l)
def yC:List SelD→List (List UInt8)→List (List UInt8)
 | [],l=>l
 | x::r,l=>yC r (zda x l)
end
mutual
theorem znN:∀(x:SelD) (l:List (List UInt8)),(zda x l).length≤l.length+bS x
 | .mk k al nm args dirs on sels,l=>by
  have:=zet sels (if k=1∧zL nm l=false then l++[nm] else l)
  have h2:(if k=1∧zL nm l=false then l++[nm] else l).length≤l.length+1:=by split<;>simp
  simp only[zda,bS];omega
theorem zet:∀(x:List SelD) (l:List (List UInt8)),(yC x l).length≤l.length+bSs x
 | [],l=>by simp[yC]
 | x::r,l=>by have:=znN x l;have:=zet r (zda x l);simp only[yC,bSs];omega
end
def zte (sels:List SelD):Prop:=∀(l:List (List UInt8)) (o:Own) (H:zb),l.length+bSs sels≤Lim→zK H o l.length 1→zae Tryz.prog 42 [.sl o 1 (cT l),.sl .no 7 (cSs sels)] H o 1 (cT (yC sels l))
theorem znH (sels:List SelD) (ih:∀ k al nm args dirs on xs,SelD.mk k al nm args dirs on xs∈sels→zte xs):zte sels:=by
 intro l o H hb ho
 have hb':l.length+bSs sels≤1099511627776:=by simpa only[Lim] using hb
 have h1:=ZI sels
 have hsl:=Z6 sels
 refine zi.goO ir42 ck42 (Al4 _) fun KP Q hQ hP=>?_
 simp(disch:=omega) only[ir42,h1,go_sem]
 refine zf sels 9 (fun x:Own×List (List UInt8)=>[(0,.sl x.1 1 (cT x.2))]) (fun done rest x H'=>yC rest x.2=yC sels l∧x.2.length+bSs rest≤l.length+bSs sels∧OwnS H o H' x.1 x.2.length 1) (o,l) (by simp(disch:=omega) only[go_sem]) ⟨rfl,Al4 _,OwnS.refl ho⟩ ?_ ?_
 ·rintro⟨o1,a⟩ H' J ⟨hn,_,hs2⟩ hlt
  simp only[yC] at hn
  simp(disch:=omega) only[h1,hlt,go_sem]
  refine hQ _ _ H' H' [.sl o1 1 (cT a)] nofun (by simp(disch:=omega) only[ir42,zG,Zk,go_sem]) (Low.refl _) ⟨o1,by rw[← hn];rfl,by rw[← hn,zD];exact hs2⟩
 ·rintro done x rest ⟨o1,a⟩ H' J hd hlt _ ⟨hn,hle,hs2⟩ hJ
  have hg:=Y4 hd
  have hmem:x∈sels:=by rw[hd];simp
  have hx:=znN x a
  simp only[yC,bSs] at hn hle
  replace hs2:OwnS H o H' o1 a.length 1:=hs2
  obtain⟨k,al,nm,args,dirs,on,xs⟩:=x
  have hxs:=ih _ _ _ _ _ _ _ hmem
  have e0:zda (.mk k al nm args dirs on xs) a=yC xs (if k=1∧zL nm a=false then a++[nm] else a):=by simp only[zda]
  have hbx:bSs xs+1≤bS (.mk k al nm args dirs on xs):=by simp only[bS];omega
  rw[yM] at hg
  have l1:=zD a
  have tail:∀(o2:Own) (a2:List (List UInt8)) (H2:zb),zda (.mk k al nm args dirs on xs) a=yC xs a2→a2.length≤a.length+1→OwnS H o H2 o2 a2.length 1→zae Tryz.prog 42 [.sl o2 1 (cT a2),.sl .no 7 (cSs xs)] H2 o2 1 (cT (yC xs a2)):=fun o2 a2 H2 e h h'=>hxs a2 o2 H2 (by simp only[Lim];omega) h'.own
  simp(disch:=omega) only[h1,hlt,hg,go_sem]
  refine zc fun b6 hb6=>?_
  have hsu:=hs2.upd (x:=.cells [.int .i64 k,.str al,.str nm,.sl .no 6 (cMs args),.sl .no 2 (cDs dirs),.str on,.sl .no 7 (cSs xs)]) hb6
  by_cases hk:k=1
  case neg =>
   rw[if_neg (fun h=>hk h.1)] at e0
   simp(disch:=omega) only[hk,go_sem]
   refine zB (tail o1 a _ e0 (by omega) hsu) fun o2 H2 hs3=>?_
   rw[zD] at hs3
   simp(disch:=omega) only[wrap64,go_sem]
   exact goJ (hJ (o2,yC xs a) H2 ⟨by rw[← hn,e0],by simp only;rw[e0] at hx;omega,hsu.trans hs3⟩) (by simp(disch:=omega) only[wrap64,go_sem])
  subst hk
  simp(disch:=omega) only[go_sem]
  refine za (zg.low (yE a nm (by simp only[Lim];omega))) ?_
  cases hh:zL nm a with
  | true =>
   rw[if_neg (fun h=>by rw[hh] at h;cases h.2)] at e0
   simp(disch:=omega) only[go_sem]
   refine zB (tail o1 a _ e0 (by omega) hsu) fun o2 H2 hs3=>?_
   rw[zD] at hs3
   simp(disch:=omega) only[wrap64,go_sem]
   exact goJ (hJ (o2,yC xs a) H2 ⟨by rw[← hn,e0],by simp only;rw[e0] at hx;omega,hsu.trans hs3⟩) (by simp(disch:=omega) only[wrap64,go_sem])
  | false =>
   rw[if_pos ⟨rfl,hh⟩] at e0
   simp(disch:=omega) only[go_sem]
   refine zp (by rw[l1];exact hsu.own) ?_ ?_ fun o' H3 hs4=>?_
   ·simp only[l1,Al2,Al3];omega
   ·simp only[l1,Al2,Al3,maxLen];omega
   have e1:cT a++[[AV.str nm]]=cT (a++[nm]):=by simp[cT]
   have hs5:=hsu.trans hs4
   simp only[l1,Al2,Al3] at hs5
   have h6:H3 b6=some (.cells [.int .i64 1,.str al,.str nm,.sl .no 6 (cMs args),.sl .no 2 (cDs dirs),.str on,.sl .no 7 (cSs xs)]):=hs4.kept b6 _ (upd_same ..) fun d e=>by
    have:=hs2.own
    rw[e] at this
    have h7:H' b6=some (.tip (d+a.length) 1):=this
    rw[hb6] at h7
    cases h7
   simp(disch:=omega) only[e1,h6,go_sem]
   refine zB (tail o' (a++[nm]) _ e0 (by simp) (by simpa using hs5)) fun o2 H2 hs3=>?_
   rw[zD] at hs3
   simp(disch:=omega) only[wrap64,go_sem]
   exact goJ (hJ (o2,yC xs (a++[nm])) H2 ⟨by rw[← hn,e0],by simp only;rw[e0] at hx;omega,(OwnS.trans (n:=a.length+1) (by simpa using hs5) hs3)⟩) (by simp(disch:=omega) only[wrap64,go_sem])
theorem zuG (sels:List SelD):zte sels:=by
 have h:∀ x:SelD,∀ k al nm args dirs on xs,x=.mk k al nm args dirs on xs→zte xs:=SelD.ind fun k al nm args dirs on sels ih=>by
  intro k' al' nm' args' dirs' on' xs e
  cases e
  exact znH sels fun k al nm args dirs on xs hm=>ih _ hm _ _ _ _ _ _ _ rfl
 exact znH sels fun k al nm args dirs on xs _=>h _ k al nm args dirs on xs rfl
def YL (n:List UInt8) (f:FragD):Bool:=decide (f.nm=n)
def zFr:FragD:=⟨[],[],[],[]⟩
def zw (d:DocD) (n:List UInt8):Option FragD:=d.frags.find? (YL n)
theorem Z7 (nm on:List UInt8) (dirs:List DirD) (sels:List SelD):cF ⟨nm,on,dirs,sels⟩=[.str nm,.str on,.sl .no 2 (cDs dirs),.sl .no 7 (cSs sels)]:=rfl
theorem zvI (f:FragD) (n:List UInt8):zg Tryz.prog 21 [.agg (cF f),.view [.str n]] (.bool (YL n f)):=by
 obtain⟨nm,on,ds,ss⟩:=f
 refine zg.go ir21 ck21 (Al4 _) fun KP Q hQ=>?_
 simp(disch:=omega) only[ir21,Z7,go_sem]
 exact hQ _ _ _ _ nofun rfl (by simp[zd,ze,AV.strip,AV.strip1,YL])
theorem zi3 (d:DocD) (n:List UInt8) (hl:d.frags.length≤Lim):zg Tryz.prog 8 [.agg (zP d),.str n] (.tup [.agg (cF ((zw d n).getD zFr)),.bool (zw d n).isSome]):=by
 have hlb:=hl
 simp only[Lim] at hlb
 have hx:=ztg cF (fun _=>rfl) d.frags 21 [.view [.str n]] (YL n) hl (by kernel_rfl) fun x _=>zvI x n
 have e0:zw d n=d.frags.find? (YL n):=rfl
 generalize zw d n=F at *
 obtain⟨ops,frags⟩:=d
 simp only[zP] at hx e0 ⊢
 have h6:=ZW frags
 refine zg.go ir8 ck8 (Al4 _) fun KP Q hQ=>?_
 have fin:∀ o,F=o→∀ ρ H vs,zG ρ H ir8.res=some vs→(zd vs).strip=.tup [.agg (cF (o.getD zFr)),.bool o.isSome]→Q .ret ρ H:=fun o e ρ H vs h1 h2=>hQ _ ρ H vs nofun h1 (by rw[h2,e])
 simp(disch:=omega) only[ir8,go_sem]
 refine zc fun b4 hb4=>?_
 simp(disch:=omega) only[go_sem]
 refine za hx ?_
 rcases zaw (YL n) frags 0 with ⟨a,x,r,h1,h2,h3,h4⟩|⟨h1,h2⟩
 ·rw[h4,Int.zero_add]
  rw[h3] at e0
  have hg:=Yl h1
  have h5:(a.length:Int)<frags.length:=by rw[h1,Al5,Al2];omega
  have h7:¬ ((a.length:Int)<0):=by omega
  obtain⟨nm,on,ds,ss⟩:=x
  rw[Z7] at hg
  simp(disch:=omega) only[hg,h6,h5,h7,go_sem]
  exact fin _ e0 _ _ [.agg (cF ⟨nm,on,ds,ss⟩),.bool true] (by simp(disch:=omega) only[ir8,zG,Zk,Z7,go_sem]) rfl
 ·rw[h2]
  rw[h1] at e0
  simp(disch:=omega) only[go_sem]
  exact fin _ e0 _ _ [.agg [.str [],.str [],.sl .nil 2 [],.sl .nil 7 []],.bool false] (by simp(disch:=omega) only[ir8,zG,Zk,go_sem]) rfl
mutual
def zoC:SelD→List (List UInt8)
 | .mk _ _ nm _ _ _ sels=>nm::zaq sels
def zaq:List SelD→List (List UInt8)
 | []=>[]
 | x::r=>zoC x++zaq r
end
mutual
theorem zsN:∀ x:SelD,(zoC x).length≤bS x
 | .mk _ _ nm _ _ _ sels=>by have:=zfh sels;simp only[zoC,bS,Al2];omega
theorem zfh:∀ l:List SelD,(zaq l).length≤bSs l
 | []=>by simp[zaq]
 | x::r=>by have:=zsN x;have:=zfh r;simp only[zaq,bSs,Al5];omega
end
def OkN (U l:List (List UInt8)):Prop:=l.Nodup∧∀ x∈l,x∈U
theorem zso {U l:List (List UInt8)} {x:List UInt8} (h:OkN U l) (hx:zL x l=false) (hm:x∈U):OkN U (l++[x]):=by
 have hx':x ∉ l:=fun h=>by rw[(y7 x l).2 h] at hx;cases hx
 refine⟨List.nodup_append.2 ⟨h.1,by simp,fun a ha b hb e=>?_⟩,fun y hy=>?_⟩
 ·simp only[List.mem_singleton] at hb
  subst hb;subst e;exact hx' ha
 ·rcases List.mem_append.1 hy with h1|h1
  ·exact h.2 y h1
  ·simp only[List.mem_singleton] at h1
   subst h1;exact hm
theorem zgz {U l:List (List UInt8)} (h:OkN U l):l.length≤U.length:=List.Nodup.length_le_of_subset h.1 (fun x hx=>h.2 x hx)
mutual
theorem zsy {U:List (List UInt8)}:∀(x:SelD) (l:List (List UInt8)),(∀ y∈zoC x,y∈U)→OkN U l→OkN U (zda x l)
 | .mk k al nm args dirs on sels,l,hU,h=>by
  simp only[zda]
  refine Yt sels _ (fun y hy=>hU y (by simp[zoC,hy])) ?_
  split
  ·rename_i hc;exact zso h hc.2 (hU nm (by simp[zoC]))
  ·exact h
theorem Yt {U:List (List UInt8)}:∀(x:List SelD) (l:List (List UInt8)),(∀ y∈zaq x,y∈U)→OkN U l→OkN U (yC x l)
 | [],l,_,h=>by simpa[yC] using h
 | x::r,l,hU,h=>by
  simp only[yC]
  exact Yt r _ (fun y hy=>hU y (by simp[zaq,hy])) (zsy x l (fun y hy=>hU y (by simp[zaq,hy])) h)
end
mutual
theorem ztW:∀(x:SelD) (l:List (List UInt8)),l.length≤(zda x l).length
 | .mk k al nm args dirs on sels,l=>by
  have:=zhI sels (if k=1∧zL nm l=false then l++[nm] else l)
  have h2:l.length≤(if k=1∧zL nm l=false then l++[nm] else l).length:=by split<;>simp
  simp only[zda];omega
theorem zhI:∀(x:List SelD) (l:List (List UInt8)),l.length≤(yC x l).length
 | [],l=>by simp[yC]
 | x::r,l=>by have:=ztW x l;have:=zhI r (zda x l);simp only[yC];omega
end
def zcV (d:DocD) (sels:List SelD):List (List UInt8):=zaq sels++d.frags.flatMap fun f=>zaq f.sels
theorem zai (f:FragD):bSs f.sels≤bF f:=by simp only[bF];omega
theorem zlG:∀ l:List FragD,(l.flatMap fun f=>zaq f.sels).length≤bFs l
 | []=>by simp
 | f::l=>by
  have h1:=zlG l
  have h2:=zfh f.sels
  have h3:=zai f
  have e:bFs (f::l)=bF f+bFs l:=by simp[bFs]
  rw[List.flatMap_cons,Al5,e]
  omega
theorem zgw (d:DocD) (sels:List SelD):(zcV d sels).length≤bSs sels+bFs d.frags:=by
 have h1:=zfh sels
 have h2:=zlG d.frags
 simp only[zcV,Al5]
 omega
def yO (d:DocD):Nat→List (List UInt8)→Nat→List (List UInt8)
 | 0,l,_=>l
 | k+1,l,i=>match l[i]? with
  | none=>l
  | some x=>yO d k (match zw d x with|none=>l|some f=>yC f.sels l) (i+1)
def zT (d:DocD) (sels:List SelD):List (List UInt8):=yO d (bSs sels+bFs d.frags+1) (yC sels []) 0
theorem zaY {f:FragD}:∀ {l:List FragD},f∈l→bF f≤bFs l
 | x::l,h=>by
  rcases List.mem_cons.1 h with rfl|h
  ·simp only[bFs,List.map_cons,List.sum_cons];omega
  ·have:=zaY h;simp only[bFs,List.map_cons,List.sum_cons] at this ⊢;omega
theorem ziR {d:DocD} {U:List (List UInt8)} (hU:∀ f∈d.frags,∀ y∈zaq f.sels,y∈U):∀(k:Nat) (l:List (List UInt8)) (i:Nat),OkN U l→OkN U (yO d k l i)
 | 0,l,i,h=>by simpa[yO] using h
 | k+1,l,i,h=>by
  simp only[yO]
  cases l[i]? with
  | none=>exact h
  | some x =>
   simp only
   refine ziR hU k _ _ ?_
   cases hf:zw d x with
   | none=>exact h
   | some f=>exact Yt f.sels l (hU f (List.mem_of_find?_eq_some hf)) h
theorem zgL (d:DocD) (sels:List SelD) (H:zb) (hb:2*(bSs sels+bFs d.frags)≤Lim):zae Tryz.prog 23 [.agg (zP d),.sl .no 7 (cSs sels)] H .nil 1 (cT (zT d sels)):=by
 have hb':2*(bSs sels+bFs d.frags)≤1099511627776:=by simpa only[Lim] using hb
 have hfl:=yx d.frags
 have hF:=fun n=>zi3 d n (by simp only[Lim];omega)
 have hU0:∀ f∈d.frags,∀ y∈zaq f.sels,y∈zcV d sels:=fun f hf y hy=>by
  simp only[zcV,List.mem_append,List.mem_flatMap];exact .inr ⟨f,hf,hy⟩
 have hB:=zgw d sels
 have ok0:OkN (zcV d sels) (yC sels []):=Yt sels [] (fun y hy=>by simp[zcV,hy]) ⟨List.nodup_nil,by simp⟩
 generalize hUe:zcV d sels=U at *
 have e0:zT d sels=yO d (bSs sels+bFs d.frags+1) (yC sels []) 0:=rfl
 generalize hBe:bSs sels+bFs d.frags=B at *
 generalize zT d sels=F at *
 have hmem:=fun n f (h:zw d n=some f)=>(show f∈d.frags from List.mem_of_find?_eq_some h)
 have hfb:=fun f (h:f∈d.frags)=>Nat.le_trans (zai f) (zaY h)
 have hS1:=zuG sels [] .nil H (by simp only[Al3,Lim];omega) rfl
 have hcd:zP d=[.sl .no 5 (cOs d.ops),.sl .no 4 (cFs d.frags)]:=rfl
 simp only[hcd] at hF ⊢
 refine zi.goO ir23 ck23 (Al4 _) fun KP Q hQ hP=>?_
 simp(disch:=omega) only[ir23,go_sem]
 have hnil:cT []=[]:=rfl
 rw[hnil] at hS1
 refine zB hS1 fun o0 H0 hs0=>?_
 rw[zD] at hs0
 simp(disch:=omega) only[go_sem]
 refine zcZ (fun x:Own×List (List UInt8)×Nat=>[(5,.sl x.1 1 (cT x.2.1)),(6,.int .i64 x.2.2)]) (fun x H'=>OwnS H .nil H' x.1 x.2.1.length 1∧OkN U x.2.1∧x.2.2≤x.2.1.length∧yO d (B+1-x.2.2) x.2.1 x.2.2=F) (fun x=>B+1-x.2.2) (o0,yC sels [],0) (by simp(disch:=omega) only[go_sem]) ⟨hs0,ok0,Nat.zero_le _,e0.symm⟩ ?_
 rintro⟨o,l,i⟩ H1 J ⟨ho,hk,hi,hr⟩ hJ
 replace ho:OwnS H .nil H1 o l.length 1:=ho
 simp only at hk hi hr
 have hlen:=zgz hk
 have l1:=zD l
 have ek:B+1-i=(B-i)+1:=by omega
 rw[ek] at hr
 by_cases hil:i<l.length
 case neg =>
  have hg:l[i]?=none:=List.getElem?_eq_none (by omega)
  have hlt:(l.length:Int)≤i:=by omega
  simp only[yO,hg] at hr
  simp(disch:=omega) only[l1,hlt,go_sem]
  refine hQ _ _ H1 H1 [.sl o 1 (cT l)] nofun (by simp(disch:=omega) only[ir23,zG,Zk,go_sem]) (Low.refl _) ⟨o,by rw[← hr];rfl,by rw[← hr,zD];exact ho⟩
 obtain⟨a,x,r,hlx,hai⟩:∃ a x r,l=a++x::r∧a.length=i:=⟨l.take i,l[i],l.drop (i+1),by rw[List.getElem_cons_drop,List.take_append_drop],by rw[List.length_take];omega⟩
 subst hai
 have hgx:l[a.length]?=some x:=by rw[hlx];simp
 have hgt:(cT l).getD a.length []=[.str x]:=Yr hlx
 have hlt:(a.length:Int)<l.length:=by omega
 have hge:¬ ((l.length:Int)≤a.length):=by omega
 have hFx:=hF x
 simp only[yO,hgx] at hr
 simp(disch:=omega) only[l1,hlt,hge,hgt,go_sem]
 refine za hFx ?_
 cases hfe:zw d x with
 | none =>
  rw[hfe] at hr
  simp(disch:=omega) only[Option.getD,Option.isSome,zFr,Z7,go_sem]
  refine zc fun b7 hb7=>?_
  simp(disch:=omega) only[go_sem]
  exact goJ (hJ (o,l,a.length+1) _ (by simp only;omega) ⟨ho.upd hb7,hk,by simp only;omega,by simp only;rw[← hr];congr 1;omega⟩) (by simp(disch:=omega) only[wrap64,go_sem];simp)
 | some f =>
  rw[hfe] at hr
  have hfm:=hmem x f hfe
  have hfs:=hfb f hfm
  have hok2:=Yt f.sels l (hU0 f hfm) hk
  have hl2:=zet f.sels l
  have hS2:=fun H2 (h:zK H2 o l.length 1)=>zuG f.sels l o H2 (by simp only[Lim];omega) h
  have hge2:l.length≤(yC f.sels l).length:=zhI f.sels l
  obtain⟨fn,fo,fd,fs⟩:=f
  simp only at hS2 hok2 hl2 hr hge2
  simp(disch:=omega) only[Option.getD,Option.isSome,Z7,go_sem]
  refine zc fun b7 hb7=>?_
  simp(disch:=omega) only[go_sem]
  refine zB (hS2 _ (ho.own.upd hb7)) fun o2 H2 hs2=>?_
  rw[zD] at hs2
  simp(disch:=omega) only[go_sem]
  exact goJ (hJ (o2,yC fs l,a.length+1) H2 (by simp only;omega) ⟨(ho.upd hb7).trans hs2,hok2,by simp only;omega,by simp only;rw[← hr];congr 1;omega⟩) (by simp(disch:=omega) only[wrap64,go_sem];simp)
theorem zap (k:Int) (nm:List UInt8) (vars:List VarD) (dirs:List DirD) (sels:List SelD):cO ⟨k,nm,vars,dirs,sels⟩=[.int .i64 k,.str nm,.sl .no 10 (cWs vars),.sl .no 2 (cDs dirs),.sl .no 7 (cSs sels)]:=rfl
def cLL (l:List (List SelD)):List (List AV):=l.map fun x=>[.sl .no 7 (cSs x)]
theorem zj0 (l:List (List SelD)):(cLL l).length=l.length:=by simp[cLL]
def lenD (d:DocD):Nat:=d.ops.length+d.frags.length
def zJ (d:DocD):List (List SelD):=d.ops.map (·.sels)++d.frags.map (·.sels)
theorem zpA (d:DocD) (H:zb) (hb:zq d≤Lim):zae Tryz.prog 136 [.agg (zP d)] H .nil 1 (cLL (zJ d)):=by
 obtain⟨ops,frags⟩:=d
 have hb':bOs ops+bFs frags≤1099511627776:=by simpa only[Lim,zq] using hb
 have l1:=Z8 ops
 have l2:=ZW frags
 have m1:=y9 ops
 have m2:=yx frags
 rw[show zP ⟨ops,frags⟩=[.sl .no 5 (cOs ops),.sl .no 4 (cFs frags)] from rfl]
 refine zi.goO ir136 ck136 (Al4 _) fun KP Q hQ hP=>?_
 simp(disch:=omega) only[ir136,l1,go_sem]
 refine zf ops 11 (fun x:Own×List (List SelD)=>[(3,.sl x.1 1 (cLL x.2))]) (fun done rest x H'=>x.2=done.map (·.sels)∧OwnS H .nil H' x.1 done.length 1) (.nil,[]) (by simp(disch:=omega) only[cLL,List.map,go_sem]) ⟨rfl,OwnS.refl (o:=.nil) (n:=0) rfl⟩ ?_ ?_
 ·rintro⟨o1,a⟩ H1 J ⟨hn,hs⟩ hlt
  simp only at hn
  subst hn
  replace hs:OwnS H .nil H1 o1 ops.length 1:=hs
  simp(disch:=omega) only[l1,hlt,l2,go_sem]
  refine zf frags 24 (fun x:Own×List (List SelD)=>[(3,.sl x.1 1 (cLL x.2))]) (fun done rest x H'=>x.2=ops.map (·.sels)++done.map (·.sels)∧OwnS H .nil H' x.1 (ops.length+done.length) 1) (o1,ops.map (·.sels)) (by simp(disch:=omega) only[go_sem]) ⟨by simp,hs⟩ ?_ ?_
  ·rintro⟨o2,a⟩ H2 J ⟨hn,hs⟩ hlt
   simp only at hn
   subst hn
   simp(disch:=omega) only[l2,hlt,go_sem]
   refine hQ _ _ H2 H2 [.sl o2 1 (cLL (zJ ⟨ops,frags⟩))] nofun (by simp(disch:=omega) only[ir136,zG,Zk,zJ,go_sem]) (Low.refl _) ⟨o2,rfl,by rw[zj0];simpa[zJ] using hs⟩
  ·rintro done x rest ⟨o2,a⟩ H2 J hd hlt _ ⟨hn,hs⟩ hJ
   have hg:=Yl hd
   simp only at hn
   subst hn
   have h3:=zj0 (ops.map (·.sels)++done.map (·.sels))
   simp only[Al5,List.length_map] at h3
   replace hs:OwnS H .nil H2 o2 (ops.length+done.length) 1:=hs
   obtain⟨nm,on,ds,ss⟩:=x
   rw[Z7] at hg
   simp(disch:=omega) only[l2,hlt,hg,go_sem]
   refine zc fun b7 hb7=>?_
   have hsu:=hs.upd (x:=.cells [.str nm,.str on,.sl .no 2 (cDs ds),.sl .no 7 (cSs ss)]) hb7
   simp(disch:=omega) only[go_sem]
   refine zp (by rw[h3];exact hsu.own) ?_ ?_ fun o' H3 hs2=>?_
   ·simp only[h3,Al2,Al3];omega
   ·simp only[h3,Al2,Al3,maxLen];omega
   have e1:cLL (ops.map (·.sels)++done.map (·.sels))++[[AV.sl .no 7 (cSs ss)]]=cLL (ops.map (·.sels)++(done.map (·.sels)++[ss])):=by simp[cLL]
   have hs3:=hsu.trans hs2
   simp only[h3,Al2,Al3] at hs3
   simp(disch:=omega) only[wrap64,e1,go_sem]
   exact goJ (hJ (o',ops.map (·.sels)++(done.map (·.sels)++[ss])) H3 ⟨by simp,by simpa[Nat.add_assoc] using hs3⟩) (by simp(disch:=omega) only[wrap64,go_sem])
 ·rintro done x rest ⟨o1,a⟩ H1 J hd hlt _ ⟨hn,hs⟩ hJ
  have hg:=Yk hd
  simp only at hn
  subst hn
  have h3:=zj0 (done.map (·.sels))
  simp only[List.length_map] at h3
  replace hs:OwnS H .nil H1 o1 done.length 1:=hs
  obtain⟨k,nm,vs,ds,ss⟩:=x
  rw[zap] at hg
  simp(disch:=omega) only[l1,hlt,hg,go_sem]
  refine zc fun b5 hb5=>?_
  have hsu:=hs.upd (x:=.cells [.int .i64 k,.str nm,.sl .no 10 (cWs vs),.sl .no 2 (cDs ds),.sl .no 7 (cSs ss)]) hb5
  simp(disch:=omega) only[go_sem]
  refine zp (by rw[h3];exact hsu.own) ?_ ?_ fun o' H3 hs2=>?_
  ·simp only[h3,Al2,Al3];omega
  ·simp only[h3,Al2,Al3,maxLen];omega
  have e1:cLL (done.map (·.sels))++[[AV.sl .no 7 (cSs ss)]]=cLL (done.map (·.sels)++[ss]):=by simp[cLL]
  have hs3:=hsu.trans hs2
  simp only[h3,Al2,Al3] at hs3
  simp(disch:=omega) only[wrap64,e1,go_sem]
  exact goJ (hJ (o',done.map (·.sels)++[ss]) H3 ⟨by simp,by simpa using hs3⟩) (by simp(disch:=omega) only[wrap64,go_sem])
theorem zqj (l:List (List UInt8)) (hl:l.length≤Lim):zg Tryz.prog 57 [.sl .no 1 (cT l)] (.bool (!zan l)):=by
 refine zg.go ir57 ck57 (Al4 _) fun KP Q hQ=>?_
 have h1:=zD l
 simp only[Lim] at hl
 simp(disch:=omega) only[ir57,h1,go_sem]
 refine zf l 7 (fun _:Unit=>[]) (fun done rest _ H=>zc7 done rest=zan l) () (by simp(disch:=omega) only[go_sem]) rfl ?_ ?_
 ·rintro _ H J hn hlt
  simp(disch:=omega) only[h1,hlt,go_sem]
  exact hQ _ _ _ _ nofun rfl (by simp[zd,ze,AV.strip,AV.strip1,← hn,zc7])
 ·rintro done x rest _ H J hd hlt _ hn hJ
  have hg:=Yr hd
  have htk:(cT l).take done.length=cT done:=by rw[hd];simp[cT]
  have hle:(done.length:Int)≤l.length:=by omega
  have hdl:done.length≤Lim:=by simp only[Lim];omega
  simp only[zc7] at hn
  simp(disch:=omega) only[h1,hlt,hg,htk,hle,go_sem]
  refine za (yE done x hdl) ?_
  cases hh:zL x done with
  | true =>
   rw[hh] at hn
   simp(disch:=omega) only[go_sem]
   exact hQ _ _ _ _ nofun rfl (by simp[zd,ze,AV.strip,AV.strip1,← hn])
  | false =>
   rw[hh] at hn
   simp(disch:=omega) only[go_sem]
   exact goJ (hJ () _ (by simpa using hn)) (by simp(disch:=omega) only[wrap64,go_sem])
theorem zxT (d:DocD) (H:zb) (hb:zq d≤Lim):zae Tryz.prog 59 [.agg (zP d)] H .nil 1 (cT (d.ops.map (·.nm))):=by
 obtain⟨ops,frags⟩:=d
 have hb':bOs ops+bFs frags≤1099511627776:=by simpa only[Lim,zq] using hb
 have l1:=Z8 ops
 have m1:=y9 ops
 have m2:=yx frags
 rw[show zP ⟨ops,frags⟩=[.sl .no 5 (cOs ops),.sl .no 4 (cFs frags)] from rfl]
 simp only
 refine zi.goO ir59 ck59 (Al4 _) fun KP Q hQ hP=>?_
 simp(disch:=omega) only[ir59,l1,go_sem]
 refine zf ops 9 (fun x:Own×List (List UInt8)=>[(3,.sl x.1 1 (cT x.2))]) (fun done rest x H'=>x.2=(done.map (·.nm))∧x.2.length≤done.length∧OwnS H .nil H' x.1 x.2.length 1) (.nil,[]) (by simp(disch:=omega) only[cT,List.map,go_sem]) ⟨rfl,Al4 _,OwnS.refl (o:=.nil) (n:=0) rfl⟩ ?_ ?_
 ·rintro⟨o1,a⟩ H1 J ⟨hn,hle,hs⟩ hlt
  simp only at hn
  subst hn
  simp(disch:=omega) only[l1,hlt,go_sem]
  refine hQ _ _ H1 H1 [.sl o1 1 (cT (ops.map (·.nm)))] nofun (by simp(disch:=omega) only[ir59,zG,Zk,go_sem]) (Low.refl _) ⟨o1,rfl,by rw[zD];exact hs⟩
 ·rintro done x rest ⟨o1,a⟩ H1 J hd hlt _ ⟨hn,hle,hs⟩ hJ
  have hg:=Yk hd
  simp only at hn hle
  replace hs:OwnS H .nil H1 o1 a.length 1:=hs
  have h3:=zD a
  obtain⟨k,nm,vs,ds,ss⟩:=x
  rw[zap] at hg
  simp(disch:=omega) only[l1,hlt,hg,go_sem]
  refine zc fun b5 hb5=>?_
  have hsu:=hs.upd (x:=.cells [.int .i64 k,.str nm,.sl .no 10 (cWs vs),.sl .no 2 (cDs ds),.sl .no 7 (cSs ss)]) hb5
  simp(disch:=omega) only[go_sem]
  refine zp (by rw[h3];exact hsu.own) ?_ ?_ fun o' H3 hs2=>?_
  ·simp only[h3,Al2,Al3];omega
  ·simp only[h3,Al2,Al3,maxLen];omega
  have e1:cT a++[[AV.str nm]]=cT (a++[nm]):=by simp[cT]
  have hs3:=hsu.trans hs2
  simp only[h3,Al2,Al3] at hs3
  simp(disch:=omega) only[wrap64,e1,go_sem]
  exact goJ (hJ (o',a++[nm]) H3 ⟨by rw[hn];simp,by simp only[Al5,Al2,Al3];omega,by simpa using hs3⟩) (by simp(disch:=omega) only[wrap64,go_sem])
theorem zvu (d:DocD) (H:zb) (hb:zq d≤Lim):zae Tryz.prog 62 [.agg (zP d)] H .nil 1 (cT (d.frags.map (·.nm))):=by
 obtain⟨ops,frags⟩:=d
 have hb':bOs ops+bFs frags≤1099511627776:=by simpa only[Lim,zq] using hb
 have l1:=ZW frags
 have m1:=y9 ops
 have m2:=yx frags
 rw[show zP ⟨ops,frags⟩=[.sl .no 5 (cOs ops),.sl .no 4 (cFs frags)] from rfl]
 simp only
 refine zi.goO ir62 ck62 (Al4 _) fun KP Q hQ hP=>?_
 simp(disch:=omega) only[ir62,l1,go_sem]
 refine zf frags 9 (fun x:Own×List (List UInt8)=>[(3,.sl x.1 1 (cT x.2))]) (fun done rest x H'=>x.2=(done.map (·.nm))∧x.2.length≤done.length∧OwnS H .nil H' x.1 x.2.length 1) (.nil,[]) (by simp(disch:=omega) only[cT,List.map,go_sem]) ⟨rfl,Al4 _,OwnS.refl (o:=.nil) (n:=0) rfl⟩ ?_ ?_
 ·rintro⟨o1,a⟩ H1 J ⟨hn,hle,hs⟩ hlt
  simp only at hn
  subst hn
  simp(disch:=omega) only[l1,hlt,go_sem]
  refine hQ _ _ H1 H1 [.sl o1 1 (cT (frags.map (·.nm)))] nofun (by simp(disch:=omega) only[ir62,zG,Zk,go_sem]) (Low.refl _) ⟨o1,rfl,by rw[zD];exact hs⟩
 ·rintro done x rest ⟨o1,a⟩ H1 J hd hlt _ ⟨hn,hle,hs⟩ hJ
  have hg:=Yl hd
  simp only at hn hle
  replace hs:OwnS H .nil H1 o1 a.length 1:=hs
  have h3:=zD a
  obtain⟨nm,on,ds,ss⟩:=x
  rw[Z7] at hg
  simp(disch:=omega) only[l1,hlt,hg,go_sem]
  refine zc fun b5 hb5=>?_
  have hsu:=hs.upd (x:=.cells [.str nm,.str on,.sl .no 2 (cDs ds),.sl .no 7 (cSs ss)]) hb5
  simp(disch:=omega) only[go_sem]
  refine zp (by rw[h3];exact hsu.own) ?_ ?_ fun o' H3 hs2=>?_
  ·simp only[h3,Al2,Al3];omega
  ·simp only[h3,Al2,Al3,maxLen];omega
  have e1:cT a++[[AV.str nm]]=cT (a++[nm]):=by simp[cT]
  have hs3:=hsu.trans hs2
  simp only[h3,Al2,Al3] at hs3
  simp(disch:=omega) only[wrap64,e1,go_sem]
  exact goJ (hJ (o',a++[nm]) H3 ⟨by rw[hn];simp,by simp only[Al5,Al2,Al3];omega,by simpa using hs3⟩) (by simp(disch:=omega) only[wrap64,go_sem])
theorem zvd (d:DocD) (H:zb) (hb:zq d≤Lim):zae Tryz.prog 58 [.agg (zP d)] H .nil 1 (cT ((d.ops.map (·.nm)).filter (fun n=>!decide (n=[])))):=by
 obtain⟨ops,frags⟩:=d
 have hb':bOs ops+bFs frags≤1099511627776:=by simpa only[Lim,zq] using hb
 have l1:=Z8 ops
 have m1:=y9 ops
 have m2:=yx frags
 rw[show zP ⟨ops,frags⟩=[.sl .no 5 (cOs ops),.sl .no 4 (cFs frags)] from rfl]
 simp only
 refine zi.goO ir58 ck58 (Al4 _) fun KP Q hQ hP=>?_
 simp(disch:=omega) only[ir58,l1,go_sem]
 refine zf ops 9 (fun x:Own×List (List UInt8)=>[(3,.sl x.1 1 (cT x.2))]) (fun done rest x H'=>x.2=((done.map (·.nm)).filter (fun n=>!decide (n=[])))∧x.2.length≤done.length∧OwnS H .nil H' x.1 x.2.length 1) (.nil,[]) (by simp(disch:=omega) only[cT,List.map,go_sem]) ⟨rfl,Al4 _,OwnS.refl (o:=.nil) (n:=0) rfl⟩ ?_ ?_
 ·rintro⟨o1,a⟩ H1 J ⟨hn,hle,hs⟩ hlt
  simp only at hn
  subst hn
  simp(disch:=omega) only[l1,hlt,go_sem]
  refine hQ _ _ H1 H1 [.sl o1 1 (cT ((ops.map (·.nm)).filter (fun n=>!decide (n=[]))))] nofun (by simp(disch:=omega) only[ir58,zG,Zk,go_sem]) (Low.refl _) ⟨o1,rfl,by rw[zD];exact hs⟩
 ·rintro done x rest ⟨o1,a⟩ H1 J hd hlt _ ⟨hn,hle,hs⟩ hJ
  have hg:=Yk hd
  simp only at hn hle
  replace hs:OwnS H .nil H1 o1 a.length 1:=hs
  have h3:=zD a
  obtain⟨k,nm,vs,ds,ss⟩:=x
  rw[zap] at hg
  simp(disch:=omega) only[l1,hlt,hg,go_sem]
  refine zc fun b5 hb5=>?_
  have hsu:=hs.upd (x:=.cells [.int .i64 k,.str nm,.sl .no 10 (cWs vs),.sl .no 2 (cDs ds),.sl .no 7 (cSs ss)]) hb5
  by_cases hz:nm=[]
  ·subst hz
   simp(disch:=omega) only[go_sem]
   exact goJ (hJ (o1,a) _ ⟨by rw[hn];simp,by simp only[Al5,Al2,Al3];omega,hsu⟩) (by simp(disch:=omega) only[wrap64,go_sem])
  simp(disch:=omega) only[hz,go_sem]
  refine zp (by rw[h3];exact hsu.own) ?_ ?_ fun o' H3 hs2=>?_
  ·simp only[h3,Al2,Al3];omega
  ·simp only[h3,Al2,Al3,maxLen];omega
  have e1:cT a++[[AV.str nm]]=cT (a++[nm]):=by simp[cT]
  have hs3:=hsu.trans hs2
  simp only[h3,Al2,Al3] at hs3
  simp(disch:=omega) only[wrap64,e1,go_sem]
  exact goJ (hJ (o',a++[nm]) H3 ⟨by rw[hn];simp[hz],by simp only[Al5,Al2,Al3];omega,by simpa using hs3⟩) (by simp(disch:=omega) only[wrap64,go_sem])
mutual
def zkr (s:SchD):SelD→Bool
 | .mk k _ _ _ _ on sels=>(decide (k=2)&&(!decide (on=[])&&!ZC s on))||!za1 s sels
def za1 (s:SchD):List SelD→Bool
 | []=>true
 | x::r=>!zkr s x&&za1 s r
end
theorem zil (s:SchD):∀ l,(!l.any (zkr s))=za1 s l
 | []=>rfl
 | x::r=>by rw[List.any_cons,za1,← zil s r];cases zkr s x<;>simp
def zrP (s:SchD) (sels:List SelD):Prop:=bSs sels≤Lim→zg Tryz.prog 138 [.agg (zl s),.sl .no 7 (cSs sels)] (.bool (za1 s sels))
theorem zwX (s:SchD) (x:SelD) (hl:s.defs.length≤Lim) (hb:bS x≤Lim) (ih:∀ k al nm args dirs on xs,x=.mk k al nm args dirs on xs→zrP s xs):zg Tryz.prog 195 [.agg (cS x),.view (zl s)] (.bool (zkr s x)):=by
 obtain⟨k,al,nm,args,dirs,on,xs⟩:=x
 have h1:=zhV s on hl
 have h2:=ih k al nm args dirs on xs rfl (by simp only[bS] at hb;omega)
 simp only[zkr]
 generalize ZC s on=x1 at *
 generalize za1 s xs=x2 at *
 obtain⟨sd,sq,sm⟩:=s
 simp only[zl] at h1 h2 ⊢
 refine zg.go ir195 ck195 (Al4 _) fun KP Q hQ=>?_
 by_cases hk:k=2
 case neg =>
  simp(disch:=omega) only[ir195,yM,hk,go_sem]
  refine za h2 ?_
  simp(disch:=omega) only[go_sem]
  exact hQ _ _ _ _ nofun rfl (by simp[zd,ze,AV.strip,AV.strip1,hk])
 subst hk
 by_cases ho:on=[]
 ·have ho':=eq_true ho
  simp(disch:=omega) only[ir195,yM,ho',go_sem]
  refine za h2 ?_
  simp(disch:=omega) only[go_sem]
  exact hQ _ _ _ _ nofun rfl (by simp[zd,ze,AV.strip,AV.strip1,ho])
 simp(disch:=omega) only[ir195,yM,ho,go_sem]
 refine za h1 ?_
 cases x1 with
 | false =>
  simp(disch:=omega) only[go_sem]
  exact hQ _ _ _ _ nofun rfl (by simp[zd,ze,AV.strip,AV.strip1,ho])
 | true =>
  simp(disch:=omega) only[go_sem]
  refine za h2 ?_
  simp(disch:=omega) only[go_sem]
  exact hQ _ _ _ _ nofun rfl (by simp[zd,ze,AV.strip,AV.strip1,ho])
theorem znO {x:SelD} {l:List SelD} (h:x∈l):bS x≤bSs l:=by
 obtain⟨a,b,hd⟩:=List.append_of_mem h
 have:=zaH a x b
 rw[← hd] at this
 omega
theorem znm (s:SchD) (hl:s.defs.length≤Lim) (sels:List SelD) (ih:∀ k al nm args dirs on xs,SelD.mk k al nm args dirs on xs∈sels→zrP s xs):zrP s sels:=by
 intro hb
 have hsl:=Z6 sels
 have hx:=zvX cS zu3 sels 195 [.view (zl s)] (zkr s) (by omega) (by kernel_rfl) fun x hx=>zwX s x hl (by have:=znO hx;omega) fun k al nm args dirs on xs e=>ih k al nm args dirs on xs (e▸hx)
 rw[← zaD] at hx
 rw[← zil]
 generalize sels.any (zkr s)=x1 at *
 obtain⟨sd,sq,sm⟩:=s
 simp only[zl] at hx ⊢
 refine zg.go ir138 ck138 (Al4 _) fun KP Q hQ=>?_
 simp(disch:=omega) only[ir138,go_sem]
 refine za hx ?_
 simp(disch:=omega) only[go_sem]
 exact hQ _ _ _ _ nofun rfl (by simp[zd,ze,AV.strip,AV.strip1])
theorem zxF (s:SchD) (hl:s.defs.length≤Lim) (sels:List SelD):zrP s sels:=by
 have h:∀ x:SelD,∀ k al nm args dirs on xs,x=.mk k al nm args dirs on xs→zrP s xs:=SelD.ind fun k al nm args dirs on sels ih=>by
  intro k' al' nm' args' dirs' on' xs e
  cases e
  exact znm s hl sels fun k al nm args dirs on xs hm=>ih _ hm _ _ _ _ _ _ _ rfl
 exact znm s hl sels fun k al nm args dirs on xs _=>h _ k al nm args dirs on xs rfl
theorem zxu (s:SchD) (f:FragD) (hl:s.defs.length≤Lim):zg Tryz.prog 134 [.agg (cF f),.view (zl s)] (.bool (!ZC s f.on)):=by
 have h1:=zhV s f.on hl
 obtain⟨nm,on,ds,ss⟩:=f
 simp only at h1 ⊢
 generalize ZC s on=x1 at *
 obtain⟨sd,sq,sm⟩:=s
 simp only[zl] at h1 ⊢
 refine zg.go ir134 ck134 (Al4 _) fun KP Q hQ=>?_
 simp(disch:=omega) only[ir134,Z7,go_sem]
 refine za h1 ?_
 simp(disch:=omega) only[go_sem]
 exact hQ _ _ _ _ nofun rfl (by simp[zd,ze,AV.strip,AV.strip1])
theorem zxw (s:SchD) (l:List SelD) (hl:s.defs.length≤Lim) (hb:bSs l≤Lim):zg Tryz.prog 137 [.sl .no 7 (cSs l),.view (zl s)] (.bool (!za1 s l)):=by
 have h1:=zxF s hl l hb
 generalize za1 s l=x1 at *
 obtain⟨sd,sq,sm⟩:=s
 simp only[zl] at h1 ⊢
 refine zg.go ir137 ck137 (Al4 _) fun KP Q hQ=>?_
 simp(disch:=omega) only[ir137,go_sem]
 refine za h1 ?_
 simp(disch:=omega) only[go_sem]
 exact hQ _ _ _ _ nofun rfl (by simp[zd,ze,AV.strip,AV.strip1])
def onM (s:SchD) (d:DocD):Bool:=!(d.frags.any fun f=>!ZC s f.on)&&!((zJ d).any fun l=>!za1 s l)
theorem zbj {d:DocD} {l:List SelD} (h:l∈zJ d):bSs l≤zq d:=by
 simp only[zJ,List.mem_append,List.mem_map] at h
 rcases h with ⟨o,ho,rfl⟩|⟨f,hf,rfl⟩
 ·obtain⟨a,b,hd⟩:=List.append_of_mem ho
  have:=YE a o b
  rw[← hd] at this
  simp only[bO,zq] at this ⊢;omega
 ·have:=zaY hf
  have:=zai f
  simp only[zq];omega
theorem zh7 (d:DocD):(zJ d).length≤zq d:=by
 have:=y9 d.ops
 have:=yx d.frags
 simp only[zJ,Al5,List.length_map,zq];omega
theorem onC (s:SchD) (d:DocD) (hl:s.defs.length≤Lim) (hb:zq d≤Lim):zg Tryz.prog 63 [.agg (zl s),.agg (zP d)] (.bool (onM s d)):=by
 have hfl:=yx d.frags
 have hbd:bOs d.ops+bFs d.frags≤Lim:=hb
 have h1:=zm4 cF (fun _=>rfl) d.frags 134 [.view (zl s)] (fun f=>!ZC s f.on) (by omega) (by kernel_rfl) fun f _=>zxu s f hl
 have h2:=zsS (fun l:List SelD=>AV.sl .no 7 (cSs l)) (zJ d) 137 [.view (zl s)] (fun l=>!za1 s l) (by have:=zh7 d;omega) (by kernel_rfl) fun l h=>zxw s l hl (by have:=zbj h;omega)
 have h3:=fun H=>zpA d H hb
 unfold onM
 generalize (d.frags.any fun f=>!ZC s f.on)=x1 at *
 generalize ((zJ d).any fun l=>!za1 s l)=x2 at *
 obtain⟨sd,sq,sm⟩:=s
 obtain⟨ops,frags⟩:=d
 simp only[zl,zP] at h1 h2 h3 ⊢
 refine zg.go ir63 ck63 (Al4 _) fun KP Q hQ=>?_
 simp(disch:=omega) only[ir63,go_sem]
 refine za h1 ?_
 cases x1 with
 | true =>
  simp(disch:=omega) only[go_sem]
  exact hQ _ _ _ _ nofun rfl (by simp[zd,ze,AV.strip,AV.strip1])
 | false =>
  simp(disch:=omega) only[go_sem]
  refine zB (h3 _) fun o2 H2 hs2=>?_
  simp(disch:=omega) only[go_sem]
  refine za (zg.low h2) ?_
  simp(disch:=omega) only[go_sem]
  exact hQ _ _ _ _ nofun rfl (by simp[zd,ze,AV.strip,AV.strip1])
def yW (d:DocD):Nat:=2*(zq d+zq d)
theorem zcr (d:DocD) (sels:List SelD):(zT d sels).length≤bSs sels+bFs d.frags:=by
 have h:=ziR (d:=d) (U:=zcV d sels) (fun f hf y hy=>by simp only[zcV,List.mem_append,List.mem_flatMap];exact .inr ⟨f,hf,hy⟩) (bSs sels+bFs d.frags+1) (yC sels []) 0 (Yt sels [] (fun y hy=>by simp[zcV,hy]) ⟨List.nodup_nil,by simp⟩)
 exact Nat.le_trans (zgz h) (zgw d sels)
def zgk (d:DocD) (f:FragD):Bool:=zL f.nm (zT d f.sels)
theorem zsl (d:DocD) (f:FragD) (hf:f∈d.frags) (hb:yW d≤Lim):zg Tryz.prog 141 [.agg (cF f),.view (zP d)] (.bool (zgk d f)):=by
 have h1:=zaY hf
 have h2:=zai f
 have h0:bFs d.frags≤zq d:=by simp only[zq];omega
 have hb2:=hb
 simp only[yW] at hb2
 have hR:=fun H=>zgL d f.sels H (by omega)
 have hlen:=zcr d f.sels
 have hC:=yE (zT d f.sels) f.nm (by omega)
 unfold zgk
 generalize zT d f.sels=R at *
 generalize zL f.nm R=x1 at *
 obtain⟨nm,on,ds,ss⟩:=f
 obtain⟨ops,frags⟩:=d
 simp only[zP] at hR hC ⊢
 refine zg.go ir141 ck141 (Al4 _) fun KP Q hQ=>?_
 simp(disch:=omega) only[ir141,Z7,go_sem]
 refine zB (hR _) fun o2 H2 hs2=>?_
 simp(disch:=omega) only[go_sem]
 refine za (zg.low hC) ?_
 simp(disch:=omega) only[go_sem]
 exact hQ _ _ _ _ nofun rfl (by simp[zd,ze,AV.strip,AV.strip1])
def zav (d:DocD):Bool:=d.frags.any (zgk d)
theorem zqJ (d:DocD) (hb:yW d≤Lim):zg Tryz.prog 65 [.agg (zP d)] (.bool (zav d)):=by
 have hfl:=yx d.frags
 have h0:bFs d.frags≤zq d:=by simp only[zq];omega
 have hb2:=hb
 simp only[yW] at hb2
 have h1:=zm4 cF (fun _=>rfl) d.frags 141 [.view (zP d)] (zgk d) (by omega) (by kernel_rfl) fun f hf=>zsl d f hf hb
 unfold zav
 generalize d.frags.any (zgk d)=x1 at *
 obtain⟨ops,frags⟩:=d
 simp only[zP] at h1 ⊢
 refine zg.go ir65 ck65 (Al4 _) fun KP Q hQ=>?_
 simp(disch:=omega) only[ir65,go_sem]
 refine za h1 ?_
 simp(disch:=omega) only[go_sem]
 exact hQ _ _ _ _ nofun rfl (by simp[zd,ze,AV.strip,AV.strip1])
theorem zsY {H H':zb} {o':Own} {n sz:Nat} (h:OwnS H .nil H' o' n sz):Low H H':=Low.of_sub fun b o hb=>h.kept b o hb fun d e=>by cases e
theorem zrG (d:DocD) (n:List UInt8) (b:Nat) (H:zb) (hb:H b=some (.cells (zP d))) (hl:d.frags.length≤Lim):zi Tryz.prog 140 [.str n,.ptr b 0] H (At (.bool (!(zw d n).isSome)) H):=by
 have h1:=zi3 d n hl
 cases hf:zw d n with
 | none =>
  rw[hf] at h1
  obtain⟨ops,frags⟩:=d
  simp only[zP] at h1 hb
  refine zi.go ir140 ck140 (Al4 _) fun KP Q hQ=>?_
  simp(disch:=omega) only[ir140,hb,go_sem]
  refine za h1 ?_
  simp(disch:=omega) only[Option.getD,Option.isSome,zFr,Z7,go_sem]
  refine zc fun b4 hb4=>?_
  simp(disch:=omega) only[go_sem]
  exact hQ _ _ _ H _ nofun rfl ((Low.refl _).upd hb4) ⟨rfl,rfl⟩
 | some f =>
  rw[hf] at h1
  obtain⟨nm,on,ds,ss⟩:=f
  obtain⟨ops,frags⟩:=d
  simp only[zP] at h1 hb
  refine zi.go ir140 ck140 (Al4 _) fun KP Q hQ=>?_
  simp(disch:=omega) only[ir140,hb,go_sem]
  refine za h1 ?_
  simp(disch:=omega) only[Option.getD,Option.isSome,Z7,go_sem]
  refine zc fun b4 hb4=>?_
  simp(disch:=omega) only[go_sem]
  exact hQ _ _ _ H _ nofun rfl ((Low.refl _).upd hb4) ⟨rfl,rfl⟩
def zf3 (d:DocD) (l:List SelD):Bool:=(yC l []).any fun n=>!(zw d n).isSome
theorem zsP (d:DocD) (l:List SelD) (b:Nat) (H:zb) (hb:H b=some (.cells (zP d))) (hl:d.frags.length≤Lim) (hs:bSs l≤Lim):zi Tryz.prog 139 [.sl .no 7 (cSs l),.ptr b 0] H (At (.bool (zf3 d l)) H):=by
 have h1:=zuG l [] .nil H (by simpa using hs) rfl
 have hln:=zet l []
 simp only[Al3] at hln
 have hnil:cT []=[]:=rfl
 rw[hnil] at h1
 have h2:=fun H2 (h:H2 b=some (.cells (zP d)))=>zeQ (fun n:List UInt8=>AV.str n) (yC l []) 140 [.ptr b 0] (fun n=>!(zw d n).isSome) H2 (by omega) (by kernel_rfl) fun n _=>zrG d n b H2 h hl
 unfold zf3
 generalize ((yC l []).any fun n=>!(zw d n).isSome)=x1 at *
 refine zi.go ir139 ck139 (Al4 _) fun KP Q hQ=>?_
 simp(disch:=omega) only[ir139,go_sem]
 refine zB h1 fun o2 H2 hs2=>?_
 have h3:H2 b=some (.cells (zP d)):=hs2.kept b _ hb fun d e=>by cases e
 simp(disch:=omega) only[go_sem]
 have h4:=zi.low (args:=[.sl o2 1 (cT (yC l [])),.clo 140 [] [.ptr b 0]]) (h2 H2 h3)
 refine zY h4 ?_
 rintro _ _ ⟨_,rfl,rfl,rfl⟩
 simp(disch:=omega) only[ZU,go_sem]
 exact hQ _ _ _ H _ nofun rfl (zsY hs2) ⟨rfl,rfl⟩
def zc1 (d:DocD):Bool:=!(zJ d).any (zf3 d)
theorem zvx (d:DocD) (hb:zq d≤Lim):zg Tryz.prog 64 [.agg (zP d)] (.bool (zc1 d)):=by
 have hfl:=yx d.frags
 have hbd:bOs d.ops+bFs d.frags≤Lim:=hb
 have h1:=fun H=>zpA d H hb
 have h2:=fun b H2 (h:H2 b=some (.cells (zP d)))=>zqQ (fun l:List SelD=>AV.sl .no 7 (cSs l)) (zJ d) 139 [.ptr b 0] (zf3 d) H2 (by have:=zh7 d;omega) (by kernel_rfl) fun l hl=>zsP d l b H2 h (by omega) (by have:=zbj hl;omega)
 unfold zc1
 generalize (zJ d).any (zf3 d)=x1 at *
 have hcd:zP d=[.sl .no 5 (cOs d.ops),.sl .no 4 (cFs d.frags)]:=rfl
 rw[hcd] at h1 h2 ⊢
 refine zg.go ir64 ck64 (Al4 _) fun KP Q hQ=>?_
 simp(disch:=omega) only[ir64,go_sem]
 refine zc fun b1 hb1=>?_
 simp(disch:=omega) only[go_sem]
 refine zB (h1 _) fun o2 H2 hs2=>?_
 have h3:=hs2.kept b1 _ (upd_same ..) fun d e=>by cases e
 simp(disch:=omega) only[go_sem]
 have h4:=zi.low (args:=[.sl o2 1 (cLL (zJ d)),.clo 139 [] [.ptr b1 0]]) (h2 b1 H2 h3)
 refine zY h4 ?_
 rintro _ _ ⟨_,rfl,rfl,rfl⟩
 simp(disch:=omega) only[ZU,go_sem]
 exact hQ _ _ _ _ nofun rfl (by simp[zd,ze,AV.strip,AV.strip1])
def yU (R:List (List UInt8)) (l:List (List UInt8)) (f:FragD):List (List UInt8):=if zL f.nm R=true∧zL f.nm l=false then l++[f.nm] else l
def yj (d:DocD) (sels:List SelD):List (List UInt8):=d.frags.foldl (yU (zT d sels)) []
theorem zrh {P:Program} {KP:AV→zb→Prop} {Q:AExit→Env→zb→Prop} {st:List Fr} {ρ:Env} {H:zb} {all l:List AItem} {d:Option Nat} {R:List Chk} {sz bytes:Nat} {o o2:Own} {xs ys:List (List AV)} (hf:o≠.full)
  (how:zK H o xs.length sz) (h1:(xs.length+ys.length)*bytes≤140737488355328) (h2:xs.length+ys.length≤maxLen)
  (hk:∀ o' H',o'≠.full→OwnS H o H' o' (xs.length+ys.length) sz→goR P KP Q all l st R (ρ.set d (.sl o' sz (xs++ys.map (·.map AV.strip1)))) H') :
  goP P KP Q all l st d R ρ sz bytes (.sl o sz xs) (.sl o2 sz ys) H:=by
 refine⟨rfl,rfl,h1,h2,?_⟩
 cases o with
 | no=>exact how.elim
 | full=>exact absurd rfl hf
 | nil =>
  refine⟨fun hy=>?_,fun hy b hb=>hk _ _ nofun ⟨by simp[zK,zb.upd],fun c x hc hn=>?_,fun c d' e=>?_⟩⟩
  ·subst hy
   have hx:xs=[]:=List.eq_nil_of_length_eq_zero how
   subst hx
   exact hk .nil H nofun ⟨rfl,fun b x hb _=>hb,fun b d' e=>by cases e⟩
  ·have hne:c≠b:=fun e=>by subst e;rw[hb] at hc;cases hc
   simp[zb.upd,hne,hc]
  ·cases e;exact .inl hb
 | tip b dr =>
  refine⟨how,fun b' dr' hb'=>hk _ _ nofun ⟨by simp[zK,zb.upd],fun c x hc hn=>?_,fun c d' e=>?_⟩⟩
  ·have hcb:c≠b:=fun e=>by subst e;exact hn dr rfl
   have hcb':c≠b':=fun e=>by subst e;simp[zb.del,hcb,hc] at hb'
   simp[zb.upd,zb.del,hcb,hcb',hc]
  ·cases e
   by_cases hbb:b'=b
   ·subst hbb;exact .inr ⟨dr,rfl⟩
   ·left;simpa[zb.del,hbb] using hb'
abbrev zrc (H:zb) (xs:List (List UInt8)):AEnd→zb→Prop:=fun e H'=>match e with|.ret v=>∃ o,o≠.full∧v=.sl o 1 (cT xs)∧OwnS H .nil H' o xs.length 1|.pan _=>False
theorem zp2 (d:DocD) (sels:List SelD) (H:zb) (hb:yW d≤Lim) (hs:bSs sels≤zq d):zi Tryz.prog 11 [.agg (zP d),.sl .no 7 (cSs sels)] H (zrc H (yj d sels)):=by
 unfold zrc
 have h0:bFs d.frags≤zq d:=by simp only[zq];omega
 have hb2:=hb
 simp only[yW] at hb2
 have hR:=fun H=>zgL d sels H (by omega)
 have hRl:=zcr d sels
 have hb3:2*(zq d+zq d)≤1099511627776:=by simpa only[Lim] using hb2
 have e0:yj d sels=d.frags.foldl (yU (zT d sels)) []:=rfl
 have hC:=fun n=>yE (zT d sels) n (by omega)
 generalize yj d sels=F at *
 generalize zT d sels=R at *
 have hfl:=yx d.frags
 obtain⟨ops,frags⟩:=d
 simp only[zP] at hR e0 hfl h0 ⊢
 have l1:=ZW frags
 refine zi.goO ir11 ck11 (Al4 _) fun KP Q hQ hP=>?_
 simp(disch:=omega) only[ir11,go_sem]
 refine zB (hR _) fun o0 H0 hs0=>?_
 simp(disch:=omega) only[l1,go_sem]
 refine zf frags 15 (fun x:Own×List (List UInt8)=>[(6,.sl x.1 1 (cT x.2))]) (fun done rest x H'=>rest.foldl (yU R) x.2=frags.foldl (yU R) []∧x.2.length≤done.length∧x.1≠.full∧OwnS H .nil H' x.1 x.2.length 1) (.nil,[]) (by simp(disch:=omega) only[cT,List.map,go_sem]) ⟨rfl,Al4 _,nofun,⟨rfl,hs0.kept,fun b d e=>by cases e⟩⟩ ?_ ?_
 ·rintro⟨o1,a⟩ H1 J ⟨hn,_,hne,hs1⟩ hlt
  simp only[List.foldl] at hn
  simp(disch:=omega) only[l1,hlt,go_sem]
  refine hQ _ _ H1 H1 [.sl o1 1 (cT a)] nofun (by simp(disch:=omega) only[ir11,zG,Zk,go_sem]) (Low.refl _) ⟨o1,hne,by rw[e0,← hn];rfl,by rw[e0,← hn];exact hs1⟩
 ·rintro done x rest ⟨o1,a⟩ H1 J hd hlt _ ⟨hn,hle,hne,hs1⟩ hJ
  have hg:=Yl hd
  simp only[List.foldl] at hn
  simp only at hle hne
  replace hs1:OwnS H .nil H1 o1 a.length 1:=hs1
  have h3:=zD a
  obtain⟨nm,on,ds,ss⟩:=x
  have ha:=yE a nm (by simp only[Lim];omega)
  have hst:yU R a ⟨nm,on,ds,ss⟩=if zL nm R=true∧zL nm a=false then a++[nm] else a:=rfl
  rw[Z7] at hg
  simp(disch:=omega) only[l1,hlt,hg,go_sem]
  refine zc fun b8 hb8=>?_
  have hsu:=hs1.upd (x:=.cells [.str nm,.str on,.sl .no 2 (cDs ds),.sl .no 7 (cSs ss)]) hb8
  simp(disch:=omega) only[go_sem]
  refine za (zg.low (hC nm)) ?_
  cases hh:zL nm R with
  | false =>
   rw[if_neg (by simp[hh])] at hst
   rw[hst] at hn
   simp(disch:=omega) only[go_sem]
   exact goJ (hJ (o1,a) _ ⟨hn,by simp only[Al5,Al2,Al3];omega,hne,hsu⟩) (by simp(disch:=omega) only[wrap64,go_sem])
  | true =>
  simp(disch:=omega) only[go_sem]
  refine za (zg.low ha) ?_
  cases hh2:zL nm a with
  | true =>
   rw[if_neg (by simp[hh2])] at hst
   rw[hst] at hn
   simp(disch:=omega) only[go_sem]
   exact goJ (hJ (o1,a) _ ⟨hn,by simp only[Al5,Al2,Al3];omega,hne,hsu⟩) (by simp(disch:=omega) only[wrap64,go_sem])
  | false =>
   rw[if_pos ⟨hh,hh2⟩] at hst
   rw[hst] at hn
   simp(disch:=omega) only[go_sem]
   refine zrh hne (by rw[h3];exact hsu.own) ?_ ?_ fun o' H3 hne2 hs2=>?_
   ·simp only[h3,Al2,Al3];omega
   ·simp only[h3,Al2,Al3,maxLen];omega
   have e1:cT a++[[AV.str nm]]=cT (a++[nm]):=by simp[cT]
   have hs3:=hsu.trans hs2
   simp only[h3,Al2,Al3] at hs3
   simp(disch:=omega) only[wrap64,e1,go_sem]
   exact goJ (hJ (o',a++[nm]) H3 ⟨hn,by simp only[Al5,Al2,Al3];omega,hne2,by simpa using hs3⟩) (by simp(disch:=omega) only[wrap64,go_sem])
theorem zrv (d:DocD) (sels:List SelD) (H:zb) (hb:yW d≤Lim) (hs:bSs sels≤zq d):zae Tryz.prog 11 [.agg (zP d),.sl .no 7 (cSs sels)] H .nil 1 (cT (yj d sels)) :=
 (zp2 d sels H hb hs).mono fun e H' h=>by
  cases e with
  | ret v=>obtain⟨o,_,h1,h2⟩:=h;exact⟨o,h1,by rw[zD];exact h2⟩
  | pan v=>exact h
def zqo (s:SchD) (a b:List UInt8):Bool:=(zbI s a).any fun x=>zL x (zbI s b)
theorem zxK (s:SchD) (a b:List UInt8) (hb:zI s+1≤Lim):zg Tryz.prog 146 [.agg (zl s),.str a,.str b] (.bool (zqo s a b)):=by
 have h1:=zrV s a (by omega)
 have h2:=zrV s b (by omega)
 have m1:=zhv s a
 have m2:=zhv s b
 have hb':zI s+1≤1099511627776:=by simpa only[Lim] using hb
 have e0:zqo s a b=(zbI s a).any fun x=>zL x (zbI s b):=rfl
 generalize zqo s a b=F at *
 generalize zbI s a=la at *
 generalize zbI s b=lb at *
 have l1:=zD la
 have l2:=zD lb
 obtain⟨sd,sq,sm⟩:=s
 simp only[zl] at h1 h2 ⊢
 refine zg.go ir146 ck146 (Al4 _) fun KP Q hQ=>?_
 simp(disch:=omega) only[ir146,go_sem]
 refine za h2 ?_
 simp(disch:=omega) only[go_sem]
 refine za h1 ?_
 simp(disch:=omega) only[l1,go_sem]
 refine zf la 20 (fun _:Unit=>[]) (fun done rest _ H=>(rest.any fun x=>zL x lb)=la.any fun x=>zL x lb) () (by simp(disch:=omega) only[go_sem]) rfl ?_ ?_
 ·rintro _ H J hn hlt
  simp(disch:=omega) only[l1,hlt,go_sem]
  exact hQ _ _ _ [.bool false] nofun rfl (by rw[e0,← hn];rfl)
 ·rintro done x rest _ H J hd hlt _ hn hJ
  have hg:=Yr hd
  rw[List.any_cons] at hn
  simp(disch:=omega) only[l1,hlt,l2,hg,go_sem]
  refine zf lb 26 (fun _:Unit=>[]) (fun done rest _ H=>zL x rest=zL x lb) () (by simp(disch:=omega) only[go_sem]) rfl ?_ ?_
  ·rintro _ H2 J2 hn2 hlt2
   rw[← hn2] at hn
   simp(disch:=omega) only[l2,hlt2,go_sem]
   exact goJ (hJ () _ (by simpa[zL] using hn)) (by simp(disch:=omega) only[wrap64,go_sem])
  ·rintro done2 y rest2 _ H2 J2 hd2 hlt2 _ hn2 hJ2
   have hg2:=Yr hd2
   simp only[zL] at hn2
   by_cases hxy:y=x
   ·rw[if_pos hxy] at hn2
    rw[← hn2] at hn
    have hxy':(x=y)=True:=eq_true hxy.symm
    simp(disch:=omega) only[l1,hlt,l2,hlt2,hg,hg2,hxy',go_sem]
    exact hQ _ _ _ [.bool true] nofun rfl (by rw[e0,← hn];rfl)
   ·rw[if_neg hxy] at hn2
    have hxy':¬ x=y:=fun h=>hxy h.symm
    simp(disch:=omega) only[l1,hlt,l2,hlt2,hg,hg2,hxy',go_sem]
    exact goJ (hJ2 () _ hn2) (by simp(disch:=omega) only[wrap64,go_sem])
def yY (s:SchD) (o:OpD):List UInt8:=if o.k=1 then s.m else s.q
theorem zp9 (s:SchD) (o:OpD):zg Tryz.prog 86 [.agg (zl s),.agg (cO o)] (.str (yY s o)):=by
 obtain⟨k,nm,vs,ds,ss⟩:=o
 obtain⟨sd,sq,sm⟩:=s
 simp only[zl,zap]
 refine zg.go ir86 ck86 (Al4 _) fun KP Q hQ=>?_
 by_cases hk:k=1
 ·subst hk
  simp(disch:=omega) only[ir86,go_sem]
  exact hQ _ _ _ _ nofun rfl (by simp[zd,ze,AV.strip,AV.strip1,yY])
 ·simp(disch:=omega) only[ir86,hk,go_sem]
  exact hQ _ _ _ _ nofun rfl (by simp[zd,ze,AV.strip,AV.strip1,yY,hk])
def zy (s:SchD) (typ:List UInt8):SelD→List UInt8
 | .mk k _ nm _ _ on _=>if k=0 then ((yb s typ nm).getD zF).t.nm else if k=2 then (if on=[] then typ else on) else []
theorem zgE (s:SchD) (typ:List UInt8) (x:SelD) (hb:zI s≤Lim):zg Tryz.prog 145 [.agg (zl s),.str typ,.agg (cS x)] (.str (zy s typ x)):=by
 obtain⟨k,al,nm,args,dirs,on,xs⟩:=x
 have h1:=zfw s typ nm hb
 simp only[zy]
 generalize (yb s typ nm).isSome=fs at *
 generalize (yb s typ nm).getD zF=f at *
 obtain⟨fn,fp,⟨f1,f2,f3⟩,fd⟩:=f
 obtain⟨sd,sq,sm⟩:=s
 simp only[zl,zaL,yM] at h1 ⊢
 refine zg.go ir145 ck145 (Al4 _) fun KP Q hQ=>?_
 by_cases h0:k=0
 ·subst h0
  simp(disch:=omega) only[ir145,go_sem]
  refine za h1 ?_
  simp(disch:=omega) only[go_sem]
  refine zc fun b7 hb7=>?_
  simp(disch:=omega) only[go_sem]
  exact hQ _ _ _ _ nofun rfl (by simp[zd,ze,AV.strip,AV.strip1])
 by_cases h2:k=2
 ·subst h2
  by_cases ho:on=[]
  ·have ho':=eq_true ho
   simp(disch:=omega) only[ir145,ho',go_sem]
   exact hQ _ _ _ _ nofun rfl (by simp[zd,ze,AV.strip,AV.strip1,ho])
  ·simp(disch:=omega) only[ir145,ho,go_sem]
   exact hQ _ _ _ _ nofun rfl (by simp[zd,ze,AV.strip,AV.strip1,ho])
 ·simp(disch:=omega) only[ir145,h0,h2,go_sem]
  exact hQ _ _ _ _ nofun rfl (by simp[zd,ze,AV.strip,AV.strip1,h0,h2])
def zbN (s:SchD) (typ:List UInt8):SelD→Bool
 | .mk k _ nm _ _ _ _=>!decide (k=0)||(yb s typ nm).isSome
theorem zwe (s:SchD) (typ:List UInt8) (x:SelD) (hb:zI s≤Lim):zg Tryz.prog 69 [.agg (zl s),.str typ,.agg (cS x)] (.bool (zbN s typ x)):=by
 obtain⟨k,al,nm,args,dirs,on,xs⟩:=x
 have h1:=zfw s typ nm hb
 simp only[zbN]
 generalize (yb s typ nm).isSome=fs at *
 generalize (yb s typ nm).getD zF=f at *
 obtain⟨fn,fp,⟨f1,f2,f3⟩,fd⟩:=f
 obtain⟨sd,sq,sm⟩:=s
 simp only[zl,zaL,yM] at h1 ⊢
 refine zg.go ir69 ck69 (Al4 _) fun KP Q hQ=>?_
 by_cases h0:k=0
 ·subst h0
  simp(disch:=omega) only[ir69,go_sem]
  refine za h1 ?_
  simp(disch:=omega) only[go_sem]
  refine zc fun b7 hb7=>?_
  simp(disch:=omega) only[go_sem]
  exact hQ _ _ _ _ nofun rfl (by simp[zd,ze,AV.strip,AV.strip1])
 ·simp(disch:=omega) only[ir69,h0,go_sem]
  refine za h1 ?_
  simp(disch:=omega) only[go_sem]
  refine zc fun b7 hb7=>?_
  simp(disch:=omega) only[h0,go_sem]
  exact hQ _ _ _ _ nofun rfl (by simp[zd,ze,AV.strip,AV.strip1,h0])
mutual
def zgP (s:SchD) (p:List UInt8→SelD→Bool) (typ:List UInt8):SelD→Bool
 | .mk k al nm args dirs on sels=>p typ (.mk k al nm args dirs on sels)&&ZK s p (zy s typ (.mk k al nm args dirs on [])) sels
def ZK (s:SchD) (p:List UInt8→SelD→Bool) (typ:List UInt8):List SelD→Bool
 | []=>true
 | x::r=>zgP s p typ x&&ZK s p typ r
end
theorem zjG (s:SchD) (typ:List UInt8) (k:Int) (al nm:List UInt8) (args:List Mem) (dirs:List DirD) (on:List UInt8) (xs ys:List SelD):zy s typ (.mk k al nm args dirs on xs)=zy s typ (.mk k al nm args dirs on ys):=rfl
def zrj (f:FuncId) (caps:List AV) (p:List UInt8→SelD→Bool) (B:Nat):Prop:=Program.callable Tryz.prog f=true∧∀ typ x,bS x≤B→zg Tryz.prog f (.str typ::.agg (cS x)::caps) (.bool (p typ x))
def zrd (s:SchD) (f:FuncId) (caps:List AV) (p:List UInt8→SelD→Bool) (B:Nat) (sels:List SelD):Prop:=∀ typ,bSs sels≤B→zg Tryz.prog 143 [.agg (zl s),.str typ,.sl .no 7 (cSs sels),.clo f [] caps] (.bool (ZK s p typ sels))
theorem znv (s:SchD) (f:FuncId) (caps:List AV) (p:List UInt8→SelD→Bool) (B:Nat) (hs:zI s≤Lim) (hB:B≤Lim) (hf:zrj f caps p B) (sels:List SelD) (ih:∀ k al nm args dirs on xs,SelD.mk k al nm args dirs on xs∈sels→zrd s f caps p B xs):zrd s f caps p B sels:=by
 intro typ hb
 have hsl:=Z6 sels
 have hB':B≤1099511627776:=by simpa only[Lim] using hB
 have h1:=ZI sels
 have hW:=fun x=>zgE s typ x hs
 have hih:=fun k al nm args dirs on xs (h:SelD.mk k al nm args dirs on xs∈sels) (hb:bSs xs≤B)=>ih k al nm args dirs on xs h (zy s typ (.mk k al nm args dirs on xs)) hb
 obtain⟨sd,sq,sm⟩:=s
 generalize hS:(⟨sd,sq,sm⟩:SchD)=s at *
 have hcs:zl s=[.sl .no 6 (cEs sd),.str sq,.str sm]:=by rw[← hS];rfl
 simp only[hcs] at hW hih ⊢
 refine zg.go ir143 ck143 (Al4 _) fun KP Q hQ=>?_
 simp(disch:=omega) only[ir143,h1,go_sem]
 refine zf sels 14 (fun _:Unit=>[(9,.bool true)]) (fun done rest _ H=>ZK s p typ rest=ZK s p typ sels) () (by simp(disch:=omega) only[go_sem]) rfl ?_ ?_
 ·rintro _ H J hn hlt
  simp(disch:=omega) only[h1,hlt,go_sem]
  exact hQ _ _ _ [.bool true] nofun rfl (by rw[← hn];rfl)
 ·rintro done x rest _ H J hd hlt _ hn hJ
  have hg:=Y4 hd
  have hmem:x∈sels:=by rw[hd];simp
  have hbx:=znO hmem
  have hfx:=hf.2 typ x (by omega)
  have hWx:=hW x
  rw[ZK] at hn
  obtain⟨k,al,nm,args,dirs,on,xs⟩:=x
  have hx2:=hih _ _ _ _ _ _ _ hmem (by simp only[bS] at hbx;omega)
  rw[zgP,zjG s typ k al nm args dirs on [] xs] at hn
  generalize zy s typ (.mk k al nm args dirs on xs)=t2 at *
  generalize p typ (.mk k al nm args dirs on xs)=x1 at *
  generalize ZK s p t2 xs=x2 at *
  rw[yM] at hg hfx hWx
  simp(disch:=omega) only[h1,hlt,hg,go_sem]
  refine zc fun b11 hb11=>?_
  simp(disch:=omega) only[go_sem]
  refine⟨hf.1,za hfx ?_⟩
  cases x1 with
  | false =>
   simp(disch:=omega) only[go_sem]
   exact hQ _ _ _ [.bool false] nofun rfl (by rw[← hn];rfl)
  | true =>
   simp(disch:=omega) only[go_sem]
   refine za hWx ?_
   simp(disch:=omega) only[go_sem]
   refine za hx2 ?_
   cases x2 with
   | false =>
    simp(disch:=omega) only[go_sem]
    exact hQ _ _ _ [.bool false] nofun rfl (by rw[← hn];rfl)
   | true =>
    simp(disch:=omega) only[go_sem]
    exact goJ (hJ () _ (by simpa using hn)) (by simp(disch:=omega) only[wrap64,go_sem])
theorem zxs (s:SchD) (f:FuncId) (caps:List AV) (p:List UInt8→SelD→Bool) (B:Nat) (hs:zI s≤Lim) (hB:B≤Lim) (hf:zrj f caps p B) (sels:List SelD):zrd s f caps p B sels:=by
 have h:∀ x:SelD,∀ k al nm args dirs on xs,x=.mk k al nm args dirs on xs→zrd s f caps p B xs:=SelD.ind fun k al nm args dirs on sels ih=>by
  intro k' al' nm' args' dirs' on' xs e
  cases e
  exact znv s f caps p B hs hB hf sels fun k al nm args dirs on xs hm=>ih _ hm _ _ _ _ _ _ _ rfl
 exact znv s f caps p B hs hB hf sels fun k al nm args dirs on xs _=>h _ k al nm args dirs on xs rfl
def yZ (s:SchD) (d:DocD) (p:List UInt8→SelD→Bool):Bool:=(d.ops.all fun o=>ZK s p (yY s o) o.sels)&&d.frags.all fun f=>ZK s p f.on f.sels
theorem zrl (s:SchD) (d:DocD) (f:FuncId) (caps:List AV) (p:List UInt8→SelD→Bool) (hs:zI s≤Lim) (hb:zq d≤Lim) (hf:zrj f caps p (zq d)) :
  zg Tryz.prog 67 [.agg (zl s),.agg (zP d),.clo f [] caps] (.bool (yZ s d p)):=by
 have hA:=fun sels=>zxs s f caps p (zq d) hs hb hf sels
 have hR:=fun o=>zp9 s o
 have hb':bOs d.ops+bFs d.frags≤1099511627776:=by simpa only[Lim,zq] using hb
 have hol:=y9 d.ops
 have hfl:=yx d.frags
 have l1:=Z8 d.ops
 have l2:=ZW d.frags
 have hop:=fun(o:OpD) (ho:o∈d.ops)=>(by
  obtain⟨a,b,hd⟩:=List.append_of_mem ho
  have:=YE a o b
  rw[← hd] at this
  simp only[bO] at this;simp only[zq];omega:bSs o.sels≤zq d)
 have hfr:=fun(f:FragD) (h:f∈d.frags)=>(by have:=zaY h;have:=zai f;simp only[zq];omega:bSs f.sels≤zq d)
 have e0:yZ s d p=((d.ops.all fun o=>ZK s p (yY s o) o.sels)&&d.frags.all fun f=>ZK s p f.on f.sels):=rfl
 generalize yZ s d p=F at *
 obtain⟨ops,frags⟩:=d
 simp only at l1 l2 hol hfl hb' hop hfr e0
 obtain⟨sd,sq,sm⟩:=s
 generalize hS:(⟨sd,sq,sm⟩:SchD)=s at *
 have hcs:zl s=[.sl .no 6 (cEs sd),.str sq,.str sm]:=by rw[← hS];rfl
 unfold zrd at hA
 simp only[hcs,zP] at hA hR ⊢
 refine zg.go ir67 ck67 (Al4 _) fun KP Q hQ=>?_
 have fin:∀ r,F=r→∀ ρ H,zG ρ H ir67.res=some [.bool r]→Q .ret ρ H:=fun r e ρ H h1=>hQ _ ρ H _ nofun h1 (by rw[e];rfl)
 simp(disch:=omega) only[ir67,l1,go_sem]
 refine zf ops 14 (fun _:Unit=>[]) (fun done rest _ H=>(rest.all fun o=>ZK s p (yY s o) o.sels)=ops.all fun o=>ZK s p (yY s o) o.sels) () (by simp(disch:=omega) only[go_sem]) rfl ?_ ?_
 ·rintro _ H J hn hlt
  simp(disch:=omega) only[l1,hlt,l2,go_sem]
  refine zf frags 31 (fun _:Unit=>[]) (fun done rest _ H=>(rest.all fun f=>ZK s p f.on f.sels)=frags.all fun f=>ZK s p f.on f.sels) () (by simp(disch:=omega) only[go_sem]) rfl ?_ ?_
  ·rintro _ H J hn2 hlt
   simp(disch:=omega) only[l2,hlt,go_sem]
   exact fin true (by rw[e0,← hn,← hn2];rfl) _ _ rfl
  ·rintro done x rest _ H J hd hlt _ hn2 hJ
   have hg:=Yl hd
   have hx:=hA x.sels x.on (hfr x (by rw[hd];simp))
   rw[List.all_cons] at hn2
   obtain⟨nm,on,ds,ss⟩:=x
   simp only at hx hn2
   rw[Z7] at hg
   simp(disch:=omega) only[l2,hlt,hg,go_sem]
   refine zc fun b10 hb10=>?_
   simp(disch:=omega) only[go_sem]
   refine za hx ?_
   cases hv:ZK s p on ss with
   | false =>
    rw[hv] at hn2
    simp(disch:=omega) only[go_sem]
    exact fin false (by rw[e0,← hn2];simp) _ _ rfl
   | true =>
    rw[hv] at hn2
    simp(disch:=omega) only[go_sem]
    exact goJ (hJ () _ (by simpa using hn2)) (by simp(disch:=omega) only[wrap64,go_sem])
 ·rintro done x rest _ H J hd hlt _ hn hJ
  have hg:=Yk hd
  have hx:=hA x.sels (yY s x) (hop x (by rw[hd];simp))
  have hr:=hR x
  rw[List.all_cons] at hn
  generalize yY s x=rt at *
  obtain⟨k,nm,vs,ds,ss⟩:=x
  simp only at hx hn
  rw[zap] at hg hr
  simp(disch:=omega) only[l1,hlt,hg,go_sem]
  refine zc fun b8 hb8=>?_
  simp(disch:=omega) only[go_sem]
  refine za hr ?_
  simp(disch:=omega) only[go_sem]
  refine za hx ?_
  cases hv:ZK s p rt ss with
  | false =>
   rw[hv] at hn
   simp(disch:=omega) only[go_sem]
   exact fin false (by rw[e0,← hn];simp) _ _ rfl
  | true =>
   rw[hv] at hn
   simp(disch:=omega) only[go_sem]
   exact goJ (hJ () _ (by simpa using hn)) (by simp(disch:=omega) only[wrap64,go_sem])
def zkm (s:SchD) (typ:List UInt8):SelD→Bool
 | .mk k al nm args dirs on sels=>!decide (k=0)||((!Yb s (zy s typ (.mk k al nm args dirs on sels))&&!ZC s (zy s typ (.mk k al nm args dirs on sels))) ||
  (ZC s (zy s typ (.mk k al nm args dirs on sels))==decide (0<sels.length)))
theorem zvM (s:SchD) (typ:List UInt8) (x:SelD) (hb:zI s≤Lim):zg Tryz.prog 70 [.agg (zl s),.str typ,.agg (cS x)] (.bool (zkm s typ x)):=by
 have hw:=zgE s typ x hb
 have hl:=z7 hb
 have h1:=zlM s (zy s typ x) hl
 have h2:=zhV s (zy s typ x) hl
 obtain⟨k,al,nm,args,dirs,on,xs⟩:=x
 simp only[zkm]
 generalize zy s typ (.mk k al nm args dirs on xs)=t at *
 generalize Yb s t=x1 at *
 generalize ZC s t=x2 at *
 have hx:=ZI xs
 obtain⟨sd,sq,sm⟩:=s
 simp only[zl,yM] at hw h1 h2 ⊢
 refine zg.go ir70 ck70 (Al4 _) fun KP Q hQ=>?_
 by_cases h0:k=0
 case neg =>
  simp(disch:=omega) only[ir70,h0,go_sem]
  exact hQ _ _ _ _ nofun rfl (by simp[zd,ze,AV.strip,AV.strip1,h0])
 subst h0
 simp(disch:=omega) only[ir70,go_sem]
 refine za hw ?_
 simp(disch:=omega) only[go_sem]
 refine za h1 ?_
 cases x1 with
 | true =>
  simp(disch:=omega) only[hx,go_sem]
  refine za h2 ?_
  simp(disch:=omega) only[hx,go_sem]
  exact hQ _ _ _ _ nofun rfl (by cases x2<;>by_cases h:(0:Int)<xs.length<;>simp_all [zd,ze,AV.strip,AV.strip1])
 | false =>
  simp(disch:=omega) only[hx,go_sem]
  refine za h2 ?_
  cases x2 with
  | false =>
   simp(disch:=omega) only[hx,go_sem]
   exact hQ _ _ _ _ nofun rfl (by simp[zd,ze,AV.strip,AV.strip1])
  | true =>
   simp(disch:=omega) only[hx,go_sem]
   refine za h2 ?_
   simp(disch:=omega) only[hx,go_sem]
   exact hQ _ _ _ _ nofun rfl (by by_cases h:(0:Int)<xs.length<;>simp_all [zd,ze,AV.strip,AV.strip1])
def zbm (s:SchD) (d:DocD) (typ:List UInt8):SelD→Bool
 | .mk k _ nm _ _ on _=>if k=2 then decide (on=[])||zqo s typ on else if k=1 then zqo s typ ((zw d nm).getD zFr).on else true
theorem zwn (s:SchD) (d:DocD) (typ:List UInt8) (x:SelD) (hb:zI s+1≤Lim) (hd:d.frags.length≤Lim):zg Tryz.prog 71 [.agg (zl s),.agg (zP d),.str typ,.agg (cS x)] (.bool (zbm s d typ x)):=by
 have hm:=fun n=>zxK s typ n hb
 obtain⟨k,al,nm,args,dirs,on,xs⟩:=x
 have hf:=zi3 d nm hd
 simp only[zbm]
 generalize (zw d nm).isSome=fs at *
 generalize (zw d nm).getD zFr=f at *
 obtain⟨fn,fo,fd,fss⟩:=f
 obtain⟨ops,frags⟩:=d
 obtain⟨sd,sq,sm⟩:=s
 simp only[zl,zP,yM,Z7] at hm hf ⊢
 refine zg.go ir71 ck71 (Al4 _) fun KP Q hQ=>?_
 by_cases h2:k=2
 ·subst h2
  by_cases ho:on=[]
  ·have ho':=eq_true ho
   simp(disch:=omega) only[ir71,ho',go_sem]
   exact hQ _ _ _ _ nofun rfl (by simp[zd,ze,AV.strip,AV.strip1,ho])
  ·simp(disch:=omega) only[ir71,ho,go_sem]
   refine za (hm on) ?_
   simp(disch:=omega) only[go_sem]
   exact hQ _ _ _ _ nofun rfl (by simp[zd,ze,AV.strip,AV.strip1,ho])
 by_cases h1:k=1
 ·subst h1
  simp(disch:=omega) only[ir71,go_sem]
  refine za hf ?_
  simp(disch:=omega) only[go_sem]
  refine zc fun b10 hb10=>?_
  simp(disch:=omega) only[go_sem]
  refine za (hm fo) ?_
  simp(disch:=omega) only[go_sem]
  exact hQ _ _ _ _ nofun rfl (by simp[zd,ze,AV.strip,AV.strip1])
 ·simp(disch:=omega) only[ir71,h1,h2,go_sem]
  exact hQ _ _ _ _ nofun rfl (by simp[zd,ze,AV.strip,AV.strip1,h1,h2])
def zd4 (s:SchD) (d:DocD) (n:Int) (typ:List UInt8) (x:SelD):Bool:=if n=9 then zbN s typ x else if n=10 then zkm s typ x else if n=11 then zbm s d typ x else false
theorem zop (s:SchD) (d:DocD) (n:Int) (hb:zI s+1≤Lim) (hd:d.frags.length≤Lim) (typ:List UInt8) (x:SelD):zg Tryz.prog 68 [.str typ,.agg (cS x),.view [.int .i64 n],.view (zl s),.view (zP d)] (.bool (zd4 s d n typ x)):=by
 have h1:=zwe s typ x (by omega)
 have h2:=zvM s typ x (by omega)
 have h3:=zwn s d typ x hb hd
 unfold zd4
 generalize zbN s typ x=x1 at *
 generalize zkm s typ x=x2 at *
 generalize zbm s d typ x=x3 at *
 obtain⟨k,al,nm,args,dirs,on,xs⟩:=x
 obtain⟨ops,frags⟩:=d
 obtain⟨sd,sq,sm⟩:=s
 simp only[zl,zP,yM] at h1 h2 h3 ⊢
 refine zg.go ir68 ck68 (Al4 _) fun KP Q hQ=>?_
 by_cases n1:n=9
 ·subst n1
  simp(disch:=omega) only[ir68,go_sem]
  refine za h1 ?_
  simp(disch:=omega) only[go_sem]
  exact hQ _ _ _ _ nofun rfl (by simp[zd,ze,AV.strip,AV.strip1])
 by_cases n2:n=10
 ·subst n2
  simp(disch:=omega) only[ir68,go_sem]
  refine za h2 ?_
  simp(disch:=omega) only[go_sem]
  exact hQ _ _ _ _ nofun rfl (by simp[zd,ze,AV.strip,AV.strip1])
 by_cases n3:n=11
 ·subst n3
  simp(disch:=omega) only[ir68,go_sem]
  refine za h3 ?_
  simp(disch:=omega) only[go_sem]
  exact hQ _ _ _ _ nofun rfl (by simp[zd,ze,AV.strip,AV.strip1])
 ·simp(disch:=omega) only[ir68,n1,n2,n3,go_sem]
  exact hQ _ _ _ _ nofun rfl (by simp[zd,ze,AV.strip,AV.strip1,n1,n2,n3])
def ZY (s:SchD) (d:DocD) (n:Int):Bool:=yZ s d (zd4 s d n)&&(decide (9≤n)&&decide (n≤11))
theorem zra (s:SchD) (d:DocD) (n:Int) (hb:zI s+1≤Lim) (hd:zq d≤Lim):zg Tryz.prog 35 [.agg (zl s),.agg (zP d),.int .i64 n] (.bool (ZY s d n)):=by
 have hfl:=yx d.frags
 have hbd:bOs d.ops+bFs d.frags≤Lim:=hd
 have h1:=zrl s d 68 [.view [.int .i64 n],.view (zl s),.view (zP d)] (zd4 s d n) (by omega) hd ⟨by kernel_rfl,fun typ x _=>zop s d n hb (by omega) typ x⟩
 unfold ZY
 generalize yZ s d (zd4 s d n)=x1 at *
 obtain⟨ops,frags⟩:=d
 obtain⟨sd,sq,sm⟩:=s
 simp only[zl,zP] at h1 ⊢
 refine zg.go ir35 ck35 (Al4 _) fun KP Q hQ=>?_
 simp(disch:=omega) only[ir35,go_sem]
 refine za h1 ?_
 cases x1 with
 | false =>
  simp(disch:=omega) only[go_sem]
  exact hQ _ _ _ _ nofun rfl (by simp[zd,ze,AV.strip,AV.strip1])
 | true =>
  by_cases n1:9≤n
  ·simp(disch:=omega) only[n1,go_sem]
   exact hQ _ _ _ _ nofun rfl (by simp[zd,ze,AV.strip,AV.strip1,n1])
  ·simp(disch:=omega) only[n1,go_sem]
   exact hQ _ _ _ _ nofun rfl (by simp[zd,ze,AV.strip,AV.strip1,n1])
theorem zhC (nm:List UInt8) (args:List Mem):cD ⟨nm,args⟩=[.str nm,.sl .no 6 (cMs args)]:=rfl
def zbH (n:List UInt8):Option VarD:=if n=[115,107,105,112]∨n=[105,110,99,108,117,100,101] then some ⟨[105,102],⟨[66,111,111,108,101,97,110],0,1⟩,false,zV⟩ else none
theorem ziB (n:List UInt8):zg Tryz.prog 148 [.str n] (.tup [.agg (cW ((zbH n).getD zW)),.bool (zbH n).isSome]):=by
 refine zg.go ir148 ck148 (Al4 _) fun KP Q hQ=>?_
 have fin:∀ o,zbH n=o→∀ ρ H vs,zG ρ H ir148.res=some vs→(zd vs).strip=.tup [.agg (cW (o.getD zW)),.bool o.isSome]→Q .ret ρ H:=fun o e ρ H vs h1 h2=>hQ _ ρ H vs nofun h1 (by rw[h2,e])
 by_cases h1:n=[115,107,105,112]
 ·have e:zbH n=some ⟨[105,102],⟨[66,111,111,108,101,97,110],0,1⟩,false,zV⟩:=if_pos (.inl h1)
  have h1':=eq_true h1
  simp(disch:=omega) only[ir148,go_sem]
  refine zc fun b2 hb2=>?_
  simp(disch:=omega) only[h1',go_sem]
  exact fin _ e _ _ [.agg [.str [105,102],.str [66,111,111,108,101,97,110],.int .i64 0,.int .i64 1,.bool false,.int .i64 0,.int .i64 0,.str [],.sl .nil 5 [],.sl .nil 6 []],.bool true] (by simp(disch:=omega) only[ir148,zG,Zk,go_sem]) rfl
 by_cases h2:n=[105,110,99,108,117,100,101]
 ·have e:zbH n=some ⟨[105,102],⟨[66,111,111,108,101,97,110],0,1⟩,false,zV⟩:=if_pos (.inr h2)
  have h2':=eq_true h2
  simp(disch:=omega) only[ir148,go_sem]
  refine zc fun b2 hb2=>?_
  simp(disch:=omega) only[h1,h2',go_sem]
  exact fin _ e _ _ [.agg [.str [105,102],.str [66,111,111,108,101,97,110],.int .i64 0,.int .i64 1,.bool false,.int .i64 0,.int .i64 0,.str [],.sl .nil 5 [],.sl .nil 6 []],.bool true] (by simp(disch:=omega) only[ir148,zG,Zk,go_sem]) rfl
 have e:zbH n=none:=if_neg (fun h=>h.elim h1 h2)
 simp(disch:=omega) only[ir148,go_sem]
 refine zc fun b2 hb2=>?_
 simp(disch:=omega) only[h1,h2,go_sem]
 exact fin _ e _ _ [.agg [.str [],.str [],.int .i64 0,.int .i64 0,.bool false,.int .i64 0,.int .i64 0,.str [],.sl .nil 5 [],.sl .nil 6 []],.bool false] (by simp(disch:=omega) only[ir148,zG,Zk,go_sem]) rfl
def Yd (l:List DirD):Bool:=l.all fun d=>(zbH d.nm).isSome
theorem zoX (l:List DirD) (hl:l.length≤Lim):zg Tryz.prog 73 [.sl .no 2 (cDs l)] (.bool (Yd l)):=by
 refine zg.go ir73 ck73 (Al4 _) fun KP Q hQ=>?_
 have h1:=YG l
 simp only[Lim] at hl
 simp(disch:=omega) only[ir73,h1,go_sem]
 refine zf l 9 (fun _:Unit=>[]) (fun done rest _ H=>Yd rest=Yd l) () (by simp(disch:=omega) only[go_sem]) rfl ?_ ?_
 ·rintro _ H J hn hlt
  simp(disch:=omega) only[h1,hlt,go_sem]
  exact hQ _ _ _ [.bool true] nofun rfl (by rw[← hn];rfl)
 ·rintro done x rest _ H J hd hlt _ hn hJ
  have hg:=zaI hd
  have hstep:Yd (x::rest)=((zbH x.nm).isSome&&Yd rest):=by simp[Yd]
  rw[hstep] at hn
  obtain⟨nm,args⟩:=x
  have hP:=ziB nm
  simp only at hn
  rw[zhC] at hg
  generalize (zbH nm).getD zW=w at *
  obtain⟨wn,⟨w1,w2,w3⟩,wh,⟨wk,wq,ws,wl,wm⟩⟩:=w
  rw[zZ] at hP
  simp(disch:=omega) only[h1,hlt,hg,go_sem]
  refine zc fun b4 hb4=>?_
  simp(disch:=omega) only[go_sem]
  refine za hP ?_
  simp(disch:=omega) only[go_sem]
  refine zc fun b5 hb5=>?_
  have hne:=yF hb5
  cases hv:(zbH nm).isSome with
  | false =>
   rw[hv] at hn
   simp(disch:=omega) only[hne,Ne.symm hne,go_sem]
   exact hQ _ _ _ [.bool false] nofun rfl (by rw[← hn];rfl)
  | true =>
   rw[hv] at hn
   simp(disch:=omega) only[hne,Ne.symm hne,go_sem]
   exact goJ (hJ () _ (by simpa using hn)) (by simp(disch:=omega) only[wrap64,go_sem])
theorem zoR (l:List DirD):zg Tryz.prog 75 [.sl .no 2 (cDs l)] (.bool (decide (l.length=0))):=by
 have h1:=YG l
 refine zg.go ir75 ck75 (Al4 _) fun KP Q hQ=>?_
 simp(disch:=omega) only[ir75,h1,go_sem]
 exact hQ _ _ _ _ nofun rfl (by simp[zd,ze,AV.strip,AV.strip1])
def cLD (l:List (List DirD)):List (List AV):=l.map fun x=>[.sl .no 2 (cDs x)]
theorem zgF (l:List (List DirD)):(cLD l).length=l.length:=by simp[cLD]
theorem ztv {l a:List (List DirD)} {x:List DirD} {b:List (List DirD)} (h:l=a++x::b):(cLD l).getD a.length []=[.sl .no 2 (cDs x)]:=yN h
def zbd (d:DocD):List (List DirD):=d.ops.map (·.dirs)++d.frags.map (·.dirs)
theorem zxN (d:DocD) (H:zb) (hb:zq d≤Lim):zae Tryz.prog 147 [.agg (zP d)] H .nil 1 (cLD (zbd d)):=by
 obtain⟨ops,frags⟩:=d
 have hb':bOs ops+bFs frags≤1099511627776:=by simpa only[Lim,zq] using hb
 have l1:=Z8 ops
 have l2:=ZW frags
 have m1:=y9 ops
 have m2:=yx frags
 rw[show zP ⟨ops,frags⟩=[.sl .no 5 (cOs ops),.sl .no 4 (cFs frags)] from rfl]
 refine zi.goO ir147 ck147 (Al4 _) fun KP Q hQ hP=>?_
 simp(disch:=omega) only[ir147,l1,go_sem]
 refine zf ops 11 (fun x:Own×List (List DirD)=>[(3,.sl x.1 1 (cLD x.2))]) (fun done rest x H'=>x.2=done.map (·.dirs)∧OwnS H .nil H' x.1 done.length 1) (.nil,[]) (by simp(disch:=omega) only[cLD,List.map,go_sem]) ⟨rfl,OwnS.refl (o:=.nil) (n:=0) rfl⟩ ?_ ?_
 ·rintro⟨o1,a⟩ H1 J ⟨hn,hs⟩ hlt
  simp only at hn
  subst hn
  replace hs:OwnS H .nil H1 o1 ops.length 1:=hs
  simp(disch:=omega) only[l1,hlt,l2,go_sem]
  refine zf frags 24 (fun x:Own×List (List DirD)=>[(3,.sl x.1 1 (cLD x.2))]) (fun done rest x H'=>x.2=ops.map (·.dirs)++done.map (·.dirs)∧OwnS H .nil H' x.1 (ops.length+done.length) 1) (o1,ops.map (·.dirs)) (by simp(disch:=omega) only[go_sem]) ⟨by simp,hs⟩ ?_ ?_
  ·rintro⟨o2,a⟩ H2 J ⟨hn,hs⟩ hlt
   simp only at hn
   subst hn
   simp(disch:=omega) only[l2,hlt,go_sem]
   refine hQ _ _ H2 H2 [.sl o2 1 (cLD (zbd ⟨ops,frags⟩))] nofun (by simp(disch:=omega) only[ir147,zG,Zk,zbd,go_sem]) (Low.refl _) ⟨o2,rfl,by rw[zgF];simpa[zbd] using hs⟩
  ·rintro done x rest ⟨o2,a⟩ H2 J hd hlt _ ⟨hn,hs⟩ hJ
   have hg:=Yl hd
   simp only at hn
   subst hn
   have h3:=zgF (ops.map (·.dirs)++done.map (·.dirs))
   simp only[Al5,List.length_map] at h3
   replace hs:OwnS H .nil H2 o2 (ops.length+done.length) 1:=hs
   obtain⟨nm,on,ds,ss⟩:=x
   rw[Z7] at hg
   simp(disch:=omega) only[l2,hlt,hg,go_sem]
   refine zc fun b7 hb7=>?_
   have hsu:=hs.upd (x:=.cells [.str nm,.str on,.sl .no 2 (cDs ds),.sl .no 7 (cSs ss)]) hb7
   simp(disch:=omega) only[go_sem]
   refine zp (by rw[h3];exact hsu.own) ?_ ?_ fun o' H3 hs2=>?_
   ·simp only[h3,Al2,Al3];omega
   ·simp only[h3,Al2,Al3,maxLen];omega
   have e1:cLD (ops.map (·.dirs)++done.map (·.dirs))++[[AV.sl .no 2 (cDs ds)]]=cLD (ops.map (·.dirs)++(done.map (·.dirs)++[ds])):=by simp[cLD]
   have hs3:=hsu.trans hs2
   simp only[h3,Al2,Al3] at hs3
   simp(disch:=omega) only[wrap64,e1,go_sem]
   exact goJ (hJ (o',ops.map (·.dirs)++(done.map (·.dirs)++[ds])) H3 ⟨by simp,by simpa[Nat.add_assoc] using hs3⟩) (by simp(disch:=omega) only[wrap64,go_sem])
 ·rintro done x rest ⟨o1,a⟩ H1 J hd hlt _ ⟨hn,hs⟩ hJ
  have hg:=Yk hd
  simp only at hn
  subst hn
  have h3:=zgF (done.map (·.dirs))
  simp only[List.length_map] at h3
  replace hs:OwnS H .nil H1 o1 done.length 1:=hs
  obtain⟨k,nm,vs,ds,ss⟩:=x
  rw[zap] at hg
  simp(disch:=omega) only[l1,hlt,hg,go_sem]
  refine zc fun b5 hb5=>?_
  have hsu:=hs.upd (x:=.cells [.int .i64 k,.str nm,.sl .no 10 (cWs vs),.sl .no 2 (cDs ds),.sl .no 7 (cSs ss)]) hb5
  simp(disch:=omega) only[go_sem]
  refine zp (by rw[h3];exact hsu.own) ?_ ?_ fun o' H3 hs2=>?_
  ·simp only[h3,Al2,Al3];omega
  ·simp only[h3,Al2,Al3,maxLen];omega
  have e1:cLD (done.map (·.dirs))++[[AV.sl .no 2 (cDs ds)]]=cLD (done.map (·.dirs)++[ds]):=by simp[cLD]
  have hs3:=hsu.trans hs2
  simp only[h3,Al2,Al3] at hs3
  simp(disch:=omega) only[wrap64,e1,go_sem]
  exact goJ (hJ (o',done.map (·.dirs)++[ds]) H3 ⟨by simp,by simpa using hs3⟩) (by simp(disch:=omega) only[wrap64,go_sem])
def zpv (f:FuncId) (p:List DirD→Bool):Prop:=Program.callable Tryz.prog f=true∧∀ l:List DirD,l.length≤Lim→zg Tryz.prog f [.sl .no 2 (cDs l)] (.bool (p l))
theorem zpq {d:DocD} {l:List DirD} (h:l∈zbd d):l.length≤zq d:=by
 simp only[zbd,List.mem_append,List.mem_map] at h
 rcases h with ⟨o,ho,rfl⟩|⟨f,hf,rfl⟩
 ·obtain⟨a,b,hd⟩:=List.append_of_mem ho
  have:=YE a o b
  have h2:=zaA o.dirs
  rw[← hd] at this
  simp only[bO] at this;simp only[zq];omega
 ·have:=zaY hf
  have h2:=zaA f.dirs
  simp only[bF] at this;simp only[zq];omega
theorem zmH (d:DocD) (f:FuncId) (p:List DirD→Bool) (hb:zq d≤Lim) (hf:zpv f p):zg Tryz.prog 72 [.agg (zP d),.clo f [] []] (.bool ((zbd d).all p)):=by
 have h1:=fun H=>zxN d H hb
 have hm:=fun l (h:l∈zbd d)=>hf.2 l (by have:=zpq h;omega)
 have hol:=y9 d.ops
 have hfl:=yx d.frags
 have hb':bOs d.ops+bFs d.frags≤1099511627776:=by simpa only[Lim,zq] using hb
 have hlen:(zbd d).length≤1099511627776:=by simp only[zbd,Al5,List.length_map];omega
 generalize zbd d=L at *
 have l1:=zgF L
 obtain⟨ops,frags⟩:=d
 simp only[zP] at h1 ⊢
 refine zg.go ir72 ck72 (Al4 _) fun KP Q hQ=>?_
 simp(disch:=omega) only[ir72,go_sem]
 refine zB (h1 _) fun o2 H2 hs2=>?_
 simp(disch:=omega) only[l1,go_sem]
 refine zf L 10 (fun _:Unit=>[]) (fun done rest _ H=>rest.all p=L.all p) () (by simp(disch:=omega) only[go_sem]) rfl ?_ ?_
 ·rintro _ H J hn hlt
  simp(disch:=omega) only[l1,hlt,go_sem]
  exact hQ _ _ _ [.bool true] nofun rfl (by rw[← hn];rfl)
 ·rintro done x rest _ H J hd hlt _ hn hJ
  have hg:=ztv hd
  have hx:=hm x (by rw[hd];simp)
  rw[List.all_cons] at hn
  simp(disch:=omega) only[l1,hlt,hg,go_sem]
  refine⟨hf.1,za hx ?_⟩
  cases hv:p x with
  | false =>
   rw[hv] at hn
   simp(disch:=omega) only[go_sem]
   exact hQ _ _ _ [.bool false] nofun rfl (by rw[← hn];rfl)
  | true =>
   rw[hv] at hn
   simp(disch:=omega) only[go_sem]
   exact goJ (hJ () _ (by simpa using hn)) (by simp(disch:=omega) only[wrap64,go_sem])
def zcW:SelD→List DirD
 | .mk _ _ _ _ dirs _ _=>dirs
theorem ziN (s:SchD) (d:DocD) (f:FuncId) (p:List DirD→Bool) (hs:zI s≤Lim) (hb:zq d≤Lim) (hf:zpv f p):zg Tryz.prog 74 [.agg (zl s),.agg (zP d),.clo f [] []] (.bool (yZ s d fun _ x=>p (zcW x))):=by
 have h1:=zrl s d 149 [.view [.clo f [] []]] (fun _ x=>p (zcW x)) hs hb ⟨by kernel_rfl,fun typ x hx=>by
  obtain⟨k,al,nm,args,dirs,on,xs⟩:=x
  have hdl:=zaA dirs
  have h2:=hf.2 dirs (by simp only[bS] at hx;omega)
  simp only[zcW]
  rw[yM]
  refine zg.go ir149 ck149 (Al4 _) fun KP Q hQ=>?_
  simp(disch:=omega) only[ir149,go_sem]
  refine⟨hf.1,za h2 ?_⟩
  simp(disch:=omega) only[go_sem]
  exact hQ _ _ _ _ nofun rfl (by simp[zd,ze,AV.strip,AV.strip1])⟩
 generalize (yZ s d fun _ x=>p (zcW x))=x1 at *
 obtain⟨ops,frags⟩:=d
 obtain⟨sd,sq,sm⟩:=s
 simp only[zl,zP] at h1 ⊢
 refine zg.go ir74 ck74 (Al4 _) fun KP Q hQ=>?_
 simp(disch:=omega) only[ir74,go_sem]
 refine za h1 ?_
 simp(disch:=omega) only[go_sem]
 exact hQ _ _ _ _ nofun rfl (by simp[zd,ze,AV.strip,AV.strip1])
def zdj:List DirD→List DirD→Bool
 | _,[]=>true
 | a,x::r=>!(a.any fun y=>decide (y.nm=x.nm))&&zdj (a++[x]) r
def zbx (l:List DirD):Bool:=zdj [] l
theorem zpz (l:List DirD) (hl:l.length≤Lim):zg Tryz.prog 76 [.sl .no 2 (cDs l)] (.bool (zbx l)):=by
 refine zg.go ir76 ck76 (Al4 _) fun KP Q hQ=>?_
 have h1:=YG l
 have e0:zbx l=zdj [] l:=rfl
 generalize zbx l=F at *
 simp only[Lim] at hl
 simp(disch:=omega) only[ir76,h1,go_sem]
 refine zf l 10 (fun _:Unit=>[(3,.bool true)]) (fun done rest _ H=>zdj done rest=F) () (by simp(disch:=omega) only[go_sem]) e0.symm ?_ ?_
 ·rintro _ H J hn hlt
  simp(disch:=omega) only[h1,hlt,go_sem]
  exact hQ _ _ _ [.bool true] nofun rfl (by rw[← hn];rfl)
 ·rintro done x rest _ H J hd hlt _ hn hJ
  have hg:=zaI hd
  have htk:(cDs l).take done.length=cDs done:=by rw[hd];simp[cDs]
  have hle:(done.length:Int)≤l.length:=by omega
  have h2:=YG done
  simp only[zdj] at hn
  obtain⟨nm,args⟩:=x
  simp only at hn
  rw[zhC] at hg
  simp(disch:=omega) only[h1,hlt,hg,go_sem]
  refine zc fun b5 hb5=>?_
  simp(disch:=omega) only[htk,hle,h1,h2,go_sem]
  refine zf done 19 (fun _:Unit=>[]) (fun done2 rest2 _ H2=>H2 b5=some (.cells [.str nm,.sl .no 6 (cMs args)])∧(rest2.any fun y=>decide (y.nm=nm))=done.any fun y=>decide (y.nm=nm)) () (by simp(disch:=omega) only[go_sem]) ⟨upd_same ..,rfl⟩ ?_ ?_
  ·rintro _ H2 J2 ⟨hH,hn2⟩ hlt2
   rw[← hn2] at hn
   simp(disch:=omega) only[h2,hlt2,go_sem]
   exact goJ (hJ () _ (by simpa using hn)) (by simp(disch:=omega) only[wrap64,go_sem])
  ·rintro done2 y rest2 _ H2 J2 hd2 hlt2 _ ⟨hH,hn2⟩ hJ2
   have hg2:=zaI hd2
   rw[List.any_cons] at hn2
   obtain⟨ym,yargs⟩:=y
   simp only at hn2
   rw[zhC] at hg2
   simp(disch:=omega) only[h2,hlt2,hg2,go_sem]
   refine zc fun b7 hb7=>?_
   have hne:b5≠b7:=fun e=>by subst e;rw[hH] at hb7;cases hb7
   by_cases hy:ym=nm
   ·rw[← hn2] at hn
    have hy':=eq_true hy
    simp(disch:=omega) only[hH,hne,Ne.symm hne,hy',go_sem]
    exact hQ _ _ _ [.bool false] nofun rfl (by rw[← hn];simp[hy,zd,AV.strip,AV.strip1])
   ·simp(disch:=omega) only[hH,hne,Ne.symm hne,hy,go_sem]
    exact goJ (hJ2 () _ ⟨by simp(disch:=omega) only[hH,hne,Ne.symm hne,go_sem],by rw[← hn2];simp[hy]⟩) (by simp(disch:=omega) only[wrap64,go_sem])
def Yg (s:SchD) (d:DocD) (n:Int):Bool :=
 if n=12 then (zbd d).all Yd&&yZ s d (fun _ x=>Yd (zcW x)) else if n=13 then (zbd d).all (fun l=>decide (l.length=0))
 else if n=14 then (zbd d).all zbx&&yZ s d (fun _ x=>zbx (zcW x)) else false
theorem zrD (s:SchD) (d:DocD) (n:Int) (hs:zI s≤Lim) (hb:zq d≤Lim):zg Tryz.prog 36 [.agg (zl s),.agg (zP d),.int .i64 n] (.bool (Yg s d n)):=by
 have f1:zpv 73 Yd:=⟨by kernel_rfl,zoX⟩
 have f2:zpv 75 (fun l=>decide (l.length=0)):=⟨by kernel_rfl,fun l _=>zoR l⟩
 have f3:zpv 76 zbx:=⟨by kernel_rfl,zpz⟩
 have h1:=zmH d _ _ hb f1
 have h2:=zmH d _ _ hb f2
 have h3:=zmH d _ _ hb f3
 have h4:=ziN s d _ _ hs hb f1
 have h5:=ziN s d _ _ hs hb f3
 unfold Yg
 generalize (zbd d).all Yd=x1 at *
 generalize (zbd d).all zbx=x3 at *
 generalize ((zbd d).all fun l=>decide (l.length=0))=x2 at *
 generalize (yZ s d fun _ x=>Yd (zcW x))=x4 at *
 generalize (yZ s d fun _ x=>zbx (zcW x))=x5 at *
 obtain⟨ops,frags⟩:=d
 obtain⟨sd,sq,sm⟩:=s
 simp only[zl,zP] at h1 h2 h3 h4 h5 ⊢
 refine zg.go ir36 ck36 (Al4 _) fun KP Q hQ=>?_
 by_cases n1:n=12
 ·subst n1
  simp(disch:=omega) only[ir36,go_sem]
  refine za h1 ?_
  cases x1 with
  | false =>
   simp(disch:=omega) only[go_sem]
   exact hQ _ _ _ _ nofun rfl (by simp[zd,ze,AV.strip,AV.strip1])
  | true =>
   simp(disch:=omega) only[go_sem]
   refine za h4 ?_
   simp(disch:=omega) only[go_sem]
   exact hQ _ _ _ _ nofun rfl (by simp[zd,ze,AV.strip,AV.strip1])
 by_cases n2:n=13
 ·subst n2
  simp(disch:=omega) only[ir36,go_sem]
  refine za h2 ?_
  simp(disch:=omega) only[go_sem]
  exact hQ _ _ _ _ nofun rfl (by simp[zd,ze,AV.strip,AV.strip1])
 by_cases n3:n=14
 ·subst n3
  simp(disch:=omega) only[ir36,go_sem]
  refine za h3 ?_
  cases x3 with
  | false =>
   simp(disch:=omega) only[go_sem]
   exact hQ _ _ _ _ nofun rfl (by simp[zd,ze,AV.strip,AV.strip1])
  | true =>
   simp(disch:=omega) only[go_sem]
   refine za h5 ?_
   simp(disch:=omega) only[go_sem]
   exact hQ _ _ _ _ nofun rfl (by simp[zd,ze,AV.strip,AV.strip1])
 ·simp(disch:=omega) only[ir36,n1,n2,n3,go_sem]
  exact hQ _ _ _ _ nofun rfl (by simp[zd,ze,AV.strip,AV.strip1,n1,n2,n3])
def mN:Mem→List UInt8
 | .mk n _=>n
def Y5 (ps:List VarD) (l:List Mem):Bool:=l.all fun m=>(z6 ps (mN m)).isSome
theorem zoV (ps:List VarD) (l:List Mem) (hp:ps.length≤Lim) (hl:l.length≤Lim):zg Tryz.prog 78 [.sl .no 10 (cWs ps),.sl .no 6 (cMs l)] (.bool (Y5 ps l)):=by
 refine zg.go ir78 ck78 (Al4 _) fun KP Q hQ=>?_
 have h1:=yS l
 have hP:=fun n=>zeb ps n hp
 simp only[Lim] at hl
 simp(disch:=omega) only[ir78,h1,go_sem]
 refine zf l 11 (fun _:Unit=>[]) (fun done rest _ H=>Y5 ps rest=Y5 ps l) () (by simp(disch:=omega) only[go_sem]) rfl ?_ ?_
 ·rintro _ H J hn hlt
  simp(disch:=omega) only[h1,hlt,go_sem]
  exact hQ _ _ _ [.bool true] nofun rfl (by rw[← hn];rfl)
 ·rintro done x rest _ H J hd hlt _ hn hJ
  have hg:=Zy hd
  have hstep:Y5 ps (x::rest)=((z6 ps (mN x)).isSome&&Y5 ps rest):=by simp[Y5]
  rw[hstep] at hn
  obtain⟨nm,⟨xk,xq,xs,xl,xm⟩⟩:=x
  simp only[mN] at hn
  have hPn:=hP nm
  rw[zA,ye] at hg
  generalize (z6 ps nm).getD zW=w at *
  obtain⟨wn,⟨w1,w2,w3⟩,wh,⟨wk,wq,ws,wl,wm⟩⟩:=w
  rw[zZ] at hPn
  simp(disch:=omega) only[h1,hlt,hg,go_sem]
  refine zc fun b6 hb6=>?_
  simp(disch:=omega) only[go_sem]
  refine za hPn ?_
  simp(disch:=omega) only[go_sem]
  refine zc fun b7 hb7=>?_
  have hne:=yF hb7
  cases hv:(z6 ps nm).isSome with
  | false =>
   rw[hv] at hn
   simp(disch:=omega) only[hne,Ne.symm hne,go_sem]
   exact hQ _ _ _ [.bool false] nofun rfl (by rw[← hn];rfl)
  | true =>
   rw[hv] at hn
   simp(disch:=omega) only[hne,Ne.symm hne,go_sem]
   exact goJ (hJ () _ (by simpa using hn)) (by simp(disch:=omega) only[wrap64,go_sem])
theorem zmn (ps:List VarD) (l:List Mem) (hp:bWs ps≤Lim) (hl:l.length≤Lim):zg Tryz.prog 80 [.sl .no 10 (cWs ps),.sl .no 6 (cMs l)] (.bool (zdM ps l)):=by
 refine zg.go ir80 ck80 (Al4 _) fun KP Q hQ=>?_
 have h1:=Zj ps
 have hpl:=yD ps
 have hp':=hp
 simp only[Lim] at hp'
 simp(disch:=omega) only[ir80,h1,go_sem]
 refine zf ps 11 (fun _:Unit=>[]) (fun done rest _ H=>zdM rest l=zdM ps l) () (by simp(disch:=omega) only[go_sem]) rfl ?_ ?_
 ·rintro _ H J hn hlt
  simp(disch:=omega) only[h1,hlt,go_sem]
  exact hQ _ _ _ [.bool true] nofun rfl (by rw[← hn];rfl)
 ·rintro done x rest _ H J hd hlt _ hn hJ
  have hg:=Z9 hd
  have hR:=zu7 x (by have:=@YD x ps (by rw[hd];simp);simp only[bW] at this;simp only[Lim];omega)
  have hG:=zsA x.nm l hl
  have hstep:zdM (x::rest) l=(((zau x.nm l).2||!zhY x)&&zdM rest l):=by simp[zdM]
  rw[hstep] at hn
  generalize zhY x=rq at *
  obtain⟨nm,⟨t1,t2,t3⟩,hh,⟨xk,xq,xs,xl,xm⟩⟩:=x
  rw[zZ] at hg hR
  simp only at hG hn
  generalize zau nm l=g at *
  obtain⟨⟨gk,gq,gs,gl,gm⟩,gb⟩:=g
  simp only[ye] at hG
  simp(disch:=omega) only[h1,hlt,hg,go_sem]
  refine zc fun b6 hb6=>?_
  simp(disch:=omega) only[go_sem]
  refine za hG ?_
  simp(disch:=omega) only[go_sem]
  refine zc fun b7 hb7=>?_
  have hne:=yF hb7
  cases gb with
  | true =>
   simp(disch:=omega) only[hne,Ne.symm hne,go_sem]
   exact goJ (hJ () _ (by simpa using hn)) (by simp(disch:=omega) only[wrap64,go_sem])
  | false =>
   simp(disch:=omega) only[hne,Ne.symm hne,go_sem]
   refine za hR ?_
   cases rq with
   | true =>
    simp(disch:=omega) only[go_sem]
    exact hQ _ _ _ [.bool false] nofun rfl (by rw[← hn];rfl)
   | false =>
    simp(disch:=omega) only[go_sem]
    exact goJ (hJ () _ (by simpa using hn)) (by simp(disch:=omega) only[wrap64,go_sem])
def Zw:List Mem→List Mem→Bool
 | _,[]=>true
 | a,x::r=>!(zau (mN x) a).2&&Zw (a++[x]) r
theorem zrQ (l:List Mem) (hl:l.length≤Lim):zg Tryz.prog 153 [.sl .no 6 (cMs l)] (.bool (Zw [] l)):=by
 refine zg.go ir153 ck153 (Al4 _) fun KP Q hQ=>?_
 have h1:=yS l
 simp only[Lim] at hl
 simp(disch:=omega) only[ir153,h1,go_sem]
 refine zf l 9 (fun _:Unit=>[]) (fun done rest _ H=>Zw done rest=Zw [] l) () (by simp(disch:=omega) only[go_sem]) rfl ?_ ?_
 ·rintro _ H J hn hlt
  simp(disch:=omega) only[h1,hlt,go_sem]
  exact hQ _ _ _ [.bool true] nofun rfl (by rw[← hn];rfl)
 ·rintro done x rest _ H J hd hlt _ hn hJ
  have hg:=Zy hd
  have htk:(cMs l).take done.length=cMs done:=by rw[zbE,zbE,hd];simp
  have hle:(done.length:Int)≤l.length:=by omega
  obtain⟨nm,⟨xk,xq,xs,xl,xm⟩⟩:=x
  simp only[Zw,mN] at hn
  have hG:=zsA nm done (by simp only[Lim];omega)
  rw[zA,ye] at hg
  generalize zau nm done=g at *
  obtain⟨⟨gk,gq,gs,gl,gm⟩,gb⟩:=g
  simp only[ye] at hG hn
  simp(disch:=omega) only[h1,hlt,hg,go_sem]
  refine zc fun b4 hb4=>?_
  simp(disch:=omega) only[h1,hle,htk,go_sem]
  refine za hG ?_
  simp(disch:=omega) only[go_sem]
  refine zc fun b5 hb5=>?_
  have hne:=yF hb5
  cases gb with
  | true =>
   simp(disch:=omega) only[hne,Ne.symm hne,go_sem]
   exact hQ _ _ _ [.bool false] nofun rfl (by rw[← hn];rfl)
  | false =>
   simp(disch:=omega) only[hne,Ne.symm hne,go_sem]
   exact goJ (hJ () _ (by simpa using hn)) (by simp(disch:=omega) only[wrap64,go_sem])
theorem zpa (v:AV) (l:List Mem) (hl:l.length≤Lim):zg Tryz.prog 79 [v,.sl .no 6 (cMs l)] (.bool (Zw [] l)):=by
 refine zg.go ir79 ck79 (Al4 _) fun KP Q hQ=>?_
 simp(disch:=omega) only[ir79,go_sem]
 refine za (zrQ l hl) ?_
 simp(disch:=omega) only[go_sem]
 exact hQ _ _ _ _ nofun rfl (by simp[zd,ze,AV.strip,AV.strip1])
def yT (d:DirD):List VarD:=match zbH d.nm with
 | none=>[]
 | some p=>[p]
theorem zh6 (d:DirD):zg Tryz.prog 151 [.agg (cD d)] (.sl .no 10 (cWs (yT d))):=by
 obtain⟨nm,args⟩:=d
 have h1:=ziB nm
 have e0:yT ⟨nm,args⟩=match zbH nm with|none=>[]|some p=>[p]:=rfl
 generalize yT ⟨nm,args⟩=F at *
 rw[zhC]
 refine zg.go ir151 ck151 (Al4 _) fun KP Q hQ=>?_
 simp(disch:=omega) only[ir151,go_sem]
 cases hp:zbH nm with
 | none =>
  rw[hp] at h1 e0
  refine za h1 ?_
  simp(disch:=omega) only[Option.getD,Option.isSome,zW,zV,zZ,go_sem]
  refine zc fun b3 hb3=>?_
  simp(disch:=omega) only[go_sem]
  exact hQ _ _ _ [.sl .nil 10 []] nofun rfl (by rw[e0];rfl)
 | some p =>
  rw[hp] at h1 e0
  obtain⟨wn,⟨w1,w2,w3⟩,wh,⟨wk,wq,ws,wl,wm⟩⟩:=p
  refine za h1 ?_
  simp(disch:=omega) only[Option.getD,Option.isSome,zZ,go_sem]
  refine zc fun b3 hb3=>?_
  simp(disch:=omega) only[go_sem]
  exact hQ _ _ _ [.sl .full 10 [cW ⟨wn,⟨w1,w2,w3⟩,wh,.mk wk wq ws wl wm⟩]] nofun rfl (by rw[e0];rfl)
def zwQ (f:FuncId) (caps:List AV) (p:List VarD→List Mem→Bool):Prop:=Program.callable Tryz.prog f=true∧∀ ps l,bWs ps≤Lim→bMs l≤Lim→zg Tryz.prog f (.sl .no 10 (cWs ps)::.sl .no 6 (cMs l)::caps) (.bool (p ps l))
def zbO (s:SchD) (p:List VarD→List Mem→Bool) (typ:List UInt8):SelD→Bool
 | .mk k _ nm args dirs _ _=>(!decide (k=0)||p ((yb s typ nm).getD zF).ps args)&&dirs.all fun d=>p (yT d) d.args
theorem zfB (s:SchD) (typ nm:List UInt8):bWs ((yb s typ nm).getD zF).ps≤zI s:=by
 cases h:yb s typ nm with
 | none=>simp[zF,bWs]
 | some f =>
  unfold yb at h
  split at h
  ·cases h;simp[tnF,bWs]
  ·split at h
   ·cases h
   ·rename_i d hd
    split at h
    ·have h1:=zcH (List.mem_of_find?_eq_some h)
     have h2:=(Yw hd).1
     have h3:=@zj1 f
     show bWs f.ps≤_
     omega
    ·cases h
theorem zcw (d:DirD):bWs (yT d)≤100:=by
 unfold yT zbH
 split
 ·simp[bWs]
 ·rename_i p hp
  split at hp
  ·cases hp;decide
  ·cases hp
theorem zsR {d:DirD} {l:List DirD} (h:d∈l):bMs d.args≤bDs l:=by
 obtain⟨a,b,hd⟩:=List.append_of_mem h
 have:=zcD a d b
 rw[← hd] at this
 simp only[bD] at this
 omega
theorem zo8 (s:SchD) (f:FuncId) (caps:List AV) (p:List VarD→List Mem→Bool) (hs:zI s≤Lim) (hf:zwQ f caps p) (typ:List UInt8) (x:SelD) (hx:bS x≤Lim) :
  zg Tryz.prog 150 [.str typ,.agg (cS x),.view (zl s),.view [.clo f [] caps]] (.bool (zbO s p typ x)):=by
 obtain⟨k,al,nm,args,dirs,on,xs⟩:=x
 have h1:=zfw s typ nm hs
 have hps:=zfB s typ nm
 simp only[bS] at hx
 have h2:=hf.2 ((yb s typ nm).getD zF).ps args (by omega) (by omega)
 have h3:=fun(d:DirD) (h:d∈dirs)=>hf.2 (yT d) d.args (by have:=zcw d;simp only[Lim];omega) (by have:=zsR h;omega)
 have e0:zbO s p typ (.mk k al nm args dirs on xs)=((!decide (k=0)||p ((yb s typ nm).getD zF).ps args)&&dirs.all fun d=>p (yT d) d.args):=rfl
 generalize zbO s p typ (.mk k al nm args dirs on xs)=F at *
 generalize (yb s typ nm).isSome=fs at *
 generalize (yb s typ nm).getD zF=w at *
 obtain⟨fn,fp,⟨f1,f2,f3⟩,fd⟩:=w
 simp only at h2 e0
 generalize p fp args=x1 at *
 have hdl:=zaA dirs
 have l1:=YG dirs
 have hx':=hx
 simp only[Lim] at hx'
 obtain⟨sd,sq,sm⟩:=s
 simp only[zl,zaL,yM] at h1 ⊢
 refine zg.go ir150 ck150 (Al4 _) fun KP Q hQ=>?_
 have three:(k=0∧x1=false)∨((!decide (k=0)||x1)=true∧(k=0→x1=true)):=by cases x1<;>by_cases h:k=0<;>simp[h]
 rcases three with ⟨h0,hx1⟩|⟨h0,hx1⟩
 ·subst h0
  subst hx1
  simp(disch:=omega) only[ir150,go_sem]
  refine za h1 ?_
  simp(disch:=omega) only[go_sem]
  refine zc fun b7 hb7=>?_
  simp(disch:=omega) only[go_sem]
  refine⟨hf.1,za h2 ?_⟩
  simp(disch:=omega) only[go_sem]
  exact hQ _ _ _ [.bool false] nofun rfl (by rw[e0];rfl)
 rw[h0,Bool.true_and] at e0
 by_cases hk:k=0
 case' pos =>
  have hx2:=hx1 hk
  subst hk
  subst hx2
  simp(disch:=omega) only[ir150,go_sem]
  refine za h1 ?_
  simp(disch:=omega) only[go_sem]
  refine zc fun b7 hb7=>?_
  simp(disch:=omega) only[go_sem]
  refine⟨hf.1,za h2 ?_⟩
  simp(disch:=omega) only[l1,go_sem]
 case' neg=>simp(disch:=omega) only[ir150,hk,l1,go_sem]
 all_goals
  refine zf dirs 32 (fun _:Unit=>[]) (fun done rest _ H=>(rest.all fun d=>p (yT d) d.args)=F) () (by simp(disch:=omega) only[go_sem]) e0.symm ?_ ?_
  ·rintro _ H J hn hlt
   simp(disch:=omega) only[l1,hlt,go_sem]
   exact hQ _ _ _ [.bool true] nofun rfl (by rw[← hn];rfl)
  ·rintro done d rest _ H J hd hlt _ hn hJ
   have hg:=zaI hd
   have hP:=zh6 d
   have hc:=h3 d (by rw[hd];simp)
   rw[List.all_cons] at hn
   generalize p (yT d) d.args=y1 at *
   generalize yT d=ps at *
   obtain⟨dn,da⟩:=d
   simp only at hc
   rw[zhC] at hg hP
   simp(disch:=omega) only[l1,hlt,hg,go_sem]
   refine zc fun b10 hb10=>?_
   simp(disch:=omega) only[go_sem]
   refine za hP ?_
   simp(disch:=omega) only[go_sem]
   refine⟨hf.1,za hc ?_⟩
   cases y1 with
   | false =>
    simp(disch:=omega) only[go_sem]
    exact hQ _ _ _ [.bool false] nofun rfl (by rw[← hn];rfl)
   | true =>
    simp(disch:=omega) only[go_sem]
    exact goJ (hJ () _ (by simpa using hn)) (by simp(disch:=omega) only[wrap64,go_sem])
end Go.Proofs.YtbjofkamhijjlaaGreatDoor
