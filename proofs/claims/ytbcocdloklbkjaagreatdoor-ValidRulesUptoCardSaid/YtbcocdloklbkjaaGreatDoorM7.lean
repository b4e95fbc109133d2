import Derived.Test.YtbcocdloklbkjaaGreatDoorM1
import Derived.Test.YtbcocdloklbkjaaGreatDoorM2
import Derived.Test.YtbcocdloklbkjaaGreatDoorM3
import Derived.Test.YtbcocdloklbkjaaGreatDoorM4
import Derived.Test.YtbcocdloklbkjaaGreatDoorM5
import Derived.Test.YtbcocdloklbkjaaGreatDoorM6
set_option maxRecDepth 100000
set_option linter.all false
namespace Go.Proofs.YtbcocdloklbkjaaGreatDoor
open Go.Ab
theorem zkL {H H':zb} {o:Own} {n sz:Nat} (h:ya H o n sz) (hk:Kept H .nil H'):ya H' o n sz:=by
 cases o with
 | no=>exact h
 | nil=>exact h
 | full=>exact h
 | tip b d=>exact hk b _ h fun d' e=>by cases e
def Yh (s:SchD) (l:List (List UInt8)) (p:VarD):List (List UInt8):=if p.t.lists=0∧isM p.t=true∧y8 s p.t.nm [5]=true∧yu p.t.nm l=false then l++[p.t.nm] else l
def zbr (s:SchD) (n:List UInt8):List (List UInt8):=((yM s n).getD zE).ps.foldl (Yh s) []
theorem zjg (s:SchD) (l:List (List UInt8)) (p:VarD):(Yh s l p).length≤l.length+1:=by unfold Yh;split<;>simp
theorem zsT (s:SchD) (n:List UInt8) (H:zb) (hs:zN s≤Lim):Y5 Tryz.prog 219 [.agg (zr s),.str n] H .nil 1 (cT (zbr s n)):=by
 have hl:=yc hs
 have h1:=zer s n hl
 have hle:=@Yi s n
 have hkind:=fun p=>zcj s p [5] hl (by decide)
 have hbs:zN s≤1099511627776:=by simpa only[Lim] using hs
 have hps:∀ x,(yM s n).getD zE=x→bWs x.ps≤zN s:=by
  intro x hx
  cases h:yM s n with
  | none=>rw[h] at hx;subst hx;simp[zE,bWs]
  | some y=>rw[h] at hx;subst hx;exact(hle h).2.2.2
 have e0:zbr s n=((yM s n).getD zE).ps.foldl (Yh s) []:=rfl
 generalize zbr s n=F at *
 generalize (yM s n).isSome=fs at *
 generalize (yM s n).getD zE=x at *
 replace hps:=hps x rfl
 obtain⟨xk,xn,xfs,xfl,xps,xpa⟩:=x
 simp only at hps e0
 have hpl:=yS xpa
 have l1:=Zs xpa
 obtain⟨sd,sq,sm⟩:=s
 generalize hS:(⟨sd,sq,sm⟩:SchD)=s at *
 have hcs:zr s=[.sl .no 6 (cEs sd),.str sq,.str sm]:=by rw[← hS];rfl
 simp only[hcs,yg,List.map,cI] at h1 hkind ⊢
 refine zj.goO ir219 ck219 (Al4 _) fun KP Q hQ hP=>?_
 simp(disch:=omega) only[ir219,go_sem]
 refine za h1 ?_
 simp(disch:=omega) only[go_sem]
 refine zc fun b5 hb5=>?_
 simp(disch:=omega) only[l1,go_sem]
 refine zf xpa 19 (fun x:Own×List (List UInt8)=>[(7,.sl x.1 1 (cT x.2))]) (fun done rest x H'=>rest.foldl (Yh s) x.2=xpa.foldl (Yh s) []∧x.2.length+rest.length≤xpa.length∧OwnS H .nil H' x.1 x.2.length 1) (.nil,[]) (by simp(disch:=omega) only[cT,List.map,go_sem]) ⟨rfl,by simp,(OwnS.refl (o:=.nil) (n:=0) rfl).upd hb5⟩ ?_ ?_
 ·rintro⟨o1,a⟩ H' J ⟨hn,_,hs2⟩ hlt
  simp only[List.foldl] at hn
  simp(disch:=omega) only[l1,hlt,go_sem]
  refine hQ _ _ H' H' [.sl o1 1 (cT a)] nofun (by simp(disch:=omega) only[ir219,zQ,Zv,go_sem]) (Low.refl _) ⟨o1,by rw[e0,← hn];rfl,by rw[e0,← hn,zM];exact hs2⟩
 ·rintro done p rest ⟨o1,a⟩ H' J hd hlt _ ⟨hn,hle3,hs2⟩ hJ
  have hgt:=Zm hd
  have hpb:=@Yk p xpa (by rw[hd];simp)
  simp only[bW] at hpb
  replace hs2:OwnS H .nil H' o1 a.length 1:=hs2
  simp only[List.foldl,Al2] at hn hle3
  have hI:=isC p.t (by simp only[Lim];omega)
  have hK:=hkind p.t.nm
  have hC:=yP a p.t.nm (by simp only[Lim];omega)
  have hst:=zjg s a p
  have hne0:Yh s a p=if p.t.lists=0∧isM p.t=true∧y8 s p.t.nm [5]=true∧yu p.t.nm a=false then a++[p.t.nm] else a:=rfl
  obtain⟨nm,⟨t1,t2,t3⟩,hh,⟨xk,xq,xs,xl,xm⟩⟩:=p
  rw[z7] at hgt
  simp only at hI hK hC hne0
  simp only[cTy] at hI
  generalize isM ⟨t1,t2,t3⟩=y1 at *
  generalize y8 s t1 [5]=y2 at *
  have h3:=zM a
  simp(disch:=omega) only[l1,hlt,hgt,go_sem]
  refine zc fun b9 hb9=>?_
  have hsu:=hs2.upd (x:=.cells (cW ⟨nm,⟨t1,t2,t3⟩,hh,.mk xk xq xs xl xm⟩)) hb9
  rw[z7] at hsu
  by_cases h0:t2=0
  case neg =>
   rw[if_neg (fun h=>h0 h.1)] at hne0
   rw[hne0] at hn hst
   simp(disch:=omega) only[h0,go_sem]
   exact goJ (hJ (o1,a) _ ⟨hn,by simp only;omega,hsu⟩) (by simp(disch:=omega) only[wrap64,go_sem])
  subst h0
  simp(disch:=omega) only[go_sem]
  refine za hI ?_
  cases y1 with
  | false =>
   rw[if_neg (by simp)] at hne0
   rw[hne0] at hn hst
   simp(disch:=omega) only[go_sem]
   exact goJ (hJ (o1,a) _ ⟨hn,by simp only;omega,hsu⟩) (by simp(disch:=omega) only[wrap64,go_sem])
  | true =>
  simp(disch:=omega) only[go_sem]
  refine za (zi.low hK) ?_
  cases y2 with
  | false =>
   rw[if_neg (by simp)] at hne0
   rw[hne0] at hn hst
   simp(disch:=omega) only[go_sem]
   exact goJ (hJ (o1,a) _ ⟨hn,by simp only;omega,hsu⟩) (by simp(disch:=omega) only[wrap64,go_sem])
  | true =>
  simp(disch:=omega) only[go_sem]
  refine za (zi.low hC) ?_
  cases hh2:yu t1 a with
  | true =>
   rw[if_neg (by simp[hh2])] at hne0
   rw[hne0] at hn hst
   simp(disch:=omega) only[go_sem]
   exact goJ (hJ (o1,a) _ ⟨hn,by simp only;omega,hsu⟩) (by simp(disch:=omega) only[wrap64,go_sem])
  | false =>
   rw[if_pos ⟨rfl,rfl,rfl,hh2⟩] at hne0
   rw[hne0] at hn hst
   simp(disch:=omega) only[go_sem]
   refine zw (by rw[h3];exact hsu.own) ?_ ?_ fun o' H2 hs3=>?_
   ·simp only[h3,Al2,Al3];omega
   ·simp only[h3,Al2,Al3,maxLen];omega
   have e1:cT a++[[AV.str t1]]=cT (a++[t1]):=by simp[cT]
   have hs4:=hsu.trans hs3
   simp only[h3,Al2,Al3] at hs4
   simp(disch:=omega) only[wrap64,e1,go_sem]
   exact goJ (hJ (o',a++[t1]) H2 ⟨hn,by simp only[Al5,Al2,Al3];omega,by simpa using hs4⟩) (by simp(disch:=omega) only[go_sem])
def OkL (s:SchD) (l:List (List UInt8)):Prop:=l.Nodup∧∀ x∈l,x∈s.defs.map (·.nm)
theorem zne {s:SchD} {n:List UInt8} (h:y8 s n [5]=true):n∈s.defs.map (·.nm):=by
 unfold y8 at h
 cases hf:yM s n with
 | none=>rw[hf] at h;cases h
 | some d =>
  rw[hf] at h
  have hk:d.k=5:=by simpa[zmI] using h
  unfold yM at hf
  split at hf
  ·cases hf;simp[scE] at hk
  ·have h1:=List.mem_of_find?_eq_some hf
   have h2:=List.find?_some hf
   simp only[nmE,yw] at h2
   exact List.mem_map.2 ⟨d,h1,h2⟩
theorem zle {s:SchD} {l:List (List UInt8)} {x:List UInt8} (h:OkL s l) (hx:yu x l=false) (hm:x∈s.defs.map (·.nm)):OkL s (l++[x]):=by
 have hx':x ∉ l:=fun h=>by rw[(zgl x l).2 h] at hx;cases hx
 refine⟨List.nodup_append.2 ⟨h.1,by simp,fun a ha b hb e=>?_⟩,fun y hy=>?_⟩
 ·simp only[List.mem_singleton] at hb
  subst hb;subst e;exact hx' ha
 ·rcases List.mem_append.1 hy with h1|h1
  ·exact h.2 y h1
  ·simp only[List.mem_singleton] at h1
   subst h1;exact hm
theorem zkh {s:SchD} {l:List (List UInt8)} (p:VarD) (h:OkL s l):OkL s (Yh s l p):=by
 unfold Yh
 split
 ·rename_i hc;exact zle h hc.2.2.2 (zne hc.2.2.1)
 ·exact h
theorem ze9 {s:SchD}:∀(ps:List VarD) {l:List (List UInt8)},OkL s l→OkL s (ps.foldl (Yh s) l)
 | [],_,h=>h
 | p::ps,_,h=>ze9 ps (zkh p h)
theorem zm8 (s:SchD) (n:List UInt8):OkL s (zbr s n):=ze9 _ ⟨List.nodup_nil,by simp⟩
theorem zqC {s:SchD} {l:List (List UInt8)} {x:List UInt8} (h:OkL s l) (hm:x∈s.defs.map (·.nm)):OkL s (zby l x):=by
 unfold zby
 split
 ·exact h
 ·rename_i hc;exact zle h (by simpa using hc) hm
theorem zid {s:SchD} {l:List (List UInt8)} (h:OkL s l):l.length≤s.defs.length:=by
 have:=List.Nodup.length_le_of_subset h.1 (fun x hx=>h.2 x hx)
 simpa using this
def zhJ (s:SchD) (n:List UInt8):Nat→List (List UInt8)→Nat→Bool
 | 0,_,_=>false
 | k+1,l,i=>match l[i]? with
  | none=>false
  | some x=>if x=n then true else zhJ s n k ((zbr s x).foldl zby l) (i+1)
def zkc (s:SchD) (n:List UInt8):Bool:=zhJ s n (s.defs.length+1) (zbr s n) 0
theorem zsr (s:SchD) (n:List UInt8) (hs:zN s≤Lim):zi Tryz.prog 183 [.agg (zr s),.str n] (.bool (zkc s n)):=by
 have hl:=yc hs
 have hbs:zN s≤1099511627776:=by simpa only[Lim] using hs
 have hds:s.defs.length≤1099511627776:=by simpa only[Lim] using hl
 have hN:=fun x H=>zsT s x H hs
 have hok:=zm8 s
 have e0:zkc s n=zhJ s n (s.defs.length+1) (zbr s n) 0:=rfl
 generalize zkc s n=F at *
 obtain⟨sd,sq,sm⟩:=s
 generalize hS:(⟨sd,sq,sm⟩:SchD)=s at *
 have hcs:zr s=[.sl .no 6 (cEs sd),.str sq,.str sm]:=by rw[← hS];rfl
 simp only[hcs] at hN ⊢
 refine zi.go ir183 ck183 (Al4 _) fun KP Q hQ=>?_
 have fin:∀ r,F=r→∀ ρ H,zQ ρ H ir183.res=some [.bool r]→Q .ret ρ H:=fun r e ρ H h1=>hQ _ ρ H _ nofun h1 (by rw[e];rfl)
 simp(disch:=omega) only[ir183,go_sem]
 refine zG (hN n _) fun o0 H0 hs0=>?_
 rw[zM] at hs0
 simp(disch:=omega) only[go_sem]
 refine zbp (fun x:Own×List (List UInt8)×Nat=>[(5,.sl x.1 1 (cT x.2.1)),(6,.int .i64 x.2.2)]) (fun x H'=>ya H' x.1 x.2.1.length 1∧OkL s x.2.1∧x.2.2≤s.defs.length∧zhJ s n (s.defs.length+1-x.2.2) x.2.1 x.2.2=F) (fun x=>s.defs.length+1-x.2.2) (o0,zbr s n,0) (by simp(disch:=omega) only[go_sem]) ⟨hs0.own,hok n,Nat.zero_le _,e0.symm⟩ ?_
 rintro⟨o,l,i⟩ H1 J ⟨ho,hk,hi,hr⟩ hJ
 replace ho:ya H1 o l.length 1:=ho
 simp only at hk hi hr
 have hlen:=zid hk
 have l1:=zM l
 have ek:s.defs.length+1-i=(s.defs.length-i)+1:=by omega
 rw[ek] at hr
 by_cases hil:i<l.length
 case neg =>
  have hg:l[i]?=none:=List.getElem?_eq_none (by omega)
  have hlt:¬ ((i:Int)<l.length):=by omega
  simp only[zhJ,hg] at hr
  simp(disch:=omega) only[l1,hlt,go_sem]
  exact fin false hr.symm _ _ rfl
 obtain⟨a,x,r,hlx,hai⟩:∃ a x r,l=a++x::r∧a.length=i:=⟨l.take i,l[i],l.drop (i+1),by rw[List.getElem_cons_drop,List.take_append_drop],by rw[List.length_take];omega⟩
 subst hai
 have hgx:l[a.length]?=some x:=by rw[hlx];simp
 have hgt:(cT l).getD a.length []=[.str x]:=Z0 hlx
 have hlt:(a.length:Int)<l.length:=by omega
 simp only[zhJ,hgx] at hr
 by_cases hx:x=n
 ·rw[if_pos hx] at hr
  have hx':=eq_true hx
  simp(disch:=omega) only[l1,hlt,hgt,hx',go_sem]
  exact fin true hr.symm _ _ rfl
 rw[if_neg hx] at hr
 simp(disch:=omega) only[l1,hlt,hgt,hx,go_sem]
 refine zG (hN x _) fun o2 H2 hs2=>?_
 have l3:=zM (zbr s x)
 rw[l3] at hs2
 have ho2:=zkL ho hs2.kept
 have hxs:=(hok x).2
 have hxl:=zid (hok x)
 generalize zbr s x=xs at *
 simp(disch:=omega) only[l3,go_sem]
 refine zf xs 31 (fun y:Own×List (List UInt8)=>[(5,.sl y.1 1 (cT y.2))]) (fun done rest y H'=>ya H' y.1 y.2.length 1∧OkL s y.2∧rest.foldl zby y.2=xs.foldl zby l) (o,l) (by simp(disch:=omega) only[go_sem]) ⟨ho2,hk,rfl⟩ ?_ ?_
 ·rintro⟨o3,l3'⟩ H3 J2 ⟨h31,h32,h33⟩ hlt3
  simp only[List.foldl] at h33
  rw[← h33] at hr
  simp only at h32
  simp(disch:=omega) only[l3,hlt3,go_sem]
  exact goJ (hJ (o3,l3',a.length+1) H3 (by simp only;omega) ⟨h31,h32,by simp only;omega,by simp only;rw[← hr];congr 1;omega⟩) (by simp(disch:=omega) only[wrap64,go_sem];simp)
 ·rintro done y rest ⟨o3,l3'⟩ H3 J2 hd hlt3 _ ⟨h31,h32,h33⟩ hJ2
  have hgy:=Z0 hd
  have hym:=hxs y (by rw[hd];simp)
  replace h31:ya H3 o3 l3'.length 1:=h31
  simp only[List.foldl] at h32 h33
  have hl3:=zid h32
  have l4:=zM l3'
  have hA:=zqC h32 hym
  have ha0:zby l3' y=if yu y l3'=true then l3' else l3'++[y]:=rfl
  simp(disch:=omega) only[l3,hlt3,hgy,go_sem]
  refine za (zi.low (yP l3' y (by simp only[Lim];omega))) ?_
  cases hh:yu y l3' with
  | true =>
   rw[if_pos hh] at ha0
   rw[ha0] at h33 hA
   simp(disch:=omega) only[go_sem]
   exact goJ (hJ2 (o3,l3') H3 ⟨h31,hA,h33⟩) (by simp(disch:=omega) only[wrap64,go_sem])
  | false =>
   rw[if_neg (by simp[hh])] at ha0
   rw[ha0] at h33 hA
   simp(disch:=omega) only[go_sem]
   refine zw (by rw[l4];exact h31) ?_ ?_ fun o' H4 hs4=>?_
   ·simp only[l4,Al2,Al3];omega
   ·simp only[l4,Al2,Al3,maxLen];omega
   have e1:cT l3'++[[AV.str y]]=cT (l3'++[y]):=by simp[cT]
   have hs5:=hs4.own
   simp only[l4,Al2,Al3] at hs5
   simp(disch:=omega) only[wrap64,e1,go_sem]
   exact goJ (hJ2 (o',l3'++[y]) H4 ⟨by simpa using hs5,hA,h33⟩) (by simp(disch:=omega) only[go_sem])
def zjm (s:SchD) (d:DefD):Bool:=!decide (d.k=5)||!zkc s d.nm
theorem zsl (s:SchD) (d:DefD) (hs:zN s≤Lim):zi Tryz.prog 182 [.agg (cE d),.view (zr s)] (.bool (zjm s d)):=by
 have h1:=zsr s d.nm hs
 unfold zjm
 generalize zkc s d.nm=x1 at *
 obtain⟨k,nm,fs,fl,ps,pa⟩:=d
 obtain⟨sd,sq,sm⟩:=s
 simp only[zr,yg] at h1 ⊢
 refine zi.go ir182 ck182 (Al4 _) fun KP Q hQ=>?_
 by_cases hk:k=5
 ·subst hk
  simp(disch:=omega) only[ir182,go_sem]
  refine za h1 ?_
  simp(disch:=omega) only[go_sem]
  exact hQ _ _ _ _ nofun rfl (by simp[zd,ze,AV.strip,AV.strip1])
 ·simp(disch:=omega) only[ir182,hk,go_sem]
  exact hQ _ _ _ _ nofun rfl (by simp[zd,ze,AV.strip,AV.strip1,hk])
def zlw (s:SchD):Bool:=s.defs.all (zjm s)
theorem ztM (s:SchD) (hb:zN s≤Lim):zi Tryz.prog 123 [.agg (zr s)] (.bool (zlw s)):=by
 have hl:=yc hb
 have hx:=fun H=>zdQ s 182 [.view (zr s)] (zjm s) H hl (by kernel_rfl) fun d _=>zqF (zsl s d hb) H
 rw[zlw]
 generalize s.defs.all (zjm s)=x1 at *
 obtain⟨sd,sq,sm⟩:=s
 simp only[zr] at hx ⊢
 refine zi.go ir123 ck123 (Al4 _) fun KP Q hQ=>?_
 simp(disch:=omega) only[ir123,go_sem]
 refine z6 (hx _) ?_
 rintro _ _ ⟨_,rfl,rfl,rfl⟩
 simp(disch:=omega) only[ZL,go_sem]
 exact hQ _ _ _ _ nofun rfl rfl
theorem zew (dp:Int) (fixed:Bool) (l:List DirD) (x:DirD):Za dp fixed (l++[x])=(Za dp fixed l&&zfN dp fixed x):=by simp[Za]
theorem zju (l:List DirD) (x:DirD):tDs (l++[x])=tDs l++tD x:=by simp[tDs]
theorem zgQ (l:List DirD) (x:DirD):bDs (l++[x])=bDs l+bD x:=by simp[bDs]
theorem yN (fixed:Bool) (m:List DirD) (hw:zk1 m) (hm:8*bDs m≤Lim):WC 193 [.bool fixed,.sl .no 2 (cDs m)] (8*bDs m) 0 32 (fun dp=>Za dp fixed m) (tDs m):=by
 intro H w o l ok dp h h0 h1 hb
 have hml:=zai m
 have hcl:=YQ m
 have hm':=hm
 simp only[Lim] at hm'
 refine zj.go ir193 ck193 (Al4 _) fun KP Q hQ=>?_
 have w0:=WR.refl h
 simp(disch:=omega) only[ir193,hcl,go_sem]
 refine zf m 10 (fun x:Own×List Tok=>[]) (fun done rest x H'=>WR H o w l ok dp (8*bDs done) (Za dp fixed done) (tDs done) H' x.1 x.2) (o,l) (by simp(disch:=omega) only[go_sem]) (w0.cast (by omega) rfl rfl) ?_ ?_
 ·rintro⟨o3,l3⟩ H3 J w3 hlt
  simp only at w3
  simp(disch:=omega) only[hcl,hlt,go_sem]
  exact hQ _ _ H3 H3 [] nofun rfl (Low.refl _) ⟨rfl,w3.fin rfl (fun _=>rfl) (by omega)⟩
 ·rintro done x rest ⟨o3,l3⟩ H3 J hd hlt hlt2 w3 hJ
  simp only at w3
  have hg:=zal hd
  have hbm:=zbX done x rest
  rw[← hd] at hbm
  have hmem:x∈m:=by rw[hd];simp
  have hwx:=hw x hmem
  obtain⟨s,args⟩:=x
  have hal:=y9 args
  simp only[bD] at hbm
  have ex:cD ⟨s,args⟩=[.str s,.sl .no 6 (cMs args)]:=rfl
  rw[ex] at hg
  simp(disch:=omega) only[hcl,hlt,hg,go_sem]
  refine zc fun b hb=>?_
  have hbw:b≠w:=fun e=>by subst e;rw[w3.here.cell] at hb;cases hb
  have w4:=w3.alloc (x:=.cells [.str s,.sl .no 6 (cMs args)]) hb
  have hbc:(H3.upd b (.cells [.str s,.sl .no 6 (cMs args)])) b=some (.cells [.str s,.sl .no 6 (cMs args)]):=upd_same ..
  simp(disch:=omega) only[go_sem]
  refine zn (yE [64] _) w4 (by omega) (by omega) (by omega) fun o5 l5 H5 w5 s5=>?_
  have hb5:=s5.box w4.here.own hbc hbw
  simp(disch:=omega) only[hb5,go_sem]
  refine zn (yt s (by simp only[Lim];omega)) w5 (by omega) (by omega) (by omega) fun o6 l6 H6 w6 s6=>?_
  have hb6:=s6.box w5.here.own hb5 hbw
  simp(disch:=omega) only[hb6,go_sem]
  refine zn (zdR fixed args hwx (by simp only[Lim];omega)) w6 (by omega) (by omega) (by omega) fun o7 l7 H7 w7 s7=>?_
  simp(disch:=omega) only[wrap64,go_sem]
  exact goJ (hJ (o7,l7) H7 (w7.cast (by rw[zgQ];simp only[bD];omega) (by rw[zew];simp[zfN,ye]) (by rw[zju];simp[tD]))) (by simp(disch:=omega) only[go_sem])
def znx (c:Nat):Prop:=∀ l:List SelD,bSs l≤c→zgt l→16*bSs l+2≤Lim→WC 224 [.sl .no 7 (cSs l)] (16*bSs l) 0 17 (fun dp=>yn dp l) (tSl l)
theorem yL {c:Nat} (hL:znx c) (l:List SelD) (hc:bSs l≤c) (hw:zgt l) (hm:16*bSs l+2≤Lim):WC 194 [.sl .no 7 (cSs l)] (16*bSs l+2) 0 16 (fun dp=>yn (dp+1) l) (tBl l):=by
 intro H w o k ok dp h h0 h1 hb
 refine zj.go ir194 ck194 (Al4 _) fun KP Q hQ=>?_
 simp(disch:=omega) only[ir194,go_sem]
 refine za6 (yE [123] _) h (by omega) (by omega) (by omega) fun o2 l2 H2 h2 h3 h4 h5=>?_
 have c2:=h2.cell
 have w1:IntKind.wrap .i64 (dp+1)=dp+1:=wrap64 (by omega) (by omega)
 have w2:IntKind.wrap .i64 (dp+1-1)=dp:=by rw[wrap64 (by omega) (by omega)];omega
 simp(disch:=omega) only[c2,w1,go_sem]
 have g2:=h2.put (ok':=ok&&true) (dp':=dp+1)
 refine za6 (hL l hc hw hm) g2 (by omega) (by omega) (by omega) fun o3 l3 H3 h6 h7 h8 h9=>?_
 have c3:=h6.cell
 simp(disch:=omega) only[c3,w2,go_sem]
 have g3:=h6.put (ok':=(ok&&true)&&yn (dp+1) l) (dp':=dp)
 refine za6 (yE [125] _) g3 (by omega) (by omega) (by omega) fun o4 l4 H4 h10 h11 h12 h13=>?_
 simp(disch:=omega) only[go_sem]
 refine hQ _ _ H4 H4 [] nofun rfl (Low.refl _) ⟨rfl,o4,l4,by simpa using h10,?_,by omega,fun e=>?_⟩
 ·exact((h3.upd.trans (upd_same ..) h7).upd).trans (upd_same ..) h11
 ·simp only[Bool.and_true] at h5 h9 h13
  rw[h13 e,h9 e,h5 (by simp only[Al0] at e;exact e.1)]
  simp[tBl]
theorem znV (k:Int) (al nm:List UInt8) (args:List Mem) (dirs:List DirD) (on:List UInt8) (sels:List SelD) (hk:k=1) (hw:wfS (.mk k al nm args dirs on sels)) (hm:16*bS (.mk k al nm args dirs on sels)≤Lim) :
  WC 243 [.agg (cS (.mk k al nm args dirs on sels))] (16*bS (.mk k al nm args dirs on sels)) 0 16 (fun dp=>yv dp (.mk k al nm args dirs on sels)) (tS (.mk k al nm args dirs on sels)):=by
 intro H w o l ok dp h h0 h1 hb
 have hm':=hm
 simp only[Lim,bS] at hm'
 simp only[bS] at hb
 have hcm:=y0 args
 have hcs:=YJ sels
 obtain⟨_,hwd,_⟩:=hw
 subst hk
 refine zj.go ir243 ck243 (Al4 _) fun KP Q hQ=>?_
 have w0:=WR.refl h
 obtain⟨b,hbd⟩:∃ b,b=(decide (nm≠[111,110])&&(decide (al=[])&&(decide (on=[])&&(decide (args.length=0)&&decide (sels.length=0))))):=⟨_,rfl⟩
 have er:yv dp (.mk 1 al nm args dirs on sels)=(b&&zR nm&&Za dp false dirs):=by
  rw[hbd];simp only[yv,show ¬ ((1:Int)=0) by decide,if_false,if_true]
  cases zR nm<;>cases Za dp false dirs<;>simp
 have et:b=true→tS (.mk 1 al nm args dirs on sels)=pk [46,46,46]::wk nm::tDs dirs:=fun e=>by
  rw[hbd] at e
  simp only[Al0,yw] at e
  simp[tS,e.2.2.2.2]
 by_cases h1:al=[]
 case neg =>
  have hbv:b=false:=by rw[hbd];simp[h1]
  simp(disch:=omega) only[ir243,y6,h1,go_sem]
  refine zn (ZD _) w0 (by omega) (by omega) (by omega) fun o2 l2 H2 w2 _=>?_
  simp(disch:=omega) only[go_sem]
  refine zn (yE [46,46,46] _) w2 (by omega) (by omega) (by omega) fun o3 l3 H3 w3 _=>?_
  simp(disch:=omega) only[go_sem]
  refine zn (yt nm (by simp only[Lim];omega)) w3 (by omega) (by omega) (by omega) fun o4 l4 H4 w4 _=>?_
  simp(disch:=omega) only[go_sem]
  refine zn (yN false dirs hwd (by simp only[Lim];omega)) w4 (by omega) (by omega) (by omega) fun o5 l5 H5 w5 _=>?_
  simp(disch:=omega) only[go_sem]
  exact hQ _ _ H5 H5 [] nofun rfl (Low.refl _) ⟨rfl,w5.fin (by show _=yv dp _;rw[er,hbv];simp) (fun e=>by have e:yv dp (.mk 1 al nm args dirs on sels)=true:=e;rw[et (by rw[er] at e;simp only[Al0] at e;exact e.1.1)];simp) (by simp only[bS];omega)⟩
 by_cases h2:args.length=0
 case neg =>
  have hbv:b=false:=by rw[hbd];simp[h2]
  have h2':¬ ((args.length:Int)=0):=by omega
  simp(disch:=omega) only[ir243,y6,h1,hcm,h2',go_sem]
  refine zn (ZD _) w0 (by omega) (by omega) (by omega) fun o2 l2 H2 w2 _=>?_
  simp(disch:=omega) only[go_sem]
  refine zn (yE [46,46,46] _) w2 (by omega) (by omega) (by omega) fun o3 l3 H3 w3 _=>?_
  simp(disch:=omega) only[go_sem]
  refine zn (yt nm (by simp only[Lim];omega)) w3 (by omega) (by omega) (by omega) fun o4 l4 H4 w4 _=>?_
  simp(disch:=omega) only[go_sem]
  refine zn (yN false dirs hwd (by simp only[Lim];omega)) w4 (by omega) (by omega) (by omega) fun o5 l5 H5 w5 _=>?_
  simp(disch:=omega) only[go_sem]
  exact hQ _ _ H5 H5 [] nofun rfl (Low.refl _) ⟨rfl,w5.fin (by show _=yv dp _;rw[er,hbv];simp) (fun e=>by have e:yv dp (.mk 1 al nm args dirs on sels)=true:=e;rw[et (by rw[er] at e;simp only[Al0] at e;exact e.1.1)];simp) (by simp only[bS];omega)⟩
 have h2':((args.length:Int)=0)=True:=eq_true (by omega)
 by_cases h3:on=[]
 case neg =>
  have hbv:b=false:=by rw[hbd];simp[h3]
  simp(disch:=omega) only[ir243,y6,h1,hcm,h2',h3,go_sem]
  refine zn (ZD _) w0 (by omega) (by omega) (by omega) fun o2 l2 H2 w2 _=>?_
  simp(disch:=omega) only[go_sem]
  refine zn (yE [46,46,46] _) w2 (by omega) (by omega) (by omega) fun o3 l3 H3 w3 _=>?_
  simp(disch:=omega) only[go_sem]
  refine zn (yt nm (by simp only[Lim];omega)) w3 (by omega) (by omega) (by omega) fun o4 l4 H4 w4 _=>?_
  simp(disch:=omega) only[go_sem]
  refine zn (yN false dirs hwd (by simp only[Lim];omega)) w4 (by omega) (by omega) (by omega) fun o5 l5 H5 w5 _=>?_
  simp(disch:=omega) only[go_sem]
  exact hQ _ _ H5 H5 [] nofun rfl (Low.refl _) ⟨rfl,w5.fin (by show _=yv dp _;rw[er,hbv];simp) (fun e=>by have e:yv dp (.mk 1 al nm args dirs on sels)=true:=e;rw[et (by rw[er] at e;simp only[Al0] at e;exact e.1.1)];simp) (by simp only[bS];omega)⟩
 by_cases h4:sels.length=0
 case neg =>
  have hbv:b=false:=by rw[hbd];simp[h4]
  have h4':¬ ((sels.length:Int)=0):=by omega
  simp(disch:=omega) only[ir243,y6,h1,hcm,h2',h3,hcs,h4',go_sem]
  refine zn (ZD _) w0 (by omega) (by omega) (by omega) fun o2 l2 H2 w2 _=>?_
  simp(disch:=omega) only[go_sem]
  refine zn (yE [46,46,46] _) w2 (by omega) (by omega) (by omega) fun o3 l3 H3 w3 _=>?_
  simp(disch:=omega) only[go_sem]
  refine zn (yt nm (by simp only[Lim];omega)) w3 (by omega) (by omega) (by omega) fun o4 l4 H4 w4 _=>?_
  simp(disch:=omega) only[go_sem]
  refine zn (yN false dirs hwd (by simp only[Lim];omega)) w4 (by omega) (by omega) (by omega) fun o5 l5 H5 w5 _=>?_
  simp(disch:=omega) only[go_sem]
  exact hQ _ _ H5 H5 [] nofun rfl (Low.refl _) ⟨rfl,w5.fin (by show _=yv dp _;rw[er,hbv];simp) (fun e=>by have e:yv dp (.mk 1 al nm args dirs on sels)=true:=e;rw[et (by rw[er] at e;simp only[Al0] at e;exact e.1.1)];simp) (by simp only[bS];omega)⟩
 have h4':((sels.length:Int)=0)=True:=eq_true (by omega)
 by_cases h5:nm=[111,110]
 case pos =>
  have hbv:b=false:=by rw[hbd];simp[h5]
  simp(disch:=omega) only[ir243,y6,h1,hcm,h2',h3,hcs,h4',h5,go_sem]
  subst h5
  refine zn (ZD _) w0 (by omega) (by omega) (by omega) fun o2 l2 H2 w2 _=>?_
  simp(disch:=omega) only[go_sem]
  refine zn (yE [46,46,46] _) w2 (by omega) (by omega) (by omega) fun o3 l3 H3 w3 _=>?_
  simp(disch:=omega) only[go_sem]
  refine zn (yt [111,110] (by simp only[Lim];omega)) w3 (by omega) (by omega) (by omega) fun o4 l4 H4 w4 _=>?_
  simp(disch:=omega) only[go_sem]
  refine zn (yN false dirs hwd (by simp only[Lim];omega)) w4 (by omega) (by omega) (by omega) fun o5 l5 H5 w5 _=>?_
  simp(disch:=omega) only[go_sem]
  exact hQ _ _ H5 H5 [] nofun rfl (Low.refl _) ⟨rfl,w5.fin (by show _=yv dp _;rw[er,hbv];simp) (fun e=>by have e:yv dp (.mk 1 al [111,110] args dirs on sels)=true:=e;rw[et (by rw[er] at e;simp only[Al0] at e;exact e.1.1)];simp) (by simp only[bS];omega)⟩
 have hbv:b=true:=by rw[hbd];simp[h1,h2,h3,h4,h5]
 simp(disch:=omega) only[ir243,y6,h1,hcm,h2',h3,hcs,h4',h5,go_sem]
 refine zn (ZD _) w0 (by omega) (by omega) (by omega) fun o2 l2 H2 w2 _=>?_
 simp(disch:=omega) only[go_sem]
 refine zn (yE [46,46,46] _) w2 (by omega) (by omega) (by omega) fun o3 l3 H3 w3 _=>?_
 simp(disch:=omega) only[go_sem]
 refine zn (yt nm (by simp only[Lim];omega)) w3 (by omega) (by omega) (by omega) fun o4 l4 H4 w4 _=>?_
 simp(disch:=omega) only[go_sem]
 refine zn (yN false dirs hwd (by simp only[Lim];omega)) w4 (by omega) (by omega) (by omega) fun o5 l5 H5 w5 _=>?_
 simp(disch:=omega) only[go_sem]
 exact hQ _ _ H5 H5 [] nofun rfl (Low.refl _) ⟨rfl,w5.fin (by show _=yv dp _;rw[er,hbv];simp) (fun e=>by have e:yv dp (.mk 1 al nm args dirs on sels)=true:=e;rw[et (by rw[er] at e;simp only[Al0] at e;exact e.1.1)];simp) (by simp only[bS];omega)⟩
theorem zjL:zR [111,110]=true:=by decide
theorem zpa {c:Nat} (hL:znx c) (k:Int) (al nm:List UInt8) (args:List Mem) (dirs:List DirD) (on:List UInt8) (sels:List SelD) (hk:k=2) (hc:bSs sels≤c) (hw:wfS (.mk k al nm args dirs on sels)) (hm:16*bS (.mk k al nm args dirs on sels)≤Lim) :
  WC 244 [.agg (cS (.mk k al nm args dirs on sels))] (16*bS (.mk k al nm args dirs on sels)) 0 16 (fun dp=>yv dp (.mk k al nm args dirs on sels)) (tS (.mk k al nm args dirs on sels)):=by
 intro H w o l ok dp h h0 h1 hb
 have hm':=hm
 simp only[Lim,bS] at hm'
 simp only[bS] at hb
 have hcm:=y0 args
 obtain⟨_,hwd,hws⟩:=hw
 subst hk
 refine zj.go ir244 ck244 (Al4 _) fun KP Q hQ=>?_
 have w0:=WR.refl h
 obtain⟨b,hbd⟩:∃ b,b=(decide (nm=[])&&(decide (al=[])&&decide (args.length=0))):=⟨_,rfl⟩
 have er:yv dp (.mk 2 al nm args dirs on sels)=(b&&(decide (on=[])||zR on)&&Za dp false dirs&&yn (dp+1) sels):=by
  rw[hbd];simp only[yv,yn,show ¬ ((2:Int)=0) by decide,show ¬ ((2:Int)=1) by decide,if_false,if_true]
  cases Za dp false dirs<;>simp[ye]
 have et:b=true∧yn (dp+1) sels=true→tS (.mk 2 al nm args dirs on sels)=pk [46,46,46]::((if on=[] then [] else [wk [111,110],wk on])++(tDs dirs++tBl sels)):=fun⟨e,e2⟩=>by
  simp only[yn,Al0,yw] at e2
  simp[tS,e2.1,tBl]
 by_cases h1:al=[]
 case neg =>
  have hbv:b=false:=by rw[hbd];simp[h1]
  simp(disch:=omega) only[ir244,y6,h1,go_sem]
  refine zn (ZD _) w0 (by omega) (by omega) (by omega) fun o2 l2 H2 w2 _=>?_
  simp(disch:=omega) only[go_sem]
  refine zn (yE [46,46,46] _) w2 (by omega) (by omega) (by omega) fun o3 l3 H3 w3 _=>?_
  by_cases ho:on=[]
  case pos =>
   simp(disch:=omega) only[ho,go_sem]
   refine zn (yN false dirs hwd (by simp only[Lim];omega)) w3 (by omega) (by omega) (by omega) fun o5 l5 H5 w5 _=>?_
   simp(disch:=omega) only[go_sem]
   refine zn (yL hL sels hc hws (by simp only[Lim];omega)) w5 (by omega) (by omega) (by omega) fun o6 l6 H6 w6 _=>?_
   simp(disch:=omega) only[go_sem]
   exact hQ _ _ H6 H6 [] nofun rfl (Low.refl _) ⟨rfl,w6.fin (by show _=yv dp _;rw[er,hbv,ho];simp[ye]) (fun e=>by have e:yv dp (.mk 2 al nm args dirs on sels)=true:=e;rw[et (by rw[er] at e;simp only[Al0] at e;exact⟨e.1.1.1,e.2⟩),if_pos ho];simp) (by simp only[bS];omega)⟩
  case neg =>
   simp(disch:=omega) only[ho,go_sem]
   refine zn (yt [111,110] (by simp[Lim])) w3 (by omega) (by omega) (by omega) fun o4 l4 H4 w4 _=>?_
   simp(disch:=omega) only[go_sem]
   refine zn (yt on (by simp only[Lim];omega)) w4 (by omega) (by omega) (by omega) fun o5 l5 H5 w5 _=>?_
   simp(disch:=omega) only[go_sem]
   refine zn (yN false dirs hwd (by simp only[Lim];omega)) w5 (by omega) (by omega) (by omega) fun o6 l6 H6 w6 _=>?_
   simp(disch:=omega) only[go_sem]
   refine zn (yL hL sels hc hws (by simp only[Lim];omega)) w6 (by omega) (by omega) (by omega) fun o7 l7 H7 w7 _=>?_
   simp(disch:=omega) only[go_sem]
   exact hQ _ _ H7 H7 [] nofun rfl (Low.refl _) ⟨rfl,w7.fin (by show _=yv dp _;rw[er,hbv,zjL];simp[ho,ye]) (fun e=>by have e:yv dp (.mk 2 al nm args dirs on sels)=true:=e;rw[et (by rw[er] at e;simp only[Al0] at e;exact⟨e.1.1.1,e.2⟩),if_neg ho];simp) (by simp only[bS];omega)⟩
 by_cases h2:nm=[]
 case neg =>
  have hbv:b=false:=by rw[hbd];simp[h2]
  simp(disch:=omega) only[ir244,y6,h1,h2,go_sem]
  refine zn (ZD _) w0 (by omega) (by omega) (by omega) fun o2 l2 H2 w2 _=>?_
  simp(disch:=omega) only[go_sem]
  refine zn (yE [46,46,46] _) w2 (by omega) (by omega) (by omega) fun o3 l3 H3 w3 _=>?_
  by_cases ho:on=[]
  case pos =>
   simp(disch:=omega) only[ho,go_sem]
   refine zn (yN false dirs hwd (by simp only[Lim];omega)) w3 (by omega) (by omega) (by omega) fun o5 l5 H5 w5 _=>?_
   simp(disch:=omega) only[go_sem]
   refine zn (yL hL sels hc hws (by simp only[Lim];omega)) w5 (by omega) (by omega) (by omega) fun o6 l6 H6 w6 _=>?_
   simp(disch:=omega) only[go_sem]
   exact hQ _ _ H6 H6 [] nofun rfl (Low.refl _) ⟨rfl,w6.fin (by show _=yv dp _;rw[er,hbv,ho];simp[ye]) (fun e=>by have e:yv dp (.mk 2 al nm args dirs on sels)=true:=e;rw[et (by rw[er] at e;simp only[Al0] at e;exact⟨e.1.1.1,e.2⟩),if_pos ho];simp) (by simp only[bS];omega)⟩
  case neg =>
   simp(disch:=omega) only[ho,go_sem]
   refine zn (yt [111,110] (by simp[Lim])) w3 (by omega) (by omega) (by omega) fun o4 l4 H4 w4 _=>?_
   simp(disch:=omega) only[go_sem]
   refine zn (yt on (by simp only[Lim];omega)) w4 (by omega) (by omega) (by omega) fun o5 l5 H5 w5 _=>?_
   simp(disch:=omega) only[go_sem]
   refine zn (yN false dirs hwd (by simp only[Lim];omega)) w5 (by omega) (by omega) (by omega) fun o6 l6 H6 w6 _=>?_
   simp(disch:=omega) only[go_sem]
   refine zn (yL hL sels hc hws (by simp only[Lim];omega)) w6 (by omega) (by omega) (by omega) fun o7 l7 H7 w7 _=>?_
   simp(disch:=omega) only[go_sem]
   exact hQ _ _ H7 H7 [] nofun rfl (Low.refl _) ⟨rfl,w7.fin (by show _=yv dp _;rw[er,hbv,zjL];simp[ho,ye]) (fun e=>by have e:yv dp (.mk 2 al nm args dirs on sels)=true:=e;rw[et (by rw[er] at e;simp only[Al0] at e;exact⟨e.1.1.1,e.2⟩),if_neg ho];simp) (by simp only[bS];omega)⟩
 by_cases h3:args.length=0
 case neg =>
  have hbv:b=false:=by rw[hbd];simp[h3]
  have h3':¬ ((args.length:Int)=0):=by omega
  simp(disch:=omega) only[ir244,y6,h1,h2,hcm,h3',go_sem]
  refine zn (ZD _) w0 (by omega) (by omega) (by omega) fun o2 l2 H2 w2 _=>?_
  simp(disch:=omega) only[go_sem]
  refine zn (yE [46,46,46] _) w2 (by omega) (by omega) (by omega) fun o3 l3 H3 w3 _=>?_
  by_cases ho:on=[]
  case pos =>
   simp(disch:=omega) only[ho,go_sem]
   refine zn (yN false dirs hwd (by simp only[Lim];omega)) w3 (by omega) (by omega) (by omega) fun o5 l5 H5 w5 _=>?_
   simp(disch:=omega) only[go_sem]
   refine zn (yL hL sels hc hws (by simp only[Lim];omega)) w5 (by omega) (by omega) (by omega) fun o6 l6 H6 w6 _=>?_
   simp(disch:=omega) only[go_sem]
   exact hQ _ _ H6 H6 [] nofun rfl (Low.refl _) ⟨rfl,w6.fin (by show _=yv dp _;rw[er,hbv,ho];simp[ye]) (fun e=>by have e:yv dp (.mk 2 al nm args dirs on sels)=true:=e;rw[et (by rw[er] at e;simp only[Al0] at e;exact⟨e.1.1.1,e.2⟩),if_pos ho];simp) (by simp only[bS];omega)⟩
  case neg =>
   simp(disch:=omega) only[ho,go_sem]
   refine zn (yt [111,110] (by simp[Lim])) w3 (by omega) (by omega) (by omega) fun o4 l4 H4 w4 _=>?_
   simp(disch:=omega) only[go_sem]
   refine zn (yt on (by simp only[Lim];omega)) w4 (by omega) (by omega) (by omega) fun o5 l5 H5 w5 _=>?_
   simp(disch:=omega) only[go_sem]
   refine zn (yN false dirs hwd (by simp only[Lim];omega)) w5 (by omega) (by omega) (by omega) fun o6 l6 H6 w6 _=>?_
   simp(disch:=omega) only[go_sem]
   refine zn (yL hL sels hc hws (by simp only[Lim];omega)) w6 (by omega) (by omega) (by omega) fun o7 l7 H7 w7 _=>?_
   simp(disch:=omega) only[go_sem]
   exact hQ _ _ H7 H7 [] nofun rfl (Low.refl _) ⟨rfl,w7.fin (by show _=yv dp _;rw[er,hbv,zjL];simp[ho,ye]) (fun e=>by have e:yv dp (.mk 2 al nm args dirs on sels)=true:=e;rw[et (by rw[er] at e;simp only[Al0] at e;exact⟨e.1.1.1,e.2⟩),if_neg ho];simp) (by simp only[bS];omega)⟩
 have h3':((args.length:Int)=0)=True:=eq_true (by omega)
 have hbv:b=true:=by rw[hbd];simp[h1,h2,h3]
 simp(disch:=omega) only[ir244,y6,h1,h2,hcm,h3',go_sem]
 refine zn (ZD _) w0 (by omega) (by omega) (by omega) fun o2 l2 H2 w2 _=>?_
 simp(disch:=omega) only[go_sem]
 refine zn (yE [46,46,46] _) w2 (by omega) (by omega) (by omega) fun o3 l3 H3 w3 _=>?_
 by_cases ho:on=[]
 case pos =>
  simp(disch:=omega) only[ho,go_sem]
  refine zn (yN false dirs hwd (by simp only[Lim];omega)) w3 (by omega) (by omega) (by omega) fun o5 l5 H5 w5 _=>?_
  simp(disch:=omega) only[go_sem]
  refine zn (yL hL sels hc hws (by simp only[Lim];omega)) w5 (by omega) (by omega) (by omega) fun o6 l6 H6 w6 _=>?_
  simp(disch:=omega) only[go_sem]
  exact hQ _ _ H6 H6 [] nofun rfl (Low.refl _) ⟨rfl,w6.fin (by show _=yv dp _;rw[er,hbv,ho];simp[ye]) (fun e=>by have e:yv dp (.mk 2 al nm args dirs on sels)=true:=e;rw[et (by rw[er] at e;simp only[Al0] at e;exact⟨e.1.1.1,e.2⟩),if_pos ho];simp) (by simp only[bS];omega)⟩
 case neg =>
  simp(disch:=omega) only[ho,go_sem]
  refine zn (yt [111,110] (by simp[Lim])) w3 (by omega) (by omega) (by omega) fun o4 l4 H4 w4 _=>?_
  simp(disch:=omega) only[go_sem]
  refine zn (yt on (by simp only[Lim];omega)) w4 (by omega) (by omega) (by omega) fun o5 l5 H5 w5 _=>?_
  simp(disch:=omega) only[go_sem]
  refine zn (yN false dirs hwd (by simp only[Lim];omega)) w5 (by omega) (by omega) (by omega) fun o6 l6 H6 w6 _=>?_
  simp(disch:=omega) only[go_sem]
  refine zn (yL hL sels hc hws (by simp only[Lim];omega)) w6 (by omega) (by omega) (by omega) fun o7 l7 H7 w7 _=>?_
  simp(disch:=omega) only[go_sem]
  exact hQ _ _ H7 H7 [] nofun rfl (Low.refl _) ⟨rfl,w7.fin (by show _=yv dp _;rw[er,hbv,zjL];simp[ho,ye]) (fun e=>by have e:yv dp (.mk 2 al nm args dirs on sels)=true:=e;rw[et (by rw[er] at e;simp only[Al0] at e;exact⟨e.1.1.1,e.2⟩),if_neg ho];simp) (by simp only[bS];omega)⟩
theorem zH (dp:Int) (l:List SelD) (x:SelD):Zk dp (l++[x])=(Zk dp l&&yv dp x):=by rw[zcv];simp[Zk]
theorem ZK (l:List SelD) (x:SelD):tSl (l++[x])=tSl l++tS x:=by rw[zmc];simp[tSl]
theorem ZG (l:List SelD) (x:SelD):bSs (l++[x])=bSs l+bS x:=by rw[zbf];simp[bSs]
theorem zi7 {dp:Int} {l a b:List SelD} {x:SelD} (h:l=a++x::b) (hr:Zk dp a=false):Zk dp l=false:=by
 rw[h,zcv,hr];rfl
theorem WR.castC {H0 H:zb} {o0 o:Own} {w B B':Nat} {l0 l tk tk':List Tok} {ok0 r r':Bool} {dp:Int} (h:WR H0 o0 w l0 ok0 dp B r tk H o l) (hB:B≤B') (hr:r=r') (ht:r'=true→tk=tk'):WR H0 o0 w l0 ok0 dp B' r' tk' H o l:=by
 subst hr
 refine⟨h.here,h.st,by have:=h.len;omega,fun e=>?_⟩
 rw[h.eq e,ht (by simp only[Al0] at e;exact e.2)]
set_option maxHeartbeats 4000000 in
theorem Y8:∀ c,znx c:=by
 intro c
 induction c using Nat.strongRecOn with
 | _ c ih =>
 intro L hc hwL hm H w o l ok dp h h0 h1 hb
 have hm':=hm
 simp only[Lim] at hm'
 have hcs:=YJ L
 have hLl:=YA L
 refine zj.go ir224 ck224 (Al4 _) fun KP Q hQ=>?_
 have w0:=WR.refl h
 have hcell:=h.cell
 by_cases hl0:L.length=0
 ·have hl':¬ ((0:Int)<(L.length:Int)):=by omega
  have hneed:false=yn dp L:=by simp[yn,hl0]
  simp(disch:=omega) only[ir224,hcs,hl',go_sem]
  refine zn (ZD _) w0 (by omega) (by omega) (by omega) fun o2 l2 H2 w2 _=>?_
  have hf:(ok&&yn dp L)=false:=by rw[← hneed];simp
  simp(disch:=omega) only[hcs,go_sem]
  refine zf L 20 (fun x:Unit=>[]) (fun done rest x H'=>H'=H2) () (by simp(disch:=omega) only[go_sem]) rfl ?_ ?_
  case refine_1 =>
   rintro _ H3 J rfl hlt
   simp(disch:=omega) only[hcs,hlt,go_sem]
   exact hQ _ _ H3 H3 [] nofun rfl (Low.refl _) ⟨rfl,w2.fin (by show _=yn dp L;rw[← hneed];simp) (fun e=>by have e:yn dp L=true:=e;rw[← hneed] at e;cases e) (by omega)⟩
  case refine_2 =>
   rintro done x rest _ H3 J hd hlt hlt2 rfl hJ
   have hg:=zab hd
   obtain⟨k,al,nm,args,dirs,on,sels⟩:=x
   rw[y6] at hg
   simp(disch:=omega) only[hcs,hlt,hg,go_sem]
   refine zc fun b hb=>?_
   have w5:=w2.alloc (x:=.cells [.int .i64 k,.str al,.str nm,.sl .no 6 (cMs args),.sl .no 2 (cDs dirs),.str on,.sl .no 7 (cSs sels)]) hb
   have hc5:=w5.here.cell
   simp only[Bool.true_and,Bool.and_false] at hc5
   simp(disch:=omega) only[hc5,go_sem]
   exact hQ _ _ _ _ [] nofun rfl (Low.refl _) ⟨rfl,w5.fin (by show _=yn dp L;rw[← hneed];simp) (fun e=>by have e:yn dp L=true:=e;rw[← hneed] at e;cases e) (by omega)⟩
 have hl':((0:Int)<(L.length:Int))=True:=eq_true (by omega)
 by_cases hdp:dp≤16
 case neg =>
  have hneed:false=yn dp L:=by simp[yn,hdp]
  simp(disch:=omega) only[ir224,hcs,hl',hcell,hdp,go_sem]
  refine zn (ZD _) w0 (by omega) (by omega) (by omega) fun o2 l2 H2 w2 _=>?_
  have hf:(ok&&yn dp L)=false:=by rw[← hneed];simp
  simp(disch:=omega) only[hcs,go_sem]
  refine zf L 20 (fun x:Unit=>[]) (fun done rest x H'=>H'=H2) () (by simp(disch:=omega) only[go_sem]) rfl ?_ ?_
  case refine_1 =>
   rintro _ H3 J rfl hlt
   simp(disch:=omega) only[hcs,hlt,go_sem]
   exact hQ _ _ H3 H3 [] nofun rfl (Low.refl _) ⟨rfl,w2.fin (by show _=yn dp L;rw[← hneed];simp) (fun e=>by have e:yn dp L=true:=e;rw[← hneed] at e;cases e) (by omega)⟩
  case refine_2 =>
   rintro done x rest _ H3 J hd hlt hlt2 rfl hJ
   have hg:=zab hd
   obtain⟨k,al,nm,args,dirs,on,sels⟩:=x
   rw[y6] at hg
   simp(disch:=omega) only[hcs,hlt,hg,go_sem]
   refine zc fun b hb=>?_
   have w5:=w2.alloc (x:=.cells [.int .i64 k,.str al,.str nm,.sl .no 6 (cMs args),.sl .no 2 (cDs dirs),.str on,.sl .no 7 (cSs sels)]) hb
   have hc5:=w5.here.cell
   simp only[Bool.true_and,Bool.and_false] at hc5
   simp(disch:=omega) only[hc5,go_sem]
   exact hQ _ _ _ _ [] nofun rfl (Low.refl _) ⟨rfl,w5.fin (by show _=yn dp L;rw[← hneed];simp) (fun e=>by have e:yn dp L=true:=e;rw[← hneed] at e;cases e) (by omega)⟩
 have er0:yn dp L=Zk dp L:=by simp[yn,hdp,hl0]
 simp(disch:=omega) only[ir224,hcs,hl',hcell,hdp,go_sem]
 refine zn (ZD _) w0 (by omega) (by omega) (by omega) fun o2 l2 H2 w2 _=>?_
 simp(disch:=omega) only[hcs,go_sem]
 refine zf L 20 (fun x:Own×List Tok=>[]) (fun done rest x H'=>WR H o w l ok dp (16*bSs done) (Zk dp done) (tSl done) H' x.1 x.2) (o2,l2) (by simp(disch:=omega) only[go_sem]) (w2.cast (by simp[bSs]) (by simp[Zk]) (by simp[tSl])) ?_ ?_
 ·rintro⟨o3,l3⟩ H3 J w3 hlt
  simp only at w3
  simp(disch:=omega) only[hcs,hlt,go_sem]
  exact hQ _ _ H3 H3 [] nofun rfl (Low.refl _) ⟨rfl,w3.fin er0.symm (fun _=>rfl) (by omega)⟩
 ·rintro done x rest ⟨o3,l3⟩ H3 J hd hlt hlt2 w3 hJ
  simp only at w3
  have hg:=zab hd
  have hbm:=zbf done x rest
  rw[← hd] at hbm
  have hmem:x∈L:=by rw[hd];simp
  have hwx:=zj6 hwL x hmem
  obtain⟨k,al,nm,args,dirs,on,sels⟩:=x
  have hbx:bS (.mk k al nm args dirs on sels)=1+al.length+nm.length+on.length+bMs args+bDs dirs+bSs sels:=rfl
  have hcss:=YJ sels
  rw[y6] at hg
  simp(disch:=omega) only[hcs,hlt,hg,go_sem]
  refine zc fun b hb=>?_
  have hbw:b≠w:=fun e=>by subst e;rw[w3.here.cell] at hb;cases hb
  have w5:=w3.alloc (x:=.cells [.int .i64 k,.str al,.str nm,.sl .no 6 (cMs args),.sl .no 2 (cDs dirs),.str on,.sl .no 7 (cSs sels)]) hb
  have hbc:(H3.upd b (.cells [.int .i64 k,.str al,.str nm,.sl .no 6 (cMs args),.sl .no 2 (cDs dirs),.str on,.sl .no 7 (cSs sels)])) b=some (.cells [.int .i64 k,.str al,.str nm,.sl .no 6 (cMs args),.sl .no 2 (cDs dirs),.str on,.sl .no 7 (cSs sels)]):=upd_same ..
  have hc5:=w5.here.cell
  cases hok:ok&&Zk dp done with
  | false =>
   rw[hok] at hc5
   have hf:(ok&&yn dp L)=false:=by
    cases ok
    ·rfl
    ·rw[Bool.true_and] at hok ⊢;rw[er0];exact zi7 hd hok
   simp(disch:=omega) only[hc5,go_sem]
   refine hQ _ _ _ _ [] nofun rfl (Low.refl _) ⟨rfl,o3,l3,?_,w5.st,by have:=w5.len;omega,fun e=>?_⟩
   ·show WAt _ w o3 l3 (ok&&yn dp L) dp
    rw[hf,← hok];exact w5.here
   ·have e:(ok&&yn dp L)=true:=e
    rw[hf] at e;cases e
  | true =>
   rw[hok] at hc5
   have hstep:∀(o6:Own) (l6:List Tok) (H6:zb),WR H o w l ok dp (16*bSs done+16*bS (.mk k al nm args dirs on sels)) (Zk dp done&&yv dp (.mk k al nm args dirs on sels)) (tSl done++tS (.mk k al nm args dirs on sels)) H6 o6 l6→J ((Y9 _ [(20,.int .i64 ((done.length:Int)+1))]).keep [0,18,19,20]) H6:=fun o6 l6 H6 w6 =>
    hJ (o6,l6) H6 (w6.cast (by rw[ZG];omega) (zH ..).symm (ZK ..).symm)
   by_cases k1:k=1
   ·have hsp:=znV k al nm args dirs on sels k1 hwx (by simp only[Lim];omega)
    rw[y6] at hsp
    subst k1
    simp(disch:=omega) only[hc5,hbc,go_sem]
    refine zn hsp w5 (by omega) (by omega) (by omega) fun o6 l6 H6 w6 s6=>?_
    simp(disch:=omega) only[wrap64,go_sem]
    exact goJ (hstep o6 l6 H6 w6) (by simp(disch:=omega) only[go_sem])
   by_cases k2:k=2
   ·have hsp:=zpa (c:=bSs sels) (ih (bSs sels) (by omega)) k al nm args dirs on sels k2 (Al4 _) hwx (by simp only[Lim];omega)
    rw[y6] at hsp
    subst k2
    simp(disch:=omega) only[hc5,hbc,go_sem]
    refine zn hsp w5 (by omega) (by omega) (by omega) fun o6 l6 H6 w6 s6=>?_
    simp(disch:=omega) only[wrap64,go_sem]
    exact goJ (hstep o6 l6 H6 w6) (by simp(disch:=omega) only[go_sem])
   have hLB:=ih (bSs sels) (by omega)
   obtain⟨hwa,hwd,hws⟩:=hwx
   obtain⟨n,hnd⟩:∃ n,n=(decide (k=0)&&decide (on=[])):=⟨_,rfl⟩
   have er:yv dp (.mk k al nm args dirs on sels)=(n&&(decide (al=[])||zR al)&&zR nm&&YI dp false args&&Za dp false dirs&&(decide (sels.length=0)||yn (dp+1) sels)):=by
    rw[hnd];simp only[yv,k1,k2,if_false]
    by_cases k0:k=0
    ·simp only[k0,if_true,yn]
     by_cases hz:sels.length=0
     ·simp only[hz,decide_true,Bool.true_or]
      cases Za dp false dirs<;>cases zR nm<;>cases YI dp false args<;>simp[Bool.and_comm]
     ·simp only[hz,decide_false,Bool.false_or,ne_eq,not_false_eq_true,decide_true,Bool.true_and]
      cases Za dp false dirs<;>cases zR nm<;>cases YI dp false args<;>simp[Bool.and_comm,ye,Bool.and_left_comm]
    ·simp[k0]
   have et:n=true→tS (.mk k al nm args dirs on sels)=(if al=[] then [] else [wk al,pk [58]])++(wk nm::zf4 args)++(tDs dirs++(if sels.length=0 then [] else tBl sels)):=fun e=>by
    rw[hnd] at e;simp only[Al0,yw] at e
    simp only[tS,e.1,if_true,tBl]
   by_cases k0:k=0
   case neg =>
    have hbv:n=false:=by rw[hnd];simp[k0]
    simp(disch:=omega) only[hc5,hbc,k1,k2,k0,go_sem]
    refine zn (ZD _) w5 (by omega) (by omega) (by omega) fun o6 l6 H6 w6 s6=>?_
    have hb6:=s6.box w5.here.own hbc hbw
    by_cases hal:al=[]
    case pos =>
     simp(disch:=omega) only[hb6,hal,go_sem]
     refine zn (yt nm (by simp only[Lim];omega)) w6 (by omega) (by omega) (by omega) fun o9 l9 H9 w9 s9=>?_
     have hb9:=s9.box w6.here.own hb6 hbw
     simp(disch:=omega) only[hb9,go_sem]
     refine zn (zdR false args hwa (by simp only[Lim];omega)) w9 (by omega) (by omega) (by omega) fun oY lY HY wY sY=>?_
     have hbY:=sY.box w9.here.own hb9 hbw
     simp(disch:=omega) only[hbY,go_sem]
     refine zn (yN false dirs hwd (by simp only[Lim];omega)) wY (by omega) (by omega) (by omega) fun oZ lZ HZ wZ sZ=>?_
     have hbZ:=sZ.box wY.here.own hbY hbw
     simp(disch:=omega) only[hbZ,go_sem]
     by_cases hz:sels.length=0
     case pos =>
      have hz':¬ ((0:Int)<(sels.length:Int)):=by omega
      simp(disch:=omega) only[hcss,hz',wrap64,go_sem]
      exact goJ (hJ (oZ,lZ) HZ (wZ.castC (by rw[ZG];simp only[bS];omega) (by rw[zH,er,hbv];simp[hz,hal,ye]) (fun e=>by rw[ZK,et (by rw[zH,er] at e;simp only[Al0] at e;exact e.2.1.1.1.1.1)];simp[hz,hal]))) (by simp(disch:=omega) only[go_sem])
     case neg =>
      have hz':((0:Int)<(sels.length:Int))=True:=eq_true (by omega)
      have hbox:=sZ.box wY.here.own hbY hbw
      simp(disch:=omega) only[hcss,hz',hbox,go_sem]
      refine zn (yL hLB sels (Al4 _) hws (by simp only[Lim];omega)) wZ (by omega) (by omega) (by omega) fun oU lU HU wU _=>?_
      simp(disch:=omega) only[wrap64,go_sem]
      exact goJ (hJ (oU,lU) HU (wU.castC (by rw[ZG];simp only[bS];omega) (by rw[zH,er,hbv];simp[hz,hal,ye]) (fun e=>by rw[ZK,et (by rw[zH,er] at e;simp only[Al0] at e;exact e.2.1.1.1.1.1)];simp[hz,hal,tBl]))) (by simp(disch:=omega) only[go_sem])
    case neg =>
     simp(disch:=omega) only[hb6,hal,go_sem]
     refine zn (yt al (by simp only[Lim];omega)) w6 (by omega) (by omega) (by omega) fun o7 l7 H7 w7 s7=>?_
     have hb7:=s7.box w6.here.own hb6 hbw
     simp(disch:=omega) only[hb7,go_sem]
     refine zn (yE [58] _) w7 (by omega) (by omega) (by omega) fun o8 l8 H8 w8 s8=>?_
     have hb8:=s8.box w7.here.own hb7 hbw
     simp(disch:=omega) only[hb8,go_sem]
     refine zn (yt nm (by simp only[Lim];omega)) w8 (by omega) (by omega) (by omega) fun o9 l9 H9 w9 s9=>?_
     have hb9:=s9.box w8.here.own hb8 hbw
     simp(disch:=omega) only[hb9,go_sem]
     refine zn (zdR false args hwa (by simp only[Lim];omega)) w9 (by omega) (by omega) (by omega) fun oY lY HY wY sY=>?_
     have hbY:=sY.box w9.here.own hb9 hbw
     simp(disch:=omega) only[hbY,go_sem]
     refine zn (yN false dirs hwd (by simp only[Lim];omega)) wY (by omega) (by omega) (by omega) fun oZ lZ HZ wZ sZ=>?_
     have hbZ:=sZ.box wY.here.own hbY hbw
     simp(disch:=omega) only[hbZ,go_sem]
     by_cases hz:sels.length=0
     case pos =>
      have hz':¬ ((0:Int)<(sels.length:Int)):=by omega
      simp(disch:=omega) only[hcss,hz',wrap64,go_sem]
      exact goJ (hJ (oZ,lZ) HZ (wZ.castC (by rw[ZG];simp only[bS];omega) (by rw[zH,er,hbv];simp[hz,hal,ye]) (fun e=>by rw[ZK,et (by rw[zH,er] at e;simp only[Al0] at e;exact e.2.1.1.1.1.1)];simp[hz,hal]))) (by simp(disch:=omega) only[go_sem])
     case neg =>
      have hz':((0:Int)<(sels.length:Int))=True:=eq_true (by omega)
      have hbox:=sZ.box wY.here.own hbY hbw
      simp(disch:=omega) only[hcss,hz',hbox,go_sem]
      refine zn (yL hLB sels (Al4 _) hws (by simp only[Lim];omega)) wZ (by omega) (by omega) (by omega) fun oU lU HU wU _=>?_
      simp(disch:=omega) only[wrap64,go_sem]
      exact goJ (hJ (oU,lU) HU (wU.castC (by rw[ZG];simp only[bS];omega) (by rw[zH,er,hbv];simp[hz,hal,ye]) (fun e=>by rw[ZK,et (by rw[zH,er] at e;simp only[Al0] at e;exact e.2.1.1.1.1.1)];simp[hz,hal,tBl]))) (by simp(disch:=omega) only[go_sem])
   subst k0
   by_cases ho:on=[]
   case neg =>
    have hbv:n=false:=by rw[hnd];simp[ho]
    simp(disch:=omega) only[hc5,hbc,ho,go_sem]
    refine zn (ZD _) w5 (by omega) (by omega) (by omega) fun o6 l6 H6 w6 s6=>?_
    have hb6:=s6.box w5.here.own hbc hbw
    by_cases hal:al=[]
    case pos =>
     simp(disch:=omega) only[hb6,hal,go_sem]
     refine zn (yt nm (by simp only[Lim];omega)) w6 (by omega) (by omega) (by omega) fun o9 l9 H9 w9 s9=>?_
     have hb9:=s9.box w6.here.own hb6 hbw
     simp(disch:=omega) only[hb9,go_sem]
     refine zn (zdR false args hwa (by simp only[Lim];omega)) w9 (by omega) (by omega) (by omega) fun oY lY HY wY sY=>?_
     have hbY:=sY.box w9.here.own hb9 hbw
     simp(disch:=omega) only[hbY,go_sem]
     refine zn (yN false dirs hwd (by simp only[Lim];omega)) wY (by omega) (by omega) (by omega) fun oZ lZ HZ wZ sZ=>?_
     have hbZ:=sZ.box wY.here.own hbY hbw
     simp(disch:=omega) only[hbZ,go_sem]
     by_cases hz:sels.length=0
     case pos =>
      have hz':¬ ((0:Int)<(sels.length:Int)):=by omega
      simp(disch:=omega) only[hcss,hz',wrap64,go_sem]
      exact goJ (hJ (oZ,lZ) HZ (wZ.castC (by rw[ZG];simp only[bS];omega) (by rw[zH,er,hbv];simp[hz,hal,ye]) (fun e=>by rw[ZK,et (by rw[zH,er] at e;simp only[Al0] at e;exact e.2.1.1.1.1.1)];simp[hz,hal]))) (by simp(disch:=omega) only[go_sem])
     case neg =>
      have hz':((0:Int)<(sels.length:Int))=True:=eq_true (by omega)
      have hbox:=sZ.box wY.here.own hbY hbw
      simp(disch:=omega) only[hcss,hz',hbox,go_sem]
      refine zn (yL hLB sels (Al4 _) hws (by simp only[Lim];omega)) wZ (by omega) (by omega) (by omega) fun oU lU HU wU _=>?_
      simp(disch:=omega) only[wrap64,go_sem]
      exact goJ (hJ (oU,lU) HU (wU.castC (by rw[ZG];simp only[bS];omega) (by rw[zH,er,hbv];simp[hz,hal,ye]) (fun e=>by rw[ZK,et (by rw[zH,er] at e;simp only[Al0] at e;exact e.2.1.1.1.1.1)];simp[hz,hal,tBl]))) (by simp(disch:=omega) only[go_sem])
    case neg =>
     simp(disch:=omega) only[hb6,hal,go_sem]
     refine zn (yt al (by simp only[Lim];omega)) w6 (by omega) (by omega) (by omega) fun o7 l7 H7 w7 s7=>?_
     have hb7:=s7.box w6.here.own hb6 hbw
     simp(disch:=omega) only[hb7,go_sem]
     refine zn (yE [58] _) w7 (by omega) (by omega) (by omega) fun o8 l8 H8 w8 s8=>?_
     have hb8:=s8.box w7.here.own hb7 hbw
     simp(disch:=omega) only[hb8,go_sem]
     refine zn (yt nm (by simp only[Lim];omega)) w8 (by omega) (by omega) (by omega) fun o9 l9 H9 w9 s9=>?_
     have hb9:=s9.box w8.here.own hb8 hbw
     simp(disch:=omega) only[hb9,go_sem]
     refine zn (zdR false args hwa (by simp only[Lim];omega)) w9 (by omega) (by omega) (by omega) fun oY lY HY wY sY=>?_
     have hbY:=sY.box w9.here.own hb9 hbw
     simp(disch:=omega) only[hbY,go_sem]
     refine zn (yN false dirs hwd (by simp only[Lim];omega)) wY (by omega) (by omega) (by omega) fun oZ lZ HZ wZ sZ=>?_
     have hbZ:=sZ.box wY.here.own hbY hbw
     simp(disch:=omega) only[hbZ,go_sem]
     by_cases hz:sels.length=0
     case pos =>
      have hz':¬ ((0:Int)<(sels.length:Int)):=by omega
      simp(disch:=omega) only[hcss,hz',wrap64,go_sem]
      exact goJ (hJ (oZ,lZ) HZ (wZ.castC (by rw[ZG];simp only[bS];omega) (by rw[zH,er,hbv];simp[hz,hal,ye]) (fun e=>by rw[ZK,et (by rw[zH,er] at e;simp only[Al0] at e;exact e.2.1.1.1.1.1)];simp[hz,hal]))) (by simp(disch:=omega) only[go_sem])
     case neg =>
      have hz':((0:Int)<(sels.length:Int))=True:=eq_true (by omega)
      have hbox:=sZ.box wY.here.own hbY hbw
      simp(disch:=omega) only[hcss,hz',hbox,go_sem]
      refine zn (yL hLB sels (Al4 _) hws (by simp only[Lim];omega)) wZ (by omega) (by omega) (by omega) fun oU lU HU wU _=>?_
      simp(disch:=omega) only[wrap64,go_sem]
      exact goJ (hJ (oU,lU) HU (wU.castC (by rw[ZG];simp only[bS];omega) (by rw[zH,er,hbv];simp[hz,hal,ye]) (fun e=>by rw[ZK,et (by rw[zH,er] at e;simp only[Al0] at e;exact e.2.1.1.1.1.1)];simp[hz,hal,tBl]))) (by simp(disch:=omega) only[go_sem])
   subst ho
   have hbv:n=true:=by rw[hnd];simp
   simp(disch:=omega) only[hc5,hbc,go_sem]
   refine zn (ZD _) w5 (by omega) (by omega) (by omega) fun o6 l6 H6 w6 s6=>?_
   have hb6:=s6.box w5.here.own hbc hbw
   by_cases hal:al=[]
   case pos =>
    simp(disch:=omega) only[hb6,hal,go_sem]
    refine zn (yt nm (by simp only[Lim];omega)) w6 (by omega) (by omega) (by omega) fun o9 l9 H9 w9 s9=>?_
    have hb9:=s9.box w6.here.own hb6 hbw
    simp(disch:=omega) only[hb9,go_sem]
    refine zn (zdR false args hwa (by simp only[Lim];omega)) w9 (by omega) (by omega) (by omega) fun oY lY HY wY sY=>?_
    have hbY:=sY.box w9.here.own hb9 hbw
    simp(disch:=omega) only[hbY,go_sem]
    refine zn (yN false dirs hwd (by simp only[Lim];omega)) wY (by omega) (by omega) (by omega) fun oZ lZ HZ wZ sZ=>?_
    have hbZ:=sZ.box wY.here.own hbY hbw
    simp(disch:=omega) only[hbZ,go_sem]
    by_cases hz:sels.length=0
    case pos =>
     have hz':¬ ((0:Int)<(sels.length:Int)):=by omega
     simp(disch:=omega) only[hcss,hz',wrap64,go_sem]
     exact goJ (hJ (oZ,lZ) HZ (wZ.castC (by rw[ZG];simp only[bS];omega) (by rw[zH,er,hbv];simp[hz,hal,ye]) (fun e=>by rw[ZK,et (by rw[zH,er] at e;simp only[Al0] at e;exact e.2.1.1.1.1.1)];simp[hz,hal]))) (by simp(disch:=omega) only[go_sem])
    case neg =>
     have hz':((0:Int)<(sels.length:Int))=True:=eq_true (by omega)
     have hbox:=sZ.box wY.here.own hbY hbw
     simp(disch:=omega) only[hcss,hz',hbox,go_sem]
     refine zn (yL hLB sels (Al4 _) hws (by simp only[Lim];omega)) wZ (by omega) (by omega) (by omega) fun oU lU HU wU _=>?_
     simp(disch:=omega) only[wrap64,go_sem]
     exact goJ (hJ (oU,lU) HU (wU.castC (by rw[ZG];simp only[bS];omega) (by rw[zH,er,hbv];simp[hz,hal,ye]) (fun e=>by rw[ZK,et (by rw[zH,er] at e;simp only[Al0] at e;exact e.2.1.1.1.1.1)];simp[hz,hal,tBl]))) (by simp(disch:=omega) only[go_sem])
   case neg =>
    simp(disch:=omega) only[hb6,hal,go_sem]
    refine zn (yt al (by simp only[Lim];omega)) w6 (by omega) (by omega) (by omega) fun o7 l7 H7 w7 s7=>?_
    have hb7:=s7.box w6.here.own hb6 hbw
    simp(disch:=omega) only[hb7,go_sem]
    refine zn (yE [58] _) w7 (by omega) (by omega) (by omega) fun o8 l8 H8 w8 s8=>?_
    have hb8:=s8.box w7.here.own hb7 hbw
    simp(disch:=omega) only[hb8,go_sem]
    refine zn (yt nm (by simp only[Lim];omega)) w8 (by omega) (by omega) (by omega) fun o9 l9 H9 w9 s9=>?_
    have hb9:=s9.box w8.here.own hb8 hbw
    simp(disch:=omega) only[hb9,go_sem]
    refine zn (zdR false args hwa (by simp only[Lim];omega)) w9 (by omega) (by omega) (by omega) fun oY lY HY wY sY=>?_
    have hbY:=sY.box w9.here.own hb9 hbw
    simp(disch:=omega) only[hbY,go_sem]
    refine zn (yN false dirs hwd (by simp only[Lim];omega)) wY (by omega) (by omega) (by omega) fun oZ lZ HZ wZ sZ=>?_
    have hbZ:=sZ.box wY.here.own hbY hbw
    simp(disch:=omega) only[hbZ,go_sem]
    by_cases hz:sels.length=0
    case pos =>
     have hz':¬ ((0:Int)<(sels.length:Int)):=by omega
     simp(disch:=omega) only[hcss,hz',wrap64,go_sem]
     exact goJ (hJ (oZ,lZ) HZ (wZ.castC (by rw[ZG];simp only[bS];omega) (by rw[zH,er,hbv];simp[hz,hal,ye]) (fun e=>by rw[ZK,et (by rw[zH,er] at e;simp only[Al0] at e;exact e.2.1.1.1.1.1)];simp[hz,hal]))) (by simp(disch:=omega) only[go_sem])
    case neg =>
     have hz':((0:Int)<(sels.length:Int))=True:=eq_true (by omega)
     have hbox:=sZ.box wY.here.own hbY hbw
     simp(disch:=omega) only[hcss,hz',hbox,go_sem]
     refine zn (yL hLB sels (Al4 _) hws (by simp only[Lim];omega)) wZ (by omega) (by omega) (by omega) fun oU lU HU wU _=>?_
     simp(disch:=omega) only[wrap64,go_sem]
     exact goJ (hJ (oU,lU) HU (wU.castC (by rw[ZG];simp only[bS];omega) (by rw[zH,er,hbv];simp[hz,hal,ye]) (fun e=>by rw[ZK,et (by rw[zH,er] at e;simp only[Al0] at e;exact e.2.1.1.1.1.1)];simp[hz,hal,tBl]))) (by simp(disch:=omega) only[go_sem])
theorem zaw (l:List VarD) (x:VarD):bWs (l++[x])=bWs l+bW x:=by simp[bWs]
theorem zr5 (f:FragD) (hw:wfF f) (hm:32*bF f≤Lim):WC 128 [.agg (cF f)] (32*bF f) 0 16 (fun dp=>decide (f.nm≠[111,110])&&(zR f.nm&&(zR f.on&&(Za dp true f.dirs&&yn (dp+1) f.sels)))) (tF f):=by
 intro H w o l ok dp h h0 h1 hb
 obtain⟨nm,on,dirs,sels⟩:=f
 have hm':=hm
 simp only[Lim,bF] at hm'
 simp only[bF] at hb
 obtain⟨hwd,hws⟩:=hw
 have ef:cF ⟨nm,on,dirs,sels⟩=[.str nm,.str on,.sl .no 2 (cDs dirs),.sl .no 7 (cSs sels)]:=rfl
 refine zj.go ir128 ck128 (Al4 _) fun KP Q hQ=>?_
 have w0:=WR.refl h
 obtain⟨n,hn⟩:∃ n,n=decide (nm≠[111,110]):=⟨_,rfl⟩
 have nf:zR [102,114,97,103,109,101,110,116]=true:=by decide
 by_cases ho:nm=[111,110]
 case' pos =>
  have hbv:n=false:=by rw[hn];simp[ho]
  subst ho
  simp(disch:=first|omega|assumption) only[ir128,ef,go_sem]
  refine zn (ZD _) w0 (by omega) (by omega) (by omega) fun o1 l1 H1 w1 _=>?_
 case' neg =>
  have hbv:n=true:=by rw[hn];simp[ho]
  simp(disch:=first|omega|assumption) only[ir128,ef,ho,go_sem]
  refine zn (ZD _) w0 (by omega) (by omega) (by omega) fun o1 l1 H1 w1 _=>?_
 all_goals
  simp(disch:=first|omega|assumption) only[go_sem]
  refine zn (yt [102,114,97,103,109,101,110,116] (by simp[Lim])) w1 (by omega) (by omega) (by omega) fun o2 l2 H2 w2 _=>?_
  simp(disch:=first|omega|assumption) only[go_sem]
  refine zn (yt _ (by simp only[Lim];first|omega|simp)) w2 (by omega) (by omega) (by omega) fun o3 l3 H3 w3 _=>?_
  simp(disch:=first|omega|assumption) only[go_sem]
  refine zn (yt [111,110] (by simp[Lim])) w3 (by omega) (by omega) (by omega) fun o4 l4 H4 w4 _=>?_
  simp(disch:=first|omega|assumption) only[go_sem]
  refine zn (yt on (by simp only[Lim];omega)) w4 (by omega) (by omega) (by omega) fun o5 l5 H5 w5 _=>?_
  simp(disch:=first|omega|assumption) only[go_sem]
  refine zn (yN true dirs hwd (by simp only[Lim];omega)) w5 (by omega) (by omega) (by omega) fun o6 l6 H6 w6 _=>?_
  simp(disch:=first|omega|assumption) only[go_sem]
  refine zn (yL (Y8 (bSs sels)) sels (Al4 _) hws (by simp only[Lim];omega)) w6 (by omega) (by omega) (by omega) fun o7 l7 H7 w7 _=>?_
  simp(disch:=first|omega|assumption) only[go_sem]
  exact hQ _ _ H7 H7 [] nofun rfl (Low.refl _) ⟨rfl,w7.fin (by simp only[← hn,hbv,nf,zjL];simp[ye]) (fun _=>by simp[tF]) (by simp only[bF];omega)⟩
noncomputable def ZE (dp:Int) (x:VarD):Bool:=zR x.nm&&(zI x.t&&(if x.has then zZ dp true x.d else eqd x.d zV))
noncomputable def yG (dp:Int) (x:OpD):Bool:=(decide (x.k=0)||decide (x.k=1))&&((decide (x.nm=[])||zR x.nm)&&(x.vars.all (ZE dp)&&(Za dp true x.dirs&&yn (dp+1) x.sels)))
theorem zuO (x:OpD) (hw:wfO x) (hm:64*bO x≤Lim):WC 127 [.agg (cO x)] (64*bO x) 0 16 (fun dp=>yG dp x) (tO x):=by
 intro H w o l ok dp h h0 h1 hb
 obtain⟨k,nm,vars,dirs,sels⟩:=x
 have hm':=hm
 simp only[Lim,bO] at hm'
 simp only[bO] at hb
 obtain⟨hwv,hwd,hws⟩:=hw
 have eo:cO ⟨k,nm,vars,dirs,sels⟩=[.int .i64 k,.str nm,.sl .no 10 (cWs vars),.sl .no 2 (cDs dirs),.sl .no 7 (cSs sels)]:=rfl
 have hcw:=Zs vars
 have hvl:=yS vars
 have nq:zR [113,117,101,114,121]=true:=by decide
 have nmu:zR [109,117,116,97,116,105,111,110]=true:=by decide
 refine zj.go ir127 ck127 (Al4 _) fun KP Q hQ=>?_
 have w0:=WR.refl h
 obtain⟨R3,hR3⟩:∃ R3,R3=((decide (k=0)||decide (k=1))&&(decide (nm=[])||zR nm)):=⟨_,rfl⟩
 obtain⟨T3,hT3⟩:∃ T3,T3=(wk (if k=0 then [113,117,101,114,121] else [109,117,116,97,116,105,111,110])::(if nm=[] then [] else [wk nm])):=⟨_,rfl⟩
 have er:yG dp ⟨k,nm,vars,dirs,sels⟩=(R3&&(vars.all (ZE dp)&&(Za dp true dirs&&yn (dp+1) sels))):=by
  rw[hR3];simp only[yG,ye]
 have et:R3=true→tO ⟨k,nm,vars,dirs,sels⟩=T3++(tWs vars++(tDs dirs++tBl sels)):=fun _=>by rw[hT3];simp[tO]
 by_cases hk0:k=0
 ·subst hk0
  have hk0:True:=trivial
  have hk1:True:=trivial
  simp(disch:=first|omega|assumption) only[ir127,eo,go_sem]
  refine zn (yt [113,117,101,114,121] (by simp[Lim])) w0 (by omega) (by omega) (by omega) fun o2 l2 H2 w2 _=>?_
  by_cases hnm:nm=[]
  case pos =>
   have w3:=(w2.castC (B':=2) (r':=R3) (tk':=T3) (by omega) (by rw[hR3];simp[hk0,hk1,hnm,nq,nmu]) (fun e=>by first|(rw[hT3];simp[hk0,hk1,hnm];done)|(exfalso;revert e;rw[hR3];simp[hk0,hk1])))
   by_cases hv0:vars.length=0
   case pos =>
    have hv1:¬ ((0:Int)<(vars.length:Int)):=by omega
    have hev:=zfs.1 hv0
    simp(disch:=first|omega|assumption) only[hnm,hcw,hv1,go_sem]
    refine zn (yN true dirs hwd (by simp only[Lim];omega)) w3 (by omega) (by omega) (by omega) fun oA lA HA wA _=>?_
    simp(disch:=first|omega|assumption) only[go_sem]
    refine zn (yL (Y8 (bSs sels)) sels (Al4 _) hws (by simp only[Lim];omega)) wA (by omega) (by omega) (by omega) fun oB lB HB wB _=>?_
    simp(disch:=first|omega|assumption) only[go_sem]
    exact hQ _ _ HB HB [] nofun rfl (Low.refl _) ⟨rfl,wB.fin (by show _=yG dp _;rw[er];simp[hev,ye]) (fun e=>by rw[et (by have e:yG dp _=true:=e;rw[er] at e;simp only[Al0] at e;exact e.1)];simp[tWs,hv0]) (by simp only[bO];omega)⟩
   case neg =>
    have hev:=hv0
    have hv1:((0:Int)<(vars.length:Int))=True:=eq_true (by omega)
    simp(disch:=first|omega|assumption) only[hnm,hcw,hv1,go_sem]
    refine zn (yE [40] _) w3 (by omega) (by omega) (by omega) fun o4 l4 H4 w4 _=>?_
    simp(disch:=first|omega|assumption) only[hcw,go_sem]
    refine zf vars 35 (fun x:Own×List Tok=>[]) (fun done rest x H'=>WR H o w l ok dp (3+32*bWs done) (R3&&done.all (ZE dp)) (T3++(pk [40]::done.flatMap tW)) H' x.1 x.2) (o4,l4) (by simp(disch:=first|omega|assumption) only[go_sem]) (w4.cast (by omega) (by simp) (by simp)) ?_ ?_
    case refine_1 =>
     rintro⟨o5,l5⟩ H5 J5 w5 hlt
     simp only at w5
     simp(disch:=first|omega|assumption) only[hcw,hlt,go_sem]
     refine zn (yE [41] _) w5 (by omega) (by omega) (by omega) fun o6 l6 H6 w6 _=>?_
     simp(disch:=first|omega|assumption) only[go_sem]
     refine zn (yN true dirs hwd (by simp only[Lim];omega)) w6 (by omega) (by omega) (by omega) fun oA lA HA wA _=>?_
     simp(disch:=first|omega|assumption) only[go_sem]
     refine zn (yL (Y8 (bSs sels)) sels (Al4 _) hws (by simp only[Lim];omega)) wA (by omega) (by omega) (by omega) fun oB lB HB wB _=>?_
     simp(disch:=first|omega|assumption) only[go_sem]
     exact hQ _ _ HB HB [] nofun rfl (Low.refl _) ⟨rfl,wB.fin (by show _=yG dp _;rw[er];simp[hev,ye]) (fun e=>by rw[et (by have e:yG dp _=true:=e;rw[er] at e;simp only[Al0] at e;exact e.1)];simp[tWs,hv0]) (by simp only[bO];omega)⟩
    case refine_2 =>
     rintro done x rest ⟨o5,l5⟩ H5 J5 hd hlt hlt2 w5 hJ5
     simp only at w5
     have hg:=Zm hd
     have hbm:=zaP done x rest
     rw[← hd] at hbm
     have hwx:=hwv x (by rw[hd];simp)
     obtain⟨vn,⟨tn,tl,tm⟩,vh,vd⟩:=x
     have hwvd:wfV vd:=hwx.2.2
     have hvp:=YY vd
     have hbx:bW ⟨vn,⟨tn,tl,tm⟩,vh,vd⟩=vn.length+tn.length+bV vd:=rfl
     rw[zco] at hg
     simp only at hg
     simp(disch:=first|omega|assumption) only[zq,zl,zg,zp,zm,zh,zu,hcw,hlt,hg,go_sem]
     refine zc fun b hb=>?_
     have hbw:b≠w:=fun e=>by subst e;rw[w5.here.cell] at hb;cases hb
     have w6:=w5.alloc (x:=.cells (.str vn::.str tn::.int .i64 tl::.int .i64 tm::.bool vh::cV vd)) hb
     have hbc:(H5.upd b (.cells (.str vn::.str tn::.int .i64 tl::.int .i64 tm::.bool vh::cV vd))) b=some (.cells (.str vn::.str tn::.int .i64 tl::.int .i64 tm::.bool vh::cV vd)):=upd_same ..
     simp(disch:=first|omega|assumption) only[zq,zl,zg,zp,zm,zh,zu,go_sem]
     refine zn (yE [36] _) w6 (by omega) (by omega) (by omega) fun o7 l7 H7 w7 s7=>?_
     have hb7:=s7.box w6.here.own hbc hbw
     simp(disch:=first|omega|assumption) only[zq,zl,zg,zp,zm,zh,zu,hb7,go_sem]
     refine zn (yt vn (by simp only[Lim];omega)) w7 (by omega) (by omega) (by omega) fun o8 l8 H8 w8 s8=>?_
     have hb8:=s8.box w7.here.own hb7 hbw
     simp(disch:=first|omega|assumption) only[zq,zl,zg,zp,zm,zh,zu,hb8,go_sem]
     refine zn (yE [58] _) w8 (by omega) (by omega) (by omega) fun o9 l9 H9 w9 s9=>?_
     have hb9:=s9.box w8.here.own hb8 hbw
     simp(disch:=first|omega|assumption) only[zq,zl,zg,zp,zm,zh,zu,hb9,go_sem]
     refine zn (args:=[.agg [.str tn,.int .i64 tl,.int .i64 tm]]) (show WC _ [.agg [.str tn,.int .i64 tl,.int .i64 tm]] 20 (-1000) 1000 (fun _=>zI ⟨tn,tl,tm⟩) (tTy ⟨tn,tl,tm⟩) from zeR ⟨tn,tl,tm⟩ (by simp only[Lim];omega)) w9 (by omega) (by omega) (by omega) fun oC lC HC wC sC=>?_
     have hbC:=sC.box w9.here.own hb9 hbw
     simp(disch:=first|omega|assumption) only[zq,zl,zg,zp,zm,zh,zu,hbC,go_sem]
     refine zn (zaS vh vd hwvd (by simp only[Lim];omega)) wC (by omega) (by omega) (by omega) fun oD lD HD wD sD=>?_
     simp(disch:=first|omega|assumption) only[wrap64,go_sem]
     exact goJ (hJ5 (oD,lD) HD (wD.cast (by rw[zaw];omega) (by simp[ZE,ye]) (by simp[tW]))) (by simp(disch:=first|omega|assumption) only[go_sem])
  case neg =>
   simp(disch:=first|omega|assumption) only[hnm,go_sem]
   refine zn (yt nm (by simp only[Lim];omega)) w2 (by omega) (by omega) (by omega) fun o3 l3 H3 w3' _=>?_
   have w3:=(w3'.castC (B':=2) (r':=R3) (tk':=T3) (by omega) (by rw[hR3];simp[hk0,hk1,hnm,nq,nmu]) (fun e=>by first|(rw[hT3];simp[hk0,hk1,hnm];done)|(exfalso;revert e;rw[hR3];simp[hk0,hk1])))
   by_cases hv0:vars.length=0
   case pos =>
    have hv1:¬ ((0:Int)<(vars.length:Int)):=by omega
    have hev:=zfs.1 hv0
    simp(disch:=first|omega|assumption) only[hnm,hcw,hv1,go_sem]
    refine zn (yN true dirs hwd (by simp only[Lim];omega)) w3 (by omega) (by omega) (by omega) fun oA lA HA wA _=>?_
    simp(disch:=first|omega|assumption) only[go_sem]
    refine zn (yL (Y8 (bSs sels)) sels (Al4 _) hws (by simp only[Lim];omega)) wA (by omega) (by omega) (by omega) fun oB lB HB wB _=>?_
    simp(disch:=first|omega|assumption) only[go_sem]
    exact hQ _ _ HB HB [] nofun rfl (Low.refl _) ⟨rfl,wB.fin (by show _=yG dp _;rw[er];simp[hev,ye]) (fun e=>by rw[et (by have e:yG dp _=true:=e;rw[er] at e;simp only[Al0] at e;exact e.1)];simp[tWs,hv0]) (by simp only[bO];omega)⟩
   case neg =>
    have hev:=hv0
    have hv1:((0:Int)<(vars.length:Int))=True:=eq_true (by omega)
    simp(disch:=first|omega|assumption) only[hnm,hcw,hv1,go_sem]
    refine zn (yE [40] _) w3 (by omega) (by omega) (by omega) fun o4 l4 H4 w4 _=>?_
    simp(disch:=first|omega|assumption) only[hcw,go_sem]
    refine zf vars 35 (fun x:Own×List Tok=>[]) (fun done rest x H'=>WR H o w l ok dp (3+32*bWs done) (R3&&done.all (ZE dp)) (T3++(pk [40]::done.flatMap tW)) H' x.1 x.2) (o4,l4) (by simp(disch:=first|omega|assumption) only[go_sem]) (w4.cast (by omega) (by simp) (by simp)) ?_ ?_
    case refine_1 =>
     rintro⟨o5,l5⟩ H5 J5 w5 hlt
     simp only at w5
     simp(disch:=first|omega|assumption) only[hcw,hlt,go_sem]
     refine zn (yE [41] _) w5 (by omega) (by omega) (by omega) fun o6 l6 H6 w6 _=>?_
     simp(disch:=first|omega|assumption) only[go_sem]
     refine zn (yN true dirs hwd (by simp only[Lim];omega)) w6 (by omega) (by omega) (by omega) fun oA lA HA wA _=>?_
     simp(disch:=first|omega|assumption) only[go_sem]
     refine zn (yL (Y8 (bSs sels)) sels (Al4 _) hws (by simp only[Lim];omega)) wA (by omega) (by omega) (by omega) fun oB lB HB wB _=>?_
     simp(disch:=first|omega|assumption) only[go_sem]
     exact hQ _ _ HB HB [] nofun rfl (Low.refl _) ⟨rfl,wB.fin (by show _=yG dp _;rw[er];simp[hev,ye]) (fun e=>by rw[et (by have e:yG dp _=true:=e;rw[er] at e;simp only[Al0] at e;exact e.1)];simp[tWs,hv0]) (by simp only[bO];omega)⟩
    case refine_2 =>
     rintro done x rest ⟨o5,l5⟩ H5 J5 hd hlt hlt2 w5 hJ5
     simp only at w5
     have hg:=Zm hd
     have hbm:=zaP done x rest
     rw[← hd] at hbm
     have hwx:=hwv x (by rw[hd];simp)
     obtain⟨vn,⟨tn,tl,tm⟩,vh,vd⟩:=x
     have hwvd:wfV vd:=hwx.2.2
     have hvp:=YY vd
     have hbx:bW ⟨vn,⟨tn,tl,tm⟩,vh,vd⟩=vn.length+tn.length+bV vd:=rfl
     rw[zco] at hg
     simp only at hg
     simp(disch:=first|omega|assumption) only[zq,zl,zg,zp,zm,zh,zu,hcw,hlt,hg,go_sem]
     refine zc fun b hb=>?_
     have hbw:b≠w:=fun e=>by subst e;rw[w5.here.cell] at hb;cases hb
     have w6:=w5.alloc (x:=.cells (.str vn::.str tn::.int .i64 tl::.int .i64 tm::.bool vh::cV vd)) hb
     have hbc:(H5.upd b (.cells (.str vn::.str tn::.int .i64 tl::.int .i64 tm::.bool vh::cV vd))) b=some (.cells (.str vn::.str tn::.int .i64 tl::.int .i64 tm::.bool vh::cV vd)):=upd_same ..
     simp(disch:=first|omega|assumption) only[zq,zl,zg,zp,zm,zh,zu,go_sem]
     refine zn (yE [36] _) w6 (by omega) (by omega) (by omega) fun o7 l7 H7 w7 s7=>?_
     have hb7:=s7.box w6.here.own hbc hbw
     simp(disch:=first|omega|assumption) only[zq,zl,zg,zp,zm,zh,zu,hb7,go_sem]
     refine zn (yt vn (by simp only[Lim];omega)) w7 (by omega) (by omega) (by omega) fun o8 l8 H8 w8 s8=>?_
     have hb8:=s8.box w7.here.own hb7 hbw
     simp(disch:=first|omega|assumption) only[zq,zl,zg,zp,zm,zh,zu,hb8,go_sem]
     refine zn (yE [58] _) w8 (by omega) (by omega) (by omega) fun o9 l9 H9 w9 s9=>?_
     have hb9:=s9.box w8.here.own hb8 hbw
     simp(disch:=first|omega|assumption) only[zq,zl,zg,zp,zm,zh,zu,hb9,go_sem]
     refine zn (args:=[.agg [.str tn,.int .i64 tl,.int .i64 tm]]) (show WC _ [.agg [.str tn,.int .i64 tl,.int .i64 tm]] 20 (-1000) 1000 (fun _=>zI ⟨tn,tl,tm⟩) (tTy ⟨tn,tl,tm⟩) from zeR ⟨tn,tl,tm⟩ (by simp only[Lim];omega)) w9 (by omega) (by omega) (by omega) fun oC lC HC wC sC=>?_
     have hbC:=sC.box w9.here.own hb9 hbw
     simp(disch:=first|omega|assumption) only[zq,zl,zg,zp,zm,zh,zu,hbC,go_sem]
     refine zn (zaS vh vd hwvd (by simp only[Lim];omega)) wC (by omega) (by omega) (by omega) fun oD lD HD wD sD=>?_
     simp(disch:=first|omega|assumption) only[wrap64,go_sem]
     exact goJ (hJ5 (oD,lD) HD (wD.cast (by rw[zaw];omega) (by simp[ZE,ye]) (by simp[tW]))) (by simp(disch:=first|omega|assumption) only[go_sem])
 by_cases hk1:k=1
 ·subst hk1
  have hk1:True:=trivial
  simp(disch:=first|omega|assumption) only[ir127,eo,go_sem]
  refine zn (yt [109,117,116,97,116,105,111,110] (by simp[Lim])) w0 (by omega) (by omega) (by omega) fun o2 l2 H2 w2 _=>?_
  by_cases hnm:nm=[]
  case pos =>
   have w3:=(w2.castC (B':=2) (r':=R3) (tk':=T3) (by omega) (by rw[hR3];simp[hk0,hk1,hnm,nq,nmu]) (fun e=>by first|(rw[hT3];simp[hk0,hk1,hnm];done)|(exfalso;revert e;rw[hR3];simp[hk0,hk1])))
   by_cases hv0:vars.length=0
   case pos =>
    have hv1:¬ ((0:Int)<(vars.length:Int)):=by omega
    have hev:=zfs.1 hv0
    simp(disch:=first|omega|assumption) only[hnm,hcw,hv1,go_sem]
    refine zn (yN true dirs hwd (by simp only[Lim];omega)) w3 (by omega) (by omega) (by omega) fun oA lA HA wA _=>?_
    simp(disch:=first|omega|assumption) only[go_sem]
    refine zn (yL (Y8 (bSs sels)) sels (Al4 _) hws (by simp only[Lim];omega)) wA (by omega) (by omega) (by omega) fun oB lB HB wB _=>?_
    simp(disch:=first|omega|assumption) only[go_sem]
    exact hQ _ _ HB HB [] nofun rfl (Low.refl _) ⟨rfl,wB.fin (by show _=yG dp _;rw[er];simp[hev,ye]) (fun e=>by rw[et (by have e:yG dp _=true:=e;rw[er] at e;simp only[Al0] at e;exact e.1)];simp[tWs,hv0]) (by simp only[bO];omega)⟩
   case neg =>
    have hev:=hv0
    have hv1:((0:Int)<(vars.length:Int))=True:=eq_true (by omega)
    simp(disch:=first|omega|assumption) only[hnm,hcw,hv1,go_sem]
    refine zn (yE [40] _) w3 (by omega) (by omega) (by omega) fun o4 l4 H4 w4 _=>?_
    simp(disch:=first|omega|assumption) only[hcw,go_sem]
    refine zf vars 35 (fun x:Own×List Tok=>[]) (fun done rest x H'=>WR H o w l ok dp (3+32*bWs done) (R3&&done.all (ZE dp)) (T3++(pk [40]::done.flatMap tW)) H' x.1 x.2) (o4,l4) (by simp(disch:=first|omega|assumption) only[go_sem]) (w4.cast (by omega) (by simp) (by simp)) ?_ ?_
    case refine_1 =>
     rintro⟨o5,l5⟩ H5 J5 w5 hlt
     simp only at w5
     simp(disch:=first|omega|assumption) only[hcw,hlt,go_sem]
     refine zn (yE [41] _) w5 (by omega) (by omega) (by omega) fun o6 l6 H6 w6 _=>?_
     simp(disch:=first|omega|assumption) only[go_sem]
     refine zn (yN true dirs hwd (by simp only[Lim];omega)) w6 (by omega) (by omega) (by omega) fun oA lA HA wA _=>?_
     simp(disch:=first|omega|assumption) only[go_sem]
     refine zn (yL (Y8 (bSs sels)) sels (Al4 _) hws (by simp only[Lim];omega)) wA (by omega) (by omega) (by omega) fun oB lB HB wB _=>?_
     simp(disch:=first|omega|assumption) only[go_sem]
     exact hQ _ _ HB HB [] nofun rfl (Low.refl _) ⟨rfl,wB.fin (by show _=yG dp _;rw[er];simp[hev,ye]) (fun e=>by rw[et (by have e:yG dp _=true:=e;rw[er] at e;simp only[Al0] at e;exact e.1)];simp[tWs,hv0]) (by simp only[bO];omega)⟩
    case refine_2 =>
     rintro done x rest ⟨o5,l5⟩ H5 J5 hd hlt hlt2 w5 hJ5
     simp only at w5
     have hg:=Zm hd
     have hbm:=zaP done x rest
     rw[← hd] at hbm
     have hwx:=hwv x (by rw[hd];simp)
     obtain⟨vn,⟨tn,tl,tm⟩,vh,vd⟩:=x
     have hwvd:wfV vd:=hwx.2.2
     have hvp:=YY vd
     have hbx:bW ⟨vn,⟨tn,tl,tm⟩,vh,vd⟩=vn.length+tn.length+bV vd:=rfl
     rw[zco] at hg
     simp only at hg
     simp(disch:=first|omega|assumption) only[zq,zl,zg,zp,zm,zh,zu,hcw,hlt,hg,go_sem]
     refine zc fun b hb=>?_
     have hbw:b≠w:=fun e=>by subst e;rw[w5.here.cell] at hb;cases hb
     have w6:=w5.alloc (x:=.cells (.str vn::.str tn::.int .i64 tl::.int .i64 tm::.bool vh::cV vd)) hb
     have hbc:(H5.upd b (.cells (.str vn::.str tn::.int .i64 tl::.int .i64 tm::.bool vh::cV vd))) b=some (.cells (.str vn::.str tn::.int .i64 tl::.int .i64 tm::.bool vh::cV vd)):=upd_same ..
     simp(disch:=first|omega|assumption) only[zq,zl,zg,zp,zm,zh,zu,go_sem]
     refine zn (yE [36] _) w6 (by omega) (by omega) (by omega) fun o7 l7 H7 w7 s7=>?_
     have hb7:=s7.box w6.here.own hbc hbw
     simp(disch:=first|omega|assumption) only[zq,zl,zg,zp,zm,zh,zu,hb7,go_sem]
     refine zn (yt vn (by simp only[Lim];omega)) w7 (by omega) (by omega) (by omega) fun o8 l8 H8 w8 s8=>?_
     have hb8:=s8.box w7.here.own hb7 hbw
     simp(disch:=first|omega|assumption) only[zq,zl,zg,zp,zm,zh,zu,hb8,go_sem]
     refine zn (yE [58] _) w8 (by omega) (by omega) (by omega) fun o9 l9 H9 w9 s9=>?_
     have hb9:=s9.box w8.here.own hb8 hbw
     simp(disch:=first|omega|assumption) only[zq,zl,zg,zp,zm,zh,zu,hb9,go_sem]
     refine zn (args:=[.agg [.str tn,.int .i64 tl,.int .i64 tm]]) (show WC _ [.agg [.str tn,.int .i64 tl,.int .i64 tm]] 20 (-1000) 1000 (fun _=>zI ⟨tn,tl,tm⟩) (tTy ⟨tn,tl,tm⟩) from zeR ⟨tn,tl,tm⟩ (by simp only[Lim];omega)) w9 (by omega) (by omega) (by omega) fun oC lC HC wC sC=>?_
     have hbC:=sC.box w9.here.own hb9 hbw
     simp(disch:=first|omega|assumption) only[zq,zl,zg,zp,zm,zh,zu,hbC,go_sem]
     refine zn (zaS vh vd hwvd (by simp only[Lim];omega)) wC (by omega) (by omega) (by omega) fun oD lD HD wD sD=>?_
     simp(disch:=first|omega|assumption) only[wrap64,go_sem]
     exact goJ (hJ5 (oD,lD) HD (wD.cast (by rw[zaw];omega) (by simp[ZE,ye]) (by simp[tW]))) (by simp(disch:=first|omega|assumption) only[go_sem])
  case neg =>
   simp(disch:=first|omega|assumption) only[hnm,go_sem]
   refine zn (yt nm (by simp only[Lim];omega)) w2 (by omega) (by omega) (by omega) fun o3 l3 H3 w3' _=>?_
   have w3:=(w3'.castC (B':=2) (r':=R3) (tk':=T3) (by omega) (by rw[hR3];simp[hk0,hk1,hnm,nq,nmu]) (fun e=>by first|(rw[hT3];simp[hk0,hk1,hnm];done)|(exfalso;revert e;rw[hR3];simp[hk0,hk1])))
   by_cases hv0:vars.length=0
   case pos =>
    have hv1:¬ ((0:Int)<(vars.length:Int)):=by omega
    have hev:=zfs.1 hv0
    simp(disch:=first|omega|assumption) only[hnm,hcw,hv1,go_sem]
    refine zn (yN true dirs hwd (by simp only[Lim];omega)) w3 (by omega) (by omega) (by omega) fun oA lA HA wA _=>?_
    simp(disch:=first|omega|assumption) only[go_sem]
    refine zn (yL (Y8 (bSs sels)) sels (Al4 _) hws (by simp only[Lim];omega)) wA (by omega) (by omega) (by omega) fun oB lB HB wB _=>?_
    simp(disch:=first|omega|assumption) only[go_sem]
    exact hQ _ _ HB HB [] nofun rfl (Low.refl _) ⟨rfl,wB.fin (by show _=yG dp _;rw[er];simp[hev,ye]) (fun e=>by rw[et (by have e:yG dp _=true:=e;rw[er] at e;simp only[Al0] at e;exact e.1)];simp[tWs,hv0]) (by simp only[bO];omega)⟩
   case neg =>
    have hev:=hv0
    have hv1:((0:Int)<(vars.length:Int))=True:=eq_true (by omega)
    simp(disch:=first|omega|assumption) only[hnm,hcw,hv1,go_sem]
    refine zn (yE [40] _) w3 (by omega) (by omega) (by omega) fun o4 l4 H4 w4 _=>?_
    simp(disch:=first|omega|assumption) only[hcw,go_sem]
    refine zf vars 35 (fun x:Own×List Tok=>[]) (fun done rest x H'=>WR H o w l ok dp (3+32*bWs done) (R3&&done.all (ZE dp)) (T3++(pk [40]::done.flatMap tW)) H' x.1 x.2) (o4,l4) (by simp(disch:=first|omega|assumption) only[go_sem]) (w4.cast (by omega) (by simp) (by simp)) ?_ ?_
    case refine_1 =>
     rintro⟨o5,l5⟩ H5 J5 w5 hlt
     simp only at w5
     simp(disch:=first|omega|assumption) only[hcw,hlt,go_sem]
     refine zn (yE [41] _) w5 (by omega) (by omega) (by omega) fun o6 l6 H6 w6 _=>?_
     simp(disch:=first|omega|assumption) only[go_sem]
     refine zn (yN true dirs hwd (by simp only[Lim];omega)) w6 (by omega) (by omega) (by omega) fun oA lA HA wA _=>?_
     simp(disch:=first|omega|assumption) only[go_sem]
     refine zn (yL (Y8 (bSs sels)) sels (Al4 _) hws (by simp only[Lim];omega)) wA (by omega) (by omega) (by omega) fun oB lB HB wB _=>?_
     simp(disch:=first|omega|assumption) only[go_sem]
     exact hQ _ _ HB HB [] nofun rfl (Low.refl _) ⟨rfl,wB.fin (by show _=yG dp _;rw[er];simp[hev,ye]) (fun e=>by rw[et (by have e:yG dp _=true:=e;rw[er] at e;simp only[Al0] at e;exact e.1)];simp[tWs,hv0]) (by simp only[bO];omega)⟩
    case refine_2 =>
     rintro done x rest ⟨o5,l5⟩ H5 J5 hd hlt hlt2 w5 hJ5
     simp only at w5
     have hg:=Zm hd
     have hbm:=zaP done x rest
     rw[← hd] at hbm
     have hwx:=hwv x (by rw[hd];simp)
     obtain⟨vn,⟨tn,tl,tm⟩,vh,vd⟩:=x
     have hwvd:wfV vd:=hwx.2.2
     have hvp:=YY vd
     have hbx:bW ⟨vn,⟨tn,tl,tm⟩,vh,vd⟩=vn.length+tn.length+bV vd:=rfl
     rw[zco] at hg
     simp only at hg
     simp(disch:=first|omega|assumption) only[zq,zl,zg,zp,zm,zh,zu,hcw,hlt,hg,go_sem]
     refine zc fun b hb=>?_
     have hbw:b≠w:=fun e=>by subst e;rw[w5.here.cell] at hb;cases hb
     have w6:=w5.alloc (x:=.cells (.str vn::.str tn::.int .i64 tl::.int .i64 tm::.bool vh::cV vd)) hb
     have hbc:(H5.upd b (.cells (.str vn::.str tn::.int .i64 tl::.int .i64 tm::.bool vh::cV vd))) b=some (.cells (.str vn::.str tn::.int .i64 tl::.int .i64 tm::.bool vh::cV vd)):=upd_same ..
     simp(disch:=first|omega|assumption) only[zq,zl,zg,zp,zm,zh,zu,go_sem]
     refine zn (yE [36] _) w6 (by omega) (by omega) (by omega) fun o7 l7 H7 w7 s7=>?_
     have hb7:=s7.box w6.here.own hbc hbw
     simp(disch:=first|omega|assumption) only[zq,zl,zg,zp,zm,zh,zu,hb7,go_sem]
     refine zn (yt vn (by simp only[Lim];omega)) w7 (by omega) (by omega) (by omega) fun o8 l8 H8 w8 s8=>?_
     have hb8:=s8.box w7.here.own hb7 hbw
     simp(disch:=first|omega|assumption) only[zq,zl,zg,zp,zm,zh,zu,hb8,go_sem]
     refine zn (yE [58] _) w8 (by omega) (by omega) (by omega) fun o9 l9 H9 w9 s9=>?_
     have hb9:=s9.box w8.here.own hb8 hbw
     simp(disch:=first|omega|assumption) only[zq,zl,zg,zp,zm,zh,zu,hb9,go_sem]
     refine zn (args:=[.agg [.str tn,.int .i64 tl,.int .i64 tm]]) (show WC _ [.agg [.str tn,.int .i64 tl,.int .i64 tm]] 20 (-1000) 1000 (fun _=>zI ⟨tn,tl,tm⟩) (tTy ⟨tn,tl,tm⟩) from zeR ⟨tn,tl,tm⟩ (by simp only[Lim];omega)) w9 (by omega) (by omega) (by omega) fun oC lC HC wC sC=>?_
     have hbC:=sC.box w9.here.own hb9 hbw
     simp(disch:=first|omega|assumption) only[zq,zl,zg,zp,zm,zh,zu,hbC,go_sem]
     refine zn (zaS vh vd hwvd (by simp only[Lim];omega)) wC (by omega) (by omega) (by omega) fun oD lD HD wD sD=>?_
     simp(disch:=first|omega|assumption) only[wrap64,go_sem]
     exact goJ (hJ5 (oD,lD) HD (wD.cast (by rw[zaw];omega) (by simp[ZE,ye]) (by simp[tW]))) (by simp(disch:=first|omega|assumption) only[go_sem])
 ·simp(disch:=first|omega|assumption) only[ir127,eo,hk0,hk1,go_sem]
  refine zn (ZD false) w0 (by omega) (by omega) (by omega) fun o2 l2 H2 w2 _=>?_
  by_cases hnm:nm=[]
  case pos =>
   have w3:=(w2.castC (B':=2) (r':=R3) (tk':=T3) (by omega) (by rw[hR3];simp[hk0,hk1,hnm,nq,nmu]) (fun e=>by first|(rw[hT3];simp[hk0,hk1,hnm];done)|(exfalso;revert e;rw[hR3];simp[hk0,hk1])))
   by_cases hv0:vars.length=0
   case pos =>
    have hv1:¬ ((0:Int)<(vars.length:Int)):=by omega
    have hev:=zfs.1 hv0
    simp(disch:=first|omega|assumption) only[hnm,hcw,hv1,go_sem]
    refine zn (yN true dirs hwd (by simp only[Lim];omega)) w3 (by omega) (by omega) (by omega) fun oA lA HA wA _=>?_
    simp(disch:=first|omega|assumption) only[go_sem]
    refine zn (yL (Y8 (bSs sels)) sels (Al4 _) hws (by simp only[Lim];omega)) wA (by omega) (by omega) (by omega) fun oB lB HB wB _=>?_
    simp(disch:=first|omega|assumption) only[go_sem]
    exact hQ _ _ HB HB [] nofun rfl (Low.refl _) ⟨rfl,wB.fin (by show _=yG dp _;rw[er];simp[hev,ye]) (fun e=>by rw[et (by have e:yG dp _=true:=e;rw[er] at e;simp only[Al0] at e;exact e.1)];simp[tWs,hv0]) (by simp only[bO];omega)⟩
   case neg =>
    have hev:=hv0
    have hv1:((0:Int)<(vars.length:Int))=True:=eq_true (by omega)
    simp(disch:=first|omega|assumption) only[hnm,hcw,hv1,go_sem]
    refine zn (yE [40] _) w3 (by omega) (by omega) (by omega) fun o4 l4 H4 w4 _=>?_
    simp(disch:=first|omega|assumption) only[hcw,go_sem]
    refine zf vars 35 (fun x:Own×List Tok=>[]) (fun done rest x H'=>WR H o w l ok dp (3+32*bWs done) (R3&&done.all (ZE dp)) (T3++(pk [40]::done.flatMap tW)) H' x.1 x.2) (o4,l4) (by simp(disch:=first|omega|assumption) only[go_sem]) (w4.cast (by omega) (by simp) (by simp)) ?_ ?_
    case refine_1 =>
     rintro⟨o5,l5⟩ H5 J5 w5 hlt
     simp only at w5
     simp(disch:=first|omega|assumption) only[hcw,hlt,go_sem]
     refine zn (yE [41] _) w5 (by omega) (by omega) (by omega) fun o6 l6 H6 w6 _=>?_
     simp(disch:=first|omega|assumption) only[go_sem]
     refine zn (yN true dirs hwd (by simp only[Lim];omega)) w6 (by omega) (by omega) (by omega) fun oA lA HA wA _=>?_
     simp(disch:=first|omega|assumption) only[go_sem]
     refine zn (yL (Y8 (bSs sels)) sels (Al4 _) hws (by simp only[Lim];omega)) wA (by omega) (by omega) (by omega) fun oB lB HB wB _=>?_
     simp(disch:=first|omega|assumption) only[go_sem]
     exact hQ _ _ HB HB [] nofun rfl (Low.refl _) ⟨rfl,wB.fin (by show _=yG dp _;rw[er];simp[hev,ye]) (fun e=>by rw[et (by have e:yG dp _=true:=e;rw[er] at e;simp only[Al0] at e;exact e.1)];simp[tWs,hv0]) (by simp only[bO];omega)⟩
    case refine_2 =>
     rintro done x rest ⟨o5,l5⟩ H5 J5 hd hlt hlt2 w5 hJ5
     simp only at w5
     have hg:=Zm hd
     have hbm:=zaP done x rest
     rw[← hd] at hbm
     have hwx:=hwv x (by rw[hd];simp)
     obtain⟨vn,⟨tn,tl,tm⟩,vh,vd⟩:=x
     have hwvd:wfV vd:=hwx.2.2
     have hvp:=YY vd
     have hbx:bW ⟨vn,⟨tn,tl,tm⟩,vh,vd⟩=vn.length+tn.length+bV vd:=rfl
     rw[zco] at hg
     simp only at hg
     simp(disch:=first|omega|assumption) only[zq,zl,zg,zp,zm,zh,zu,hcw,hlt,hg,go_sem]
     refine zc fun b hb=>?_
     have hbw:b≠w:=fun e=>by subst e;rw[w5.here.cell] at hb;cases hb
     have w6:=w5.alloc (x:=.cells (.str vn::.str tn::.int .i64 tl::.int .i64 tm::.bool vh::cV vd)) hb
     have hbc:(H5.upd b (.cells (.str vn::.str tn::.int .i64 tl::.int .i64 tm::.bool vh::cV vd))) b=some (.cells (.str vn::.str tn::.int .i64 tl::.int .i64 tm::.bool vh::cV vd)):=upd_same ..
     simp(disch:=first|omega|assumption) only[zq,zl,zg,zp,zm,zh,zu,go_sem]
     refine zn (yE [36] _) w6 (by omega) (by omega) (by omega) fun o7 l7 H7 w7 s7=>?_
     have hb7:=s7.box w6.here.own hbc hbw
     simp(disch:=first|omega|assumption) only[zq,zl,zg,zp,zm,zh,zu,hb7,go_sem]
     refine zn (yt vn (by simp only[Lim];omega)) w7 (by omega) (by omega) (by omega) fun o8 l8 H8 w8 s8=>?_
     have hb8:=s8.box w7.here.own hb7 hbw
     simp(disch:=first|omega|assumption) only[zq,zl,zg,zp,zm,zh,zu,hb8,go_sem]
     refine zn (yE [58] _) w8 (by omega) (by omega) (by omega) fun o9 l9 H9 w9 s9=>?_
     have hb9:=s9.box w8.here.own hb8 hbw
     simp(disch:=first|omega|assumption) only[zq,zl,zg,zp,zm,zh,zu,hb9,go_sem]
     refine zn (args:=[.agg [.str tn,.int .i64 tl,.int .i64 tm]]) (show WC _ [.agg [.str tn,.int .i64 tl,.int .i64 tm]] 20 (-1000) 1000 (fun _=>zI ⟨tn,tl,tm⟩) (tTy ⟨tn,tl,tm⟩) from zeR ⟨tn,tl,tm⟩ (by simp only[Lim];omega)) w9 (by omega) (by omega) (by omega) fun oC lC HC wC sC=>?_
     have hbC:=sC.box w9.here.own hb9 hbw
     simp(disch:=first|omega|assumption) only[zq,zl,zg,zp,zm,zh,zu,hbC,go_sem]
     refine zn (zaS vh vd hwvd (by simp only[Lim];omega)) wC (by omega) (by omega) (by omega) fun oD lD HD wD sD=>?_
     simp(disch:=first|omega|assumption) only[wrap64,go_sem]
     exact goJ (hJ5 (oD,lD) HD (wD.cast (by rw[zaw];omega) (by simp[ZE,ye]) (by simp[tW]))) (by simp(disch:=first|omega|assumption) only[go_sem])
  case neg =>
   simp(disch:=first|omega|assumption) only[hnm,go_sem]
   refine zn (yt nm (by simp only[Lim];omega)) w2 (by omega) (by omega) (by omega) fun o3 l3 H3 w3' _=>?_
   have w3:=(w3'.castC (B':=2) (r':=R3) (tk':=T3) (by omega) (by rw[hR3];simp[hk0,hk1,hnm,nq,nmu]) (fun e=>by first|(rw[hT3];simp[hk0,hk1,hnm];done)|(exfalso;revert e;rw[hR3];simp[hk0,hk1])))
   by_cases hv0:vars.length=0
   case pos =>
    have hv1:¬ ((0:Int)<(vars.length:Int)):=by omega
    have hev:=zfs.1 hv0
    simp(disch:=first|omega|assumption) only[hnm,hcw,hv1,go_sem]
    refine zn (yN true dirs hwd (by simp only[Lim];omega)) w3 (by omega) (by omega) (by omega) fun oA lA HA wA _=>?_
    simp(disch:=first|omega|assumption) only[go_sem]
    refine zn (yL (Y8 (bSs sels)) sels (Al4 _) hws (by simp only[Lim];omega)) wA (by omega) (by omega) (by omega) fun oB lB HB wB _=>?_
    simp(disch:=first|omega|assumption) only[go_sem]
    exact hQ _ _ HB HB [] nofun rfl (Low.refl _) ⟨rfl,wB.fin (by show _=yG dp _;rw[er];simp[hev,ye]) (fun e=>by rw[et (by have e:yG dp _=true:=e;rw[er] at e;simp only[Al0] at e;exact e.1)];simp[tWs,hv0]) (by simp only[bO];omega)⟩
   case neg =>
    have hev:=hv0
    have hv1:((0:Int)<(vars.length:Int))=True:=eq_true (by omega)
    simp(disch:=first|omega|assumption) only[hnm,hcw,hv1,go_sem]
    refine zn (yE [40] _) w3 (by omega) (by omega) (by omega) fun o4 l4 H4 w4 _=>?_
    simp(disch:=first|omega|assumption) only[hcw,go_sem]
    refine zf vars 35 (fun x:Own×List Tok=>[]) (fun done rest x H'=>WR H o w l ok dp (3+32*bWs done) (R3&&done.all (ZE dp)) (T3++(pk [40]::done.flatMap tW)) H' x.1 x.2) (o4,l4) (by simp(disch:=first|omega|assumption) only[go_sem]) (w4.cast (by omega) (by simp) (by simp)) ?_ ?_
    case refine_1 =>
     rintro⟨o5,l5⟩ H5 J5 w5 hlt
     simp only at w5
     simp(disch:=first|omega|assumption) only[hcw,hlt,go_sem]
     refine zn (yE [41] _) w5 (by omega) (by omega) (by omega) fun o6 l6 H6 w6 _=>?_
     simp(disch:=first|omega|assumption) only[go_sem]
     refine zn (yN true dirs hwd (by simp only[Lim];omega)) w6 (by omega) (by omega) (by omega) fun oA lA HA wA _=>?_
     simp(disch:=first|omega|assumption) only[go_sem]
     refine zn (yL (Y8 (bSs sels)) sels (Al4 _) hws (by simp only[Lim];omega)) wA (by omega) (by omega) (by omega) fun oB lB HB wB _=>?_
     simp(disch:=first|omega|assumption) only[go_sem]
     exact hQ _ _ HB HB [] nofun rfl (Low.refl _) ⟨rfl,wB.fin (by show _=yG dp _;rw[er];simp[hev,ye]) (fun e=>by rw[et (by have e:yG dp _=true:=e;rw[er] at e;simp only[Al0] at e;exact e.1)];simp[tWs,hv0]) (by simp only[bO];omega)⟩
    case refine_2 =>
     rintro done x rest ⟨o5,l5⟩ H5 J5 hd hlt hlt2 w5 hJ5
     simp only at w5
     have hg:=Zm hd
     have hbm:=zaP done x rest
     rw[← hd] at hbm
     have hwx:=hwv x (by rw[hd];simp)
     obtain⟨vn,⟨tn,tl,tm⟩,vh,vd⟩:=x
     have hwvd:wfV vd:=hwx.2.2
     have hvp:=YY vd
     have hbx:bW ⟨vn,⟨tn,tl,tm⟩,vh,vd⟩=vn.length+tn.length+bV vd:=rfl
     rw[zco] at hg
     simp only at hg
     simp(disch:=first|omega|assumption) only[zq,zl,zg,zp,zm,zh,zu,hcw,hlt,hg,go_sem]
     refine zc fun b hb=>?_
     have hbw:b≠w:=fun e=>by subst e;rw[w5.here.cell] at hb;cases hb
     have w6:=w5.alloc (x:=.cells (.str vn::.str tn::.int .i64 tl::.int .i64 tm::.bool vh::cV vd)) hb
     have hbc:(H5.upd b (.cells (.str vn::.str tn::.int .i64 tl::.int .i64 tm::.bool vh::cV vd))) b=some (.cells (.str vn::.str tn::.int .i64 tl::.int .i64 tm::.bool vh::cV vd)):=upd_same ..
     simp(disch:=first|omega|assumption) only[zq,zl,zg,zp,zm,zh,zu,go_sem]
     refine zn (yE [36] _) w6 (by omega) (by omega) (by omega) fun o7 l7 H7 w7 s7=>?_
     have hb7:=s7.box w6.here.own hbc hbw
     simp(disch:=first|omega|assumption) only[zq,zl,zg,zp,zm,zh,zu,hb7,go_sem]
     refine zn (yt vn (by simp only[Lim];omega)) w7 (by omega) (by omega) (by omega) fun o8 l8 H8 w8 s8=>?_
     have hb8:=s8.box w7.here.own hb7 hbw
     simp(disch:=first|omega|assumption) only[zq,zl,zg,zp,zm,zh,zu,hb8,go_sem]
     refine zn (yE [58] _) w8 (by omega) (by omega) (by omega) fun o9 l9 H9 w9 s9=>?_
     have hb9:=s9.box w8.here.own hb8 hbw
     simp(disch:=first|omega|assumption) only[zq,zl,zg,zp,zm,zh,zu,hb9,go_sem]
     refine zn (args:=[.agg [.str tn,.int .i64 tl,.int .i64 tm]]) (show WC _ [.agg [.str tn,.int .i64 tl,.int .i64 tm]] 20 (-1000) 1000 (fun _=>zI ⟨tn,tl,tm⟩) (tTy ⟨tn,tl,tm⟩) from zeR ⟨tn,tl,tm⟩ (by simp only[Lim];omega)) w9 (by omega) (by omega) (by omega) fun oC lC HC wC sC=>?_
     have hbC:=sC.box w9.here.own hb9 hbw
     simp(disch:=first|omega|assumption) only[zq,zl,zg,zp,zm,zh,zu,hbC,go_sem]
     refine zn (zaS vh vd hwvd (by simp only[Lim];omega)) wC (by omega) (by omega) (by omega) fun oD lD HD wD sD=>?_
     simp(disch:=first|omega|assumption) only[wrap64,go_sem]
     exact goJ (hJ5 (oD,lD) HD (wD.cast (by rw[zaw];omega) (by simp[ZE,ye]) (by simp[tW]))) (by simp(disch:=first|omega|assumption) only[go_sem])
section
variable {KP:AV→zb→Prop} {Q:AExit→Env→zb→Prop} {st:List Fr} {ρ:Env} {H:zb} {all items:List AItem} {d:Option Nat} {R:List Chk}
end
theorem yF (l:List (List UInt8)) (x:List UInt8):bT (l++[x])=bT l+(1+x.length):=by simp[bT]
theorem zex (l:List FldD) (x:FldD):bLs (l++[x])=bLs l+bL x:=by simp[bLs]
theorem zpq (m:List UInt8) (l:List (List UInt8)) (x:List UInt8):tNs m (l++[x])=tNs m l++if l.length=0 then [wk x] else [pk m,wk x]:=by
 cases l with
 | nil=>rfl
 | cons a r=>simp[tNs]
theorem zmy (x:OpD):yG 0 x=zgC x:=rfl
theorem zmU (l:List OpD) (o:OpD):bOs (l++[o])=bOs l+bO o:=by simp[bOs]
theorem zmJ (l:List FragD) (o:FragD):bFs (l++[o])=bFs l+bF o:=by simp[bFs]
noncomputable def ziq (d:DocD):List Tok:=if zax d then zt7 d else []
theorem zo5 (d:DocD) (hw:zf2 d) (hb:64*zy d+64≤Lim):zi Tryz.prog 69 [.agg (zX d)] (.tup [.sl .no 2 (cKs (ziq d)),.bool (zax d)]):=by
 refine zi.go ir69 ck69 (Al4 _) fun KP Q hQ=>?_
 obtain⟨ops,frags⟩:=d
 obtain⟨hwo,hwf⟩:=hw
 have hlo:=Zt ops
 have hlf:=yO frags
 have hco:=Z4 ops
 have hcf:=Y2 frags
 have hb':=hb
 simp only[zy,Lim] at hb'
 have ed:zX ⟨ops,frags⟩=[.sl .no 5 (cOs ops),.sl .no 4 (cFs frags)]:=rfl
 obtain⟨n,hn⟩:∃ n,n=decide (0<ops.length+frags.length):=⟨_,rfl⟩
 simp(disch:=first|omega|assumption) only[ir69,ed,go_sem]
 refine zdh zun fun v H1 ⟨w,hv,hW⟩=>?_
 subst hv
 have w0:=WR.refl hW
 have wl:IntKind.wrap .i64 ((ops.length:Int)+(frags.length:Int))=((ops.length+frags.length:Nat):Int):=by rw[wrap64 (by omega) (by omega)];omega
 by_cases hn0:0<ops.length+frags.length
 case' pos =>
  have hn1:((0:Int)<((ops.length+frags.length:Nat):Int))=True:=eq_true (by omega)
  have hnv:n=true:=by rw[hn];exact decide_eq_true hn0
  simp(disch:=first|omega|assumption) only[hco,hcf,wl,hn1,go_sem]
 case' neg =>
  have hn1:¬ ((0:Int)<((ops.length+frags.length:Nat):Int)):=by omega
  have hnv:n=false:=by rw[hn];exact decide_eq_false hn0
  simp(disch:=first|omega|assumption) only[hco,hcf,wl,hn1,go_sem]
 all_goals
  refine zn (ZD _) w0 (by omega) (by omega) (by simp only[Lim,Al3];omega) fun o2 l2 H2 w2 _=>?_
  simp(disch:=first|omega|assumption) only[hco,go_sem]
  refine zf ops 23 (fun x:Own×List Tok=>[]) (fun done rest x H'=>WR H1 .nil w [] true 0 (64*bOs done) (n&&done.all zgC) (done.flatMap tO) H' x.1 x.2) (o2,l2) (by simp(disch:=first|omega|assumption) only[go_sem]) (w2.cast (by simp) (by simp[hnv]) (by simp)) ?_ ?_
  ·rintro⟨o3,l3⟩ H3 J3 w3 hlt
   simp only at w3
   simp(disch:=first|omega|assumption) only[hco,hlt,hcf,go_sem]
   refine zf frags 34 (fun x:Own×List Tok=>[]) (fun done rest x H'=>WR H1 .nil w [] true 0 (64*bOs ops+32*bFs done) (n&&(ops.all zgC&&done.all zih)) (ops.flatMap tO++done.flatMap tF) H' x.1 x.2) (o3,l3) (by simp(disch:=first|omega|assumption) only[go_sem]) (w3.cast (by simp[bFs]) (by simp) (by simp)) ?_ ?_
   ·rintro⟨o4,l4⟩ H4 J4 w4 hlt4
    simp only at w4
    have er:zax ⟨ops,frags⟩=(n&&(ops.all zgC&&frags.all zih)):=by rw[hn];rfl
    have hc4:=w4.here.cell
    have e4:=w4.eq
    rw[← er,Bool.true_and] at hc4 e4
    cases hr:zax ⟨ops,frags⟩ with
    | false =>
     rw[hr] at hc4 hQ
     simp(disch:=first|omega|assumption) only[hcf,hlt4,hc4,go_sem]
     exact hQ _ _ _ _ nofun rfl (by simp[zd,ze,AV.strip,AV.strip1,ziq,hr,cKs])
    | true =>
     rw[hr] at hc4 hQ
     have e5:=e4 hr
     rw[zdC] at e5
     subst e5
     simp(disch:=first|omega|assumption) only[hcf,hlt4,hc4,go_sem]
     exact hQ _ _ _ _ nofun rfl (by simp[zd,ze,AV.strip,AV.strip1,ziq,hr,zt7])
   ·rintro done x rest ⟨o4,l4⟩ H4 J4 hd hlt4 hlt5 w4 hJ4
    simp only at w4
    have hg:=YX hd
    have hbm:=zie done x rest
    rw[← hd] at hbm
    have hwx:=hwf x (by rw[hd];simp)
    have hbx:32*bF x≤Lim:=by simp only[Lim];omega
    have hfw:=zr5 x hwx hbx
    obtain⟨nm,on,dirs,sels⟩:=x
    have ef:cF ⟨nm,on,dirs,sels⟩=[.str nm,.str on,.sl .no 2 (cDs dirs),.sl .no 7 (cSs sels)]:=rfl
    rw[ef] at hg hfw
    simp(disch:=first|omega|assumption) only[hcf,hlt4,hg,go_sem]
    refine zc fun b hb=>?_
    have w5:=w4.alloc (x:=.cells [.str nm,.str on,.sl .no 2 (cDs dirs),.sl .no 7 (cSs sels)]) hb
    simp(disch:=first|omega|assumption) only[go_sem]
    refine zn hfw w5 (by omega) (by omega) (by simp only[Lim,Al3];omega) fun o6 l6 H6 w6 _=>?_
    simp(disch:=first|omega|assumption) only[wrap64,go_sem]
    exact goJ (hJ4 (o6,l6) H6 (w6.cast (by rw[zmJ];omega) (by simp[zih,ye]) (by simp))) (by simp(disch:=first|omega|assumption) only[go_sem])
  ·rintro done x rest ⟨o4,l4⟩ H4 J4 hd hlt4 hlt5 w4 hJ4
   simp only at w4
   have hg:=Ym hd
   have hbm:=Y1 done x rest
   rw[← hd] at hbm
   have hwx:=hwo x (by rw[hd];simp)
   have hbx:64*bO x≤Lim:=by simp only[Lim];omega
   have hfw:=zuO x hwx hbx
   have hrO:=zmy x
   obtain⟨k,nm,vars,dirs,sels⟩:=x
   have ef:cO ⟨k,nm,vars,dirs,sels⟩=[.int .i64 k,.str nm,.sl .no 10 (cWs vars),.sl .no 2 (cDs dirs),.sl .no 7 (cSs sels)]:=rfl
   rw[ef] at hg hfw
   simp(disch:=first|omega|assumption) only[hco,hlt4,hg,go_sem]
   refine zc fun b hb=>?_
   have w5:=w4.alloc (x:=.cells [.int .i64 k,.str nm,.sl .no 10 (cWs vars),.sl .no 2 (cDs dirs),.sl .no 7 (cSs sels)]) hb
   simp(disch:=first|omega|assumption) only[go_sem]
   refine zn hfw w5 (by omega) (by omega) (by simp only[Lim,Al3];omega) fun o6 l6 H6 w6 _=>?_
   simp(disch:=first|omega|assumption) only[wrap64,go_sem]
   exact goJ (hJ4 (o6,l6) H6 (w6.cast (by rw[zmU];omega) (by rw[hrO];simp[ye]) (by simp))) (by simp(disch:=first|omega|assumption) only[go_sem])
theorem zqs (d:DocD) (hw:zf2 d) (hb:64*zy d+64≤Lim):zi Tryz.prog 25 [.agg (zX d)] (.bool (zax d)):=by
 refine zi.go ir25 ck25 (Al4 _) fun KP Q hQ=>?_
 have ed:zX d=[.sl .no 5 (cOs d.ops),.sl .no 4 (cFs d.frags)]:=rfl
 have hT:=zo5 d hw hb
 rw[ed] at hT ⊢
 simp(disch:=first|omega|assumption) only[ir25,go_sem]
 refine za hT ?_
 simp(disch:=first|omega|assumption) only[go_sem]
 exact hQ _ _ _ _ nofun rfl (by simp[zd,ze,AV.strip,AV.strip1])
theorem zeD (a b:List Tok):wT (a++b)=wT a+wT b:=by simp[wT]
theorem ztU (s:List UInt8):wK (pk s)=s.length+4:=rfl
theorem zuq (s:List UInt8):wK (wk s)=s.length+4:=rfl
theorem zgk:wT []=0:=rfl
mutual
theorem zpi:∀ v,wfV v→wT (Yg v)+16≤64*bV v
 | .mk k n s l m,⟨hn,hl,hm⟩=>by
  have h1:=zo6 l hl
  have h2:=zoU m hm
  have h3:(Lib.itoa n).length≤21:=by
   have e:∀ u:Nat,u<18446744073709551616→(Lib.decDigits u).length≤20:=fun u hu=>by
    rw[Lib.decDigits_length];exact Lib.nDigits_le20 u hu
   unfold Lib.itoa;split
   ·have:=e n.natAbs (by have:=hn.1;omega)
    simp;omega
   ·have:=e n.toNat (by have:=hn.2;omega)
    omega
  have h4:(boolT (decide (n=1))).length≤5:=by unfold boolT;split<;>simp
  simp only[Yg,bV]
  repeat' split
  all_goals simp only[zfM,zeD,zgk,wK,Al2,Al3]
  all_goals omega
theorem zo6:∀ l,zkQ l→wT (zbH l)≤64*bVs l
 | [],_=>by simp[zbH,wT]
 | v::r,⟨h,hr⟩=>by
  have h1:=zpi v h
  have h2:=zo6 r hr
  simp only[zbH,bVs,zeD];omega
theorem zud:∀ x,wfM x→wT (zjA x)≤64*bM x
 | .mk s v,h=>by
  have h1:=zpi v h
  simp only[zjA,bM,zfM,wK,Al2,Al3];omega
theorem zoU:∀ l,zfB l→wT (Z9 l)≤64*bMs l
 | [],_=>by simp[Z9,wT]
 | v::r,⟨h,hr⟩=>by
  have h1:=zud v h
  have h2:=zoU r hr
  simp only[Z9,bMs,zeD];omega
end
theorem zq8:zR [116,121,112,101]=true:=by decide
theorem zql:zR [105,110,116,101,114,102,97,99,101]=true:=by decide
theorem zgS:zR [117,110,105,111,110]=true:=by decide
theorem ziH:zR [101,110,117,109]=true:=by decide
theorem zgH:zR [105,110,112,117,116]=true:=by decide
theorem zc8:zR [105,109,112,108,101,109,101,110,116,115]=true:=by decide
theorem zht:zR [115,99,104,101,109,97]=true:=by decide
theorem zi1:zR [113,117,101,114,121]=true:=by decide
theorem zpg:zR [109,117,116,97,116,105,111,110]=true:=by decide
noncomputable def YZ (x:DefD):Bool:=zR x.nm&&(x.faces.all zR&&(x.flds.all zeH&&(decide (x.flds.length≠0)&&(decide (x.parts.length=0)&&decide (x.ps.length=0)))))
def zil (w:List UInt8) (x:DefD):List Tok:=wk w::wk x.nm::((if x.faces.length=0 then [] else wk [105,109,112,108,101,109,101,110,116,115]::tNs [38] x.faces)++(pk [123]::(x.flds.flatMap tL++[pk [125]])))
noncomputable def zah (x:DefD):Bool:=decide (x.parts.length≠0)&&(decide (x.faces.length=0)&&(decide (x.flds.length=0)&&decide (x.ps.length=0)))
noncomputable def YK (x:DefD):Bool:=zR x.nm&&(if x.k=3 then x.parts.all zR&&zah x else (x.parts.all zR&&x.parts.all Yv)&&zah x)
def zh9 (x:DefD):List Tok:=if x.k=3 then wk [117,110,105,111,110]::wk x.nm::pk [61]::tNs [124] x.parts else wk [101,110,117,109]::wk x.nm::pk [123]::(x.parts.map wk++[pk [125]])
theorem zhZ {α:Type} (p q:α→Bool) (l:List α):(l.all fun x=>q x&&p x)=(l.all p&&l.all q):=by
 induction l with
 | nil=>rfl
 | cons a r ih=>simp only[List.all_cons,ih];cases p a<;>cases q a<;>simp
theorem zc1 (l:List DefD) (x:DefD):bEs (l++[x])=bEs l+bE x:=by simp[bEs]
end Go.Proofs.YtbcocdloklbkjaaGreatDoor
