import Derived.Test.YtbcocdloklbkjaaGreatDoorM1
import Derived.Test.YtbcocdloklbkjaaGreatDoorM2
import Derived.Test.YtbcocdloklbkjaaGreatDoorM3
import Derived.Test.YtbcocdloklbkjaaGreatDoorM4
import Derived.Test.YtbcocdloklbkjaaGreatDoorM5
import Derived.Test.YtbcocdloklbkjaaGreatDoorM6
set_option maxRecDepth 100000
set_option linter.all false
namespace Go.Proofs.YtbcocdloklbkjaaGreatDoor
open Go.Ab
theorem zk0 {H H':zc} {o:Own} {n sz:Nat} (h:zY H o n sz) (hk:Kept H .nil H'):zY H' o n sz:=by
 cases o with
 | no=>exact h
 | nil=>exact h
 | full=>exact h
 | tip b d=>exact hk b _ h fun d' e=>by cases e
def Yq (s:SchD) (l:List (List UInt8)) (p:VarD):List (List UInt8):=if p.t.lists=0∧isM p.t=true∧y8 s p.t.nm [5]=true∧zQ p.t.nm l=false then l++[p.t.nm] else l
def zbK (s:SchD) (n:List UInt8):List (List UInt8):=((yN s n).getD zE).ps.foldl (Yq s) []
theorem zkP (s:SchD) (l:List (List UInt8)) (p:VarD):(Yq s l p).length≤l.length+1:=by unfold Yq;split<;>simp
theorem ztD (s:SchD) (n:List UInt8) (H:zc) (hs:zJ s≤Lim):Y8 Tryz.prog 219 [.agg (zq s),.str n] H .nil 1 (cT (zbK s n)):=by
 have hl:=yc hs
 have h1:=zeD s n hl
 have hle:=@Ym s n
 have hkind:=fun p=>zcx s p [5] hl (by decide)
 have hbs:zJ s≤1099511627776:=by simpa only[Lim] using hs
 have hps:∀ x,(yN s n).getD zE=x→bWs x.ps≤zJ s:=by
  intro x hx
  cases h:yN s n with
  | none=>rw[h] at hx;subst hx;simp[zE,bWs]
  | some y=>rw[h] at hx;subst hx;exact(hle h).2.2.2
 have e0:zbK s n=((yN s n).getD zE).ps.foldl (Yq s) []:=rfl
 generalize zbK s n=F at *
 generalize (yN s n).isSome=fs at *
 generalize (yN s n).getD zE=x at *
 replace hps:=hps x rfl
 obtain⟨xk,xn,xfs,xfl,xps,xpa⟩:=x
 simp only at hps e0
 have hpl:=yS xpa
 have l1:=Zr xpa
 obtain⟨sd,sq,sm⟩:=s
 generalize hS:(⟨sd,sq,sm⟩:SchD)=s at *
 have hcs:zq s=[.sl .no 6 (cEs sd),.str sq,.str sm]:=by rw[← hS];rfl
 simp only[hcs,ye,List.map,cI] at h1 hkind ⊢
 refine zj.goO ir219 ck219 (Al4 _) fun KP Q hQ hP=>?_
 simp(disch:=omega) only[ir219,go_sem]
 refine za h1 ?_
 simp(disch:=omega) only[go_sem]
 refine zb fun b5 hb5=>?_
 simp(disch:=omega) only[l1,go_sem]
 refine zf xpa 19 (fun x:Own×List (List UInt8)=>[(7,.sl x.1 1 (cT x.2))]) (fun done rest x H'=>rest.foldl (Yq s) x.2=xpa.foldl (Yq s) []∧x.2.length+rest.length≤xpa.length∧OwnS H .nil H' x.1 x.2.length 1) (.nil,[]) (by simp(disch:=omega) only[cT,List.map,go_sem]) ⟨rfl,by simp,(OwnS.refl (o:=.nil) (n:=0) rfl).upd hb5⟩ ?_ ?_
 ·rintro⟨o1,a⟩ H' J ⟨hn,_,hs2⟩ hlt
  simp only[List.foldl] at hn
  simp(disch:=omega) only[l1,hlt,go_sem]
  refine hQ _ _ H' H' [.sl o1 1 (cT a)] nofun (by simp(disch:=omega) only[ir219,zN,Zv,go_sem]) (Low.refl _) ⟨o1,by rw[e0,← hn];rfl,by rw[e0,← hn,zK];exact hs2⟩
 ·rintro done p rest ⟨o1,a⟩ H' J hd hlt _ ⟨hn,hle3,hs2⟩ hJ
  have hgt:=Zm hd
  have hpb:=@Ys p xpa (by rw[hd];simp)
  simp only[bW] at hpb
  replace hs2:OwnS H .nil H' o1 a.length 1:=hs2
  simp only[List.foldl,Al2] at hn hle3
  have hI:=isC p.t (by simp only[Lim];omega)
  have hK:=hkind p.t.nm
  have hC:=yR a p.t.nm (by simp only[Lim];omega)
  have hst:=zkP s a p
  have hne0:Yq s a p=if p.t.lists=0∧isM p.t=true∧y8 s p.t.nm [5]=true∧zQ p.t.nm a=false then a++[p.t.nm] else a:=rfl
  obtain⟨nm,⟨t1,t2,t3⟩,hh,⟨xk,xq,xs,xl,xm⟩⟩:=p
  rw[z8] at hgt
  simp only at hI hK hC hne0
  simp only[cTy] at hI
  generalize isM ⟨t1,t2,t3⟩=y1 at *
  generalize y8 s t1 [5]=y2 at *
  have h3:=zK a
  simp(disch:=omega) only[l1,hlt,hgt,go_sem]
  refine zb fun b9 hb9=>?_
  have hsu:=hs2.upd (x:=.cells (cW ⟨nm,⟨t1,t2,t3⟩,hh,.mk xk xq xs xl xm⟩)) hb9
  rw[z8] at hsu
  by_cases h0:t2=0
  case neg =>
   rw[if_neg (fun h=>h0 h.1)] at hne0
   rw[hne0] at hn hst
   simp(disch:=omega) only[h0,go_sem]
   exact goJ (hJ (o1,a) _ ⟨hn,by simp only;omega,hsu⟩) (by simp(disch:=omega) only[wrap64,go_sem])
  subst h0
  simp(disch:=omega) only[go_sem]
  refine za hI ?_
  cases y1 with
  | false =>
   rw[if_neg (by simp)] at hne0
   rw[hne0] at hn hst
   simp(disch:=omega) only[go_sem]
   exact goJ (hJ (o1,a) _ ⟨hn,by simp only;omega,hsu⟩) (by simp(disch:=omega) only[wrap64,go_sem])
  | true =>
  simp(disch:=omega) only[go_sem]
  refine za (zg.low hK) ?_
  cases y2 with
  | false =>
   rw[if_neg (by simp)] at hne0
   rw[hne0] at hn hst
   simp(disch:=omega) only[go_sem]
   exact goJ (hJ (o1,a) _ ⟨hn,by simp only;omega,hsu⟩) (by simp(disch:=omega) only[wrap64,go_sem])
  | true =>
  simp(disch:=omega) only[go_sem]
  refine za (zg.low hC) ?_
  cases hh2:zQ t1 a with
  | true =>
   rw[if_neg (by simp[hh2])] at hne0
   rw[hne0] at hn hst
   simp(disch:=omega) only[go_sem]
   exact goJ (hJ (o1,a) _ ⟨hn,by simp only;omega,hsu⟩) (by simp(disch:=omega) only[wrap64,go_sem])
  | false =>
   rw[if_pos ⟨rfl,rfl,rfl,hh2⟩] at hne0
   rw[hne0] at hn hst
   simp(disch:=omega) only[go_sem]
   refine zu (by rw[h3];exact hsu.own) ?_ ?_ fun o' H2 hs3=>?_
   ·simp only[h3,Al2,Al3];omega
   ·simp only[h3,Al2,Al3,maxLen];omega
   have e1:cT a++[[AV.str t1]]=cT (a++[t1]):=by simp[cT]
   have hs4:=hsu.trans hs3
   simp only[h3,Al2,Al3] at hs4
   simp(disch:=omega) only[wrap64,e1,go_sem]
   exact goJ (hJ (o',a++[t1]) H2 ⟨hn,by simp only[Al5,Al2,Al3];omega,by simpa using hs4⟩) (by simp(disch:=omega) only[go_sem])
def OkL (s:SchD) (l:List (List UInt8)):Prop:=l.Nodup∧∀ x∈l,x∈s.defs.map (·.nm)
theorem zm5 {s:SchD} {n:List UInt8} (h:y8 s n [5]=true):n∈s.defs.map (·.nm):=by
 unfold y8 at h
 cases hf:yN s n with
 | none=>rw[hf] at h;cases h
 | some d =>
  rw[hf] at h
  have hk:d.k=5:=by simpa[znW] using h
  unfold yN at hf
  split at hf
  ·cases hf;simp[scE] at hk
  ·have h1:=List.mem_of_find?_eq_some hf
   have h2:=List.find?_some hf
   simp only[nmE,yX] at h2
   exact List.mem_map.2 ⟨d,h1,h2⟩
theorem zmW {s:SchD} {l:List (List UInt8)} {x:List UInt8} (h:OkL s l) (hx:zQ x l=false) (hm:x∈s.defs.map (·.nm)):OkL s (l++[x]):=by
 have hx':x ∉ l:=fun h=>by rw[(ZD x l).2 h] at hx;cases hx
 refine⟨List.nodup_append.2 ⟨h.1,by simp,fun a ha b hb e=>?_⟩,fun y hy=>?_⟩
 ·simp only[List.mem_singleton] at hb
  subst hb;subst e;exact hx' ha
 ·rcases List.mem_append.1 hy with h1|h1
  ·exact h.2 y h1
  ·simp only[List.mem_singleton] at h1
   subst h1;exact hm
theorem zjj {s:SchD} {l:List (List UInt8)} (p:VarD) (h:OkL s l):OkL s (Yq s l p):=by
 unfold Yq
 split
 ·rename_i hc;exact zmW h hc.2.2.2 (zm5 hc.2.2.1)
 ·exact h
theorem zfE {s:SchD}:∀(ps:List VarD) {l:List (List UInt8)},OkL s l→OkL s (ps.foldl (Yq s) l)
 | [],_,h=>h
 | p::ps,_,h=>zfE ps (zjj p h)
theorem znp (s:SchD) (n:List UInt8):OkL s (zbK s n):=zfE _ ⟨List.nodup_nil,by simp⟩
theorem zqE {s:SchD} {l:List (List UInt8)} {x:List UInt8} (h:OkL s l) (hm:x∈s.defs.map (·.nm)):OkL s (zbH l x):=by
 unfold zbH
 split
 ·exact h
 ·rename_i hc;exact zmW h (by simpa using hc) hm
theorem ziL {s:SchD} {l:List (List UInt8)} (h:OkL s l):l.length≤s.defs.length:=by
 have:=List.Nodup.length_le_of_subset h.1 (fun x hx=>h.2 x hx)
 simpa using this
def zh8 (s:SchD) (n:List UInt8):Nat→List (List UInt8)→Nat→Bool
 | 0,_,_=>false
 | k+1,l,i=>match l[i]? with
  | none=>false
  | some x=>if x=n then true else zh8 s n k ((zbK s x).foldl zbH l) (i+1)
def zjG (s:SchD) (n:List UInt8):Bool:=zh8 s n (s.defs.length+1) (zbK s n) 0
theorem zsL (s:SchD) (n:List UInt8) (hs:zJ s≤Lim):zg Tryz.prog 183 [.agg (zq s),.str n] (.bool (zjG s n)):=by
 have hl:=yc hs
 have hbs:zJ s≤1099511627776:=by simpa only[Lim] using hs
 have hds:s.defs.length≤1099511627776:=by simpa only[Lim] using hl
 have hN:=fun x H=>ztD s x H hs
 have hok:=znp s
 have e0:zjG s n=zh8 s n (s.defs.length+1) (zbK s n) 0:=rfl
 generalize zjG s n=F at *
 obtain⟨sd,sq,sm⟩:=s
 generalize hS:(⟨sd,sq,sm⟩:SchD)=s at *
 have hcs:zq s=[.sl .no 6 (cEs sd),.str sq,.str sm]:=by rw[← hS];rfl
 simp only[hcs] at hN ⊢
 refine zg.go ir183 ck183 (Al4 _) fun KP Q hQ=>?_
 have fin:∀ r,F=r→∀ ρ H,zN ρ H ir183.res=some [.bool r]→Q .ret ρ H:=fun r e ρ H h1=>hQ _ ρ H _ nofun h1 (by rw[e];rfl)
 simp(disch:=omega) only[ir183,go_sem]
 refine zB (hN n _) fun o0 H0 hs0=>?_
 rw[zK] at hs0
 simp(disch:=omega) only[go_sem]
 refine zbF (fun x:Own×List (List UInt8)×Nat=>[(5,.sl x.1 1 (cT x.2.1)),(6,.int .i64 x.2.2)]) (fun x H'=>zY H' x.1 x.2.1.length 1∧OkL s x.2.1∧x.2.2≤s.defs.length∧zh8 s n (s.defs.length+1-x.2.2) x.2.1 x.2.2=F) (fun x=>s.defs.length+1-x.2.2) (o0,zbK s n,0) (by simp(disch:=omega) only[go_sem]) ⟨hs0.own,hok n,Nat.zero_le _,e0.symm⟩ ?_
 rintro⟨o,l,i⟩ H1 J ⟨ho,hk,hi,hr⟩ hJ
 replace ho:zY H1 o l.length 1:=ho
 simp only at hk hi hr
 have hlen:=ziL hk
 have l1:=zK l
 have ek:s.defs.length+1-i=(s.defs.length-i)+1:=by omega
 rw[ek] at hr
 by_cases hil:i<l.length
 case neg =>
  have hg:l[i]?=none:=List.getElem?_eq_none (by omega)
  have hlt:¬ ((i:Int)<l.length):=by omega
  simp only[zh8,hg] at hr
  simp(disch:=omega) only[l1,hlt,go_sem]
  exact fin false hr.symm _ _ rfl
 obtain⟨a,x,r,hlx,hai⟩:∃ a x r,l=a++x::r∧a.length=i:=⟨l.take i,l[i],l.drop (i+1),by rw[List.getElem_cons_drop,List.take_append_drop],by rw[List.length_take];omega⟩
 subst hai
 have hgx:l[a.length]?=some x:=by rw[hlx];simp
 have hgt:(cT l).getD a.length []=[.str x]:=ZZ hlx
 have hlt:(a.length:Int)<l.length:=by omega
 simp only[zh8,hgx] at hr
 by_cases hx:x=n
 ·rw[if_pos hx] at hr
  have hx':=eq_true hx
  simp(disch:=omega) only[l1,hlt,hgt,hx',go_sem]
  exact fin true hr.symm _ _ rfl
 rw[if_neg hx] at hr
 simp(disch:=omega) only[l1,hlt,hgt,hx,go_sem]
 refine zB (hN x _) fun o2 H2 hs2=>?_
 have l3:=zK (zbK s x)
 rw[l3] at hs2
 have ho2:=zk0 ho hs2.kept
 have hxs:=(hok x).2
 have hxl:=ziL (hok x)
 generalize zbK s x=xs at *
 simp(disch:=omega) only[l3,go_sem]
 refine zf xs 31 (fun y:Own×List (List UInt8)=>[(5,.sl y.1 1 (cT y.2))]) (fun done rest y H'=>zY H' y.1 y.2.length 1∧OkL s y.2∧rest.foldl zbH y.2=xs.foldl zbH l) (o,l) (by simp(disch:=omega) only[go_sem]) ⟨ho2,hk,rfl⟩ ?_ ?_
 ·rintro⟨o3,l3'⟩ H3 J2 ⟨h31,h32,h33⟩ hlt3
  simp only[List.foldl] at h33
  rw[← h33] at hr
  simp only at h32
  simp(disch:=omega) only[l3,hlt3,go_sem]
  exact goJ (hJ (o3,l3',a.length+1) H3 (by simp only;omega) ⟨h31,h32,by simp only;omega,by simp only;rw[← hr];congr 1;omega⟩) (by simp(disch:=omega) only[wrap64,go_sem];simp)
 ·rintro done y rest ⟨o3,l3'⟩ H3 J2 hd hlt3 _ ⟨h31,h32,h33⟩ hJ2
  have hgy:=ZZ hd
  have hym:=hxs y (by rw[hd];simp)
  replace h31:zY H3 o3 l3'.length 1:=h31
  simp only[List.foldl] at h32 h33
  have hl3:=ziL h32
  have l4:=zK l3'
  have hA:=zqE h32 hym
  have ha0:zbH l3' y=if zQ y l3'=true then l3' else l3'++[y]:=rfl
  simp(disch:=omega) only[l3,hlt3,hgy,go_sem]
  refine za (zg.low (yR l3' y (by simp only[Lim];omega))) ?_
  cases hh:zQ y l3' with
  | true =>
   rw[if_pos hh] at ha0
   rw[ha0] at h33 hA
   simp(disch:=omega) only[go_sem]
   exact goJ (hJ2 (o3,l3') H3 ⟨h31,hA,h33⟩) (by simp(disch:=omega) only[wrap64,go_sem])
  | false =>
   rw[if_neg (by simp[hh])] at ha0
   rw[ha0] at h33 hA
   simp(disch:=omega) only[go_sem]
   refine zu (by rw[l4];exact h31) ?_ ?_ fun o' H4 hs4=>?_
   ·simp only[l4,Al2,Al3];omega
   ·simp only[l4,Al2,Al3,maxLen];omega
   have e1:cT l3'++[[AV.str y]]=cT (l3'++[y]):=by simp[cT]
   have hs5:=hs4.own
   simp only[l4,Al2,Al3] at hs5
   simp(disch:=omega) only[wrap64,e1,go_sem]
   exact goJ (hJ2 (o',l3'++[y]) H4 ⟨by simpa using hs5,hA,h33⟩) (by simp(disch:=omega) only[go_sem])
def zkm (s:SchD) (d:DefD):Bool:=!decide (d.k=5)||!zjG s d.nm
theorem ztr (s:SchD) (d:DefD) (hs:zJ s≤Lim):zg Tryz.prog 182 [.agg (cE d),.view (zq s)] (.bool (zkm s d)):=by
 have h1:=zsL s d.nm hs
 unfold zkm
 generalize zjG s d.nm=x1 at *
 obtain⟨k,nm,fs,fl,ps,pa⟩:=d
 obtain⟨sd,sq,sm⟩:=s
 simp only[zq,ye] at h1 ⊢
 refine zg.go ir182 ck182 (Al4 _) fun KP Q hQ=>?_
 by_cases hk:k=5
 ·subst hk
  simp(disch:=omega) only[ir182,go_sem]
  refine za h1 ?_
  simp(disch:=omega) only[go_sem]
  exact hQ _ _ _ _ nofun rfl (by simp[zd,ze,AV.strip,AV.strip1])
 ·simp(disch:=omega) only[ir182,hk,go_sem]
  exact hQ _ _ _ _ nofun rfl (by simp[zd,ze,AV.strip,AV.strip1,hk])
def zl9 (s:SchD):Bool:=s.defs.all (zkm s)
theorem zuW (s:SchD) (hb:zJ s≤Lim):zg Tryz.prog 123 [.agg (zq s)] (.bool (zl9 s)):=by
 have hl:=yc hb
 have hx:=fun H=>zd8 s 182 [.view (zq s)] (zkm s) H hl (by kernel_rfl) fun d _=>zqS (ztr s d hb) H
 rw[zl9]
 generalize s.defs.all (zkm s)=x1 at *
 obtain⟨sd,sq,sm⟩:=s
 simp only[zq] at hx ⊢
 refine zg.go ir123 ck123 (Al4 _) fun KP Q hQ=>?_
 simp(disch:=omega) only[ir123,go_sem]
 refine z7 (hx _) ?_
 rintro _ _ ⟨_,rfl,rfl,rfl⟩
 simp(disch:=omega) only[ZP,go_sem]
 exact hQ _ _ _ _ nofun rfl rfl
mutual
def zcN:SelD→List (List UInt8)→List (List UInt8)
 | .mk k al nm args dirs on sels,l=>yK sels (if k=1∧zQ nm l=false then l++[nm] else l)
def yK:List SelD→List (List UInt8)→List (List UInt8)
 | [],l=>l
 | x::r,l=>yK r (zcN x l)
end
mutual
theorem zmH:∀(x:SelD) (l:List (List UInt8)),(zcN x l).length≤l.length+bS x
 | .mk k al nm args dirs on sels,l=>by
  have:=zec sels (if k=1∧zQ nm l=false then l++[nm] else l)
  have h2:(if k=1∧zQ nm l=false then l++[nm] else l).length≤l.length+1:=by split<;>simp
  simp only[zcN,bS];omega
theorem zec:∀(x:List SelD) (l:List (List UInt8)),(yK x l).length≤l.length+bSs x
 | [],l=>by simp[yK]
 | x::r,l=>by have:=zmH x l;have:=zec r (zcN x l);simp only[yK,bSs];omega
end
def zqP (sels:List SelD):Prop:=∀(l:List (List UInt8)) (o:Own) (H:zc),l.length+bSs sels≤Lim→zY H o l.length 1→Y8 Tryz.prog 71 [.sl o 1 (cT l),.sl .no 7 (cSs sels)] H o 1 (cT (yK sels l))
theorem zmN (sels:List SelD) (ih:∀ k al nm args dirs on xs,SelD.mk k al nm args dirs on xs∈sels→zqP xs):zqP sels:=by
 intro l o H hb ho
 have hb':l.length+bSs sels≤1099511627776:=by simpa only[Lim] using hb
 have h1:=YS sels
 have hsl:=YT sels
 refine zj.goO ir71 ck71 (Al4 _) fun KP Q hQ hP=>?_
 simp(disch:=omega) only[ir71,h1,go_sem]
 refine zf sels 9 (fun x:Own×List (List UInt8)=>[(0,.sl x.1 1 (cT x.2))]) (fun done rest x H'=>yK rest x.2=yK sels l∧x.2.length+bSs rest≤l.length+bSs sels∧OwnS H o H' x.1 x.2.length 1) (o,l) (by simp(disch:=omega) only[go_sem]) ⟨rfl,Al4 _,OwnS.refl ho⟩ ?_ ?_
 ·rintro⟨o1,a⟩ H' J ⟨hn,_,hs2⟩ hlt
  simp only[yK] at hn
  simp(disch:=omega) only[h1,hlt,go_sem]
  refine hQ _ _ H' H' [.sl o1 1 (cT a)] nofun (by simp(disch:=omega) only[ir71,zN,Zv,go_sem]) (Low.refl _) ⟨o1,by rw[← hn];rfl,by rw[← hn,zK];exact hs2⟩
 ·rintro done x rest ⟨o1,a⟩ H' J hd hlt _ ⟨hn,hle,hs2⟩ hJ
  have hg:=zao hd
  have hmem:x∈sels:=by rw[hd];simp
  have hx:=zmH x a
  simp only[yK,bSs] at hn hle
  replace hs2:OwnS H o H' o1 a.length 1:=hs2
  obtain⟨k,al,nm,args,dirs,on,xs⟩:=x
  have hxs:=ih _ _ _ _ _ _ _ hmem
  have e0:zcN (.mk k al nm args dirs on xs) a=yK xs (if k=1∧zQ nm a=false then a++[nm] else a):=by simp only[zcN]
  have hbx:bSs xs+1≤bS (.mk k al nm args dirs on xs):=by simp only[bS];omega
  rw[Zb] at hg
  have l1:=zK a
  have tail:∀(o2:Own) (a2:List (List UInt8)) (H2:zc),zcN (.mk k al nm args dirs on xs) a=yK xs a2→a2.length≤a.length+1→OwnS H o H2 o2 a2.length 1→Y8 Tryz.prog 71 [.sl o2 1 (cT a2),.sl .no 7 (cSs xs)] H2 o2 1 (cT (yK xs a2)):=fun o2 a2 H2 e h h'=>hxs a2 o2 H2 (by simp only[Lim];omega) h'.own
  simp(disch:=omega) only[h1,hlt,hg,go_sem]
  refine zb fun b6 hb6=>?_
  have hsu:=hs2.upd (x:=.cells [.int .i64 k,.str al,.str nm,.sl .no 6 (cMs args),.sl .no 2 (cDs dirs),.str on,.sl .no 7 (cSs xs)]) hb6
  by_cases hk:k=1
  case neg =>
   rw[if_neg (fun h=>hk h.1)] at e0
   simp(disch:=omega) only[hk,go_sem]
   refine zB (tail o1 a _ e0 (by omega) hsu) fun o2 H2 hs3=>?_
   rw[zK] at hs3
   simp(disch:=omega) only[wrap64,go_sem]
   exact goJ (hJ (o2,yK xs a) H2 ⟨by rw[← hn,e0],by simp only;rw[e0] at hx;omega,hsu.trans hs3⟩) (by simp(disch:=omega) only[wrap64,go_sem])
  subst hk
  simp(disch:=omega) only[go_sem]
  refine za (zg.low (yR a nm (by simp only[Lim];omega))) ?_
  cases hh:zQ nm a with
  | true =>
   rw[if_neg (fun h=>by rw[hh] at h;cases h.2)] at e0
   simp(disch:=omega) only[go_sem]
   refine zB (tail o1 a _ e0 (by omega) hsu) fun o2 H2 hs3=>?_
   rw[zK] at hs3
   simp(disch:=omega) only[wrap64,go_sem]
   exact goJ (hJ (o2,yK xs a) H2 ⟨by rw[← hn,e0],by simp only;rw[e0] at hx;omega,hsu.trans hs3⟩) (by simp(disch:=omega) only[wrap64,go_sem])
  | false =>
   rw[if_pos ⟨rfl,hh⟩] at e0
   simp(disch:=omega) only[go_sem]
   refine zu (by rw[l1];exact hsu.own) ?_ ?_ fun o' H3 hs4=>?_
   ·simp only[l1,Al2,Al3];omega
   ·simp only[l1,Al2,Al3,maxLen];omega
   have e1:cT a++[[AV.str nm]]=cT (a++[nm]):=by simp[cT]
   have hs5:=hsu.trans hs4
   simp only[l1,Al2,Al3] at hs5
   have h6:H3 b6=some (.cells [.int .i64 1,.str al,.str nm,.sl .no 6 (cMs args),.sl .no 2 (cDs dirs),.str on,.sl .no 7 (cSs xs)]):=hs4.kept b6 _ (upd_same ..) fun d e=>by
    have:=hs2.own
    rw[e] at this
    have h7:H' b6=some (.tip (d+a.length) 1):=this
    rw[hb6] at h7
    cases h7
   simp(disch:=omega) only[e1,h6,go_sem]
   refine zB (tail o' (a++[nm]) _ e0 (by simp) (by simpa using hs5)) fun o2 H2 hs3=>?_
   rw[zK] at hs3
   simp(disch:=omega) only[wrap64,go_sem]
   exact goJ (hJ (o2,yK xs (a++[nm])) H2 ⟨by rw[← hn,e0],by simp only;rw[e0] at hx;omega,(OwnS.trans (n:=a.length+1) (by simpa using hs5) hs3)⟩) (by simp(disch:=omega) only[wrap64,go_sem])
theorem zsY (sels:List SelD):zqP sels:=by
 have h:∀ x:SelD,∀ k al nm args dirs on xs,x=.mk k al nm args dirs on xs→zqP xs:=SelD.ind fun k al nm args dirs on sels ih=>by
  intro k' al' nm' args' dirs' on' xs e
  cases e
  exact zmN sels fun k al nm args dirs on xs hm=>ih _ hm _ _ _ _ _ _ _ rfl
 exact zmN sels fun k al nm args dirs on xs _=>h _ k al nm args dirs on xs rfl
def Yw (n:List UInt8) (f:FragD):Bool:=decide (f.nm=n)
def zFr:FragD:=⟨[],[],[],[]⟩
def zC (d:DocD) (n:List UInt8):Option FragD:=d.frags.find? (Yw n)
theorem Z3 (nm on:List UInt8) (dirs:List DirD) (sels:List SelD):cF ⟨nm,on,dirs,sels⟩=[.str nm,.str on,.sl .no 2 (cDs dirs),.sl .no 7 (cSs sels)]:=rfl
theorem zs5 (f:FragD) (n:List UInt8):zg Tryz.prog 131 [.agg (cF f),.view [.str n]] (.bool (Yw n f)):=by
 obtain⟨nm,on,ds,ss⟩:=f
 refine zg.go ir131 ck131 (Al4 _) fun KP Q hQ=>?_
 simp(disch:=omega) only[ir131,Z3,go_sem]
 exact hQ _ _ _ _ nofun rfl (by simp[zd,ze,AV.strip,AV.strip1,Yw])
theorem zkK (d:DocD) (n:List UInt8) (hl:d.frags.length≤Lim):zg Tryz.prog 72 [.agg (zX d),.str n] (.tup [.agg (cF ((zC d n).getD zFr)),.bool (zC d n).isSome]):=by
 have hlb:=hl
 simp only[Lim] at hlb
 have hx:=zra cF (fun _=>rfl) d.frags 131 [.view [.str n]] (Yw n) hl (by kernel_rfl) fun x _=>zs5 x n
 have e0:zC d n=d.frags.find? (Yw n):=rfl
 generalize zC d n=F at *
 obtain⟨ops,frags⟩:=d
 simp only[zX] at hx e0 ⊢
 have h6:=Ye frags
 refine zg.go ir72 ck72 (Al4 _) fun KP Q hQ=>?_
 have fin:∀ o,F=o→∀ ρ H vs,zN ρ H ir72.res=some vs→(zd vs).strip=.tup [.agg (cF (o.getD zFr)),.bool o.isSome]→Q .ret ρ H:=fun o e ρ H vs h1 h2=>hQ _ ρ H vs nofun h1 (by rw[h2,e])
 simp(disch:=omega) only[ir72,go_sem]
 refine zb fun b4 hb4=>?_
 simp(disch:=omega) only[go_sem]
 refine za hx ?_
 rcases zal (Yw n) frags 0 with ⟨a,x,r,h1,h2,h3,h4⟩|⟨h1,h2⟩
 ·rw[h4,Int.zero_add]
  rw[h3] at e0
  have hg:=Yt h1
  have h5:(a.length:Int)<frags.length:=by rw[h1,Al5,Al2];omega
  have h7:¬ ((a.length:Int)<0):=by omega
  obtain⟨nm,on,ds,ss⟩:=x
  rw[Z3] at hg
  simp(disch:=omega) only[hg,h6,h5,h7,go_sem]
  exact fin _ e0 _ _ [.agg (cF ⟨nm,on,ds,ss⟩),.bool true] (by simp(disch:=omega) only[ir72,zN,Zv,Z3,go_sem]) rfl
 ·rw[h2]
  rw[h1] at e0
  simp(disch:=omega) only[go_sem]
  exact fin _ e0 _ _ [.agg [.str [],.str [],.sl .nil 2 [],.sl .nil 7 []],.bool false] (by simp(disch:=omega) only[ir72,zN,Zv,go_sem]) rfl
mutual
def znd:SelD→List (List UInt8)
 | .mk _ _ nm _ _ _ sels=>nm::Y9 sels
def Y9:List SelD→List (List UInt8)
 | []=>[]
 | x::r=>znd x++Y9 r
end
mutual
theorem zqD:∀ x:SelD,(znd x).length≤bS x
 | .mk _ _ nm _ _ _ sels=>by have:=zew sels;simp only[znd,bS,Al2];omega
theorem zew:∀ l:List SelD,(Y9 l).length≤bSs l
 | []=>by simp[Y9]
 | x::r=>by have:=zqD x;have:=zew r;simp only[Y9,bSs,Al5];omega
end
def OkN (U l:List (List UInt8)):Prop:=l.Nodup∧∀ x∈l,x∈U
theorem zrt {U l:List (List UInt8)} {x:List UInt8} (h:OkN U l) (hx:zQ x l=false) (hm:x∈U):OkN U (l++[x]):=by
 have hx':x ∉ l:=fun h=>by rw[(ZD x l).2 h] at hx;cases hx
 refine⟨List.nodup_append.2 ⟨h.1,by simp,fun a ha b hb e=>?_⟩,fun y hy=>?_⟩
 ·simp only[List.mem_singleton] at hb
  subst hb;subst e;exact hx' ha
 ·rcases List.mem_append.1 hy with h1|h1
  ·exact h.2 y h1
  ·simp only[List.mem_singleton] at h1
   subst h1;exact hm
theorem zf5 {U l:List (List UInt8)} (h:OkN U l):l.length≤U.length:=List.Nodup.length_le_of_subset h.1 (fun x hx=>h.2 x hx)
mutual
theorem zqr {U:List (List UInt8)}:∀(x:SelD) (l:List (List UInt8)),(∀ y∈znd x,y∈U)→OkN U l→OkN U (zcN x l)
 | .mk k al nm args dirs on sels,l,hU,h=>by
  simp only[zcN]
  refine Yo sels _ (fun y hy=>hU y (by simp[znd,hy])) ?_
  split
  ·rename_i hc;exact zrt h hc.2 (hU nm (by simp[znd]))
  ·exact h
theorem Yo {U:List (List UInt8)}:∀(x:List SelD) (l:List (List UInt8)),(∀ y∈Y9 x,y∈U)→OkN U l→OkN U (yK x l)
 | [],l,_,h=>by simpa[yK] using h
 | x::r,l,hU,h=>by
  simp only[yK]
  exact Yo r _ (fun y hy=>hU y (by simp[Y9,hy])) (zqr x l (fun y hy=>hU y (by simp[Y9,hy])) h)
end
mutual
theorem zrA:∀(x:SelD) (l:List (List UInt8)),l.length≤(zcN x l).length
 | .mk k al nm args dirs on sels,l=>by
  have:=zgS sels (if k=1∧zQ nm l=false then l++[nm] else l)
  have h2:l.length≤(if k=1∧zQ nm l=false then l++[nm] else l).length:=by split<;>simp
  simp only[zcN];omega
theorem zgS:∀(x:List SelD) (l:List (List UInt8)),l.length≤(yK x l).length
 | [],l=>by simp[yK]
 | x::r,l=>by have:=zrA x l;have:=zgS r (zcN x l);simp only[yK];omega
end
def zcD (d:DocD) (sels:List SelD):List (List UInt8):=Y9 sels++d.frags.flatMap fun f=>Y9 f.sels
theorem zaq (f:FragD):bSs f.sels≤bF f:=by simp only[bF];omega
theorem zjL:∀ l:List FragD,(l.flatMap fun f=>Y9 f.sels).length≤bFs l
 | []=>by simp
 | f::l=>by
  have h1:=zjL l
  have h2:=zew f.sels
  have h3:=zaq f
  have e:bFs (f::l)=bF f+bFs l:=by simp[bFs]
  rw[List.flatMap_cons,Al5,e]
  omega
theorem zfY (d:DocD) (sels:List SelD):(zcD d sels).length≤bSs sels+bFs d.frags:=by
 have h1:=zew sels
 have h2:=zjL d.frags
 simp only[zcD,Al5]
 omega
def Zj (d:DocD):Nat→List (List UInt8)→Nat→List (List UInt8)
 | 0,l,_=>l
 | k+1,l,i=>match l[i]? with
  | none=>l
  | some x=>Zj d k (match zC d x with|none=>l|some f=>yK f.sels l) (i+1)
def yf (d:DocD) (sels:List SelD):List (List UInt8):=Zj d (bSs sels+bFs d.frags+1) (yK sels []) 0
theorem zbC {f:FragD}:∀ {l:List FragD},f∈l→bF f≤bFs l
 | x::l,h=>by
  rcases List.mem_cons.1 h with rfl|h
  ·simp only[bFs,List.map_cons,List.sum_cons];omega
  ·have:=zbC h;simp only[bFs,List.map_cons,List.sum_cons] at this ⊢;omega
theorem zh4 {d:DocD} {U:List (List UInt8)} (hU:∀ f∈d.frags,∀ y∈Y9 f.sels,y∈U):∀(k:Nat) (l:List (List UInt8)) (i:Nat),OkN U l→OkN U (Zj d k l i)
 | 0,l,i,h=>by simpa[Zj] using h
 | k+1,l,i,h=>by
  simp only[Zj]
  cases l[i]? with
  | none=>exact h
  | some x =>
   simp only
   refine zh4 hU k _ _ ?_
   cases hf:zC d x with
   | none=>exact h
   | some f=>exact Yo f.sels l (hU f (List.mem_of_find?_eq_some hf)) h
theorem zhj (d:DocD) (sels:List SelD) (H:zc) (hb:2*(bSs sels+bFs d.frags)≤Lim):Y8 Tryz.prog 28 [.agg (zX d),.sl .no 7 (cSs sels)] H .nil 1 (cT (yf d sels)):=by
 have hb':2*(bSs sels+bFs d.frags)≤1099511627776:=by simpa only[Lim] using hb
 have hfl:=yM d.frags
 have hF:=fun n=>zkK d n (by simp only[Lim];omega)
 have hU0:∀ f∈d.frags,∀ y∈Y9 f.sels,y∈zcD d sels:=fun f hf y hy=>by
  simp only[zcD,List.mem_append,List.mem_flatMap];exact .inr ⟨f,hf,hy⟩
 have hB:=zfY d sels
 have ok0:OkN (zcD d sels) (yK sels []):=Yo sels [] (fun y hy=>by simp[zcD,hy]) ⟨List.nodup_nil,by simp⟩
 generalize hUe:zcD d sels=U at *
 have e0:yf d sels=Zj d (bSs sels+bFs d.frags+1) (yK sels []) 0:=rfl
 generalize hBe:bSs sels+bFs d.frags=B at *
 generalize yf d sels=F at *
 have hmem:=fun n f (h:zC d n=some f)=>(show f∈d.frags from List.mem_of_find?_eq_some h)
 have hfb:=fun f (h:f∈d.frags)=>Nat.le_trans (zaq f) (zbC h)
 have hS1:=zsY sels [] .nil H (by simp only[Al3,Lim];omega) rfl
 have hcd:zX d=[.sl .no 5 (cOs d.ops),.sl .no 4 (cFs d.frags)]:=rfl
 simp only[hcd] at hF ⊢
 refine zj.goO ir28 ck28 (Al4 _) fun KP Q hQ hP=>?_
 simp(disch:=omega) only[ir28,go_sem]
 have hnil:cT []=[]:=rfl
 rw[hnil] at hS1
 refine zB hS1 fun o0 H0 hs0=>?_
 rw[zK] at hs0
 simp(disch:=omega) only[go_sem]
 refine zbF (fun x:Own×List (List UInt8)×Nat=>[(5,.sl x.1 1 (cT x.2.1)),(6,.int .i64 x.2.2)]) (fun x H'=>OwnS H .nil H' x.1 x.2.1.length 1∧OkN U x.2.1∧x.2.2≤x.2.1.length∧Zj d (B+1-x.2.2) x.2.1 x.2.2=F) (fun x=>B+1-x.2.2) (o0,yK sels [],0) (by simp(disch:=omega) only[go_sem]) ⟨hs0,ok0,Nat.zero_le _,e0.symm⟩ ?_
 rintro⟨o,l,i⟩ H1 J ⟨ho,hk,hi,hr⟩ hJ
 replace ho:OwnS H .nil H1 o l.length 1:=ho
 simp only at hk hi hr
 have hlen:=zf5 hk
 have l1:=zK l
 have ek:B+1-i=(B-i)+1:=by omega
 rw[ek] at hr
 by_cases hil:i<l.length
 case neg =>
  have hg:l[i]?=none:=List.getElem?_eq_none (by omega)
  have hlt:(l.length:Int)≤i:=by omega
  simp only[Zj,hg] at hr
  simp(disch:=omega) only[l1,hlt,go_sem]
  refine hQ _ _ H1 H1 [.sl o 1 (cT l)] nofun (by simp(disch:=omega) only[ir28,zN,Zv,go_sem]) (Low.refl _) ⟨o,by rw[← hr];rfl,by rw[← hr,zK];exact ho⟩
 obtain⟨a,x,r,hlx,hai⟩:∃ a x r,l=a++x::r∧a.length=i:=⟨l.take i,l[i],l.drop (i+1),by rw[List.getElem_cons_drop,List.take_append_drop],by rw[List.length_take];omega⟩
 subst hai
 have hgx:l[a.length]?=some x:=by rw[hlx];simp
 have hgt:(cT l).getD a.length []=[.str x]:=ZZ hlx
 have hlt:(a.length:Int)<l.length:=by omega
 have hge:¬ ((l.length:Int)≤a.length):=by omega
 have hFx:=hF x
 simp only[Zj,hgx] at hr
 simp(disch:=omega) only[l1,hlt,hge,hgt,go_sem]
 refine za hFx ?_
 cases hfe:zC d x with
 | none =>
  rw[hfe] at hr
  simp(disch:=omega) only[Option.getD,Option.isSome,zFr,Z3,go_sem]
  refine zb fun b7 hb7=>?_
  simp(disch:=omega) only[go_sem]
  exact goJ (hJ (o,l,a.length+1) _ (by simp only;omega) ⟨ho.upd hb7,hk,by simp only;omega,by simp only;rw[← hr];congr 1;omega⟩) (by simp(disch:=omega) only[wrap64,go_sem];simp)
 | some f =>
  rw[hfe] at hr
  have hfm:=hmem x f hfe
  have hfs:=hfb f hfm
  have hok2:=Yo f.sels l (hU0 f hfm) hk
  have hl2:=zec f.sels l
  have hS2:=fun H2 (h:zY H2 o l.length 1)=>zsY f.sels l o H2 (by simp only[Lim];omega) h
  have hge2:l.length≤(yK f.sels l).length:=zgS f.sels l
  obtain⟨fn,fo,fd,fs⟩:=f
  simp only at hS2 hok2 hl2 hr hge2
  simp(disch:=omega) only[Option.getD,Option.isSome,Z3,go_sem]
  refine zb fun b7 hb7=>?_
  simp(disch:=omega) only[go_sem]
  refine zB (hS2 _ (ho.own.upd hb7)) fun o2 H2 hs2=>?_
  rw[zK] at hs2
  simp(disch:=omega) only[go_sem]
  exact goJ (hJ (o2,yK fs l,a.length+1) H2 (by simp only;omega) ⟨(ho.upd hb7).trans hs2,hok2,by simp only;omega,by simp only;rw[← hr];congr 1;omega⟩) (by simp(disch:=omega) only[wrap64,go_sem];simp)
theorem YO (k:Int) (nm:List UInt8) (vars:List VarD) (dirs:List DirD) (sels:List SelD):cO ⟨k,nm,vars,dirs,sels⟩=[.int .i64 k,.str nm,.sl .no 10 (cWs vars),.sl .no 2 (cDs dirs),.sl .no 7 (cSs sels)]:=rfl
def cLL (l:List (List SelD)):List (List AV):=l.map fun x=>[.sl .no 7 (cSs x)]
theorem zja (l:List (List SelD)):(cLL l).length=l.length:=by simp[cLL]
def lenD (d:DocD):Nat:=d.ops.length+d.frags.length
def ya (d:DocD):List (List SelD):=d.ops.map (·.sels)++d.frags.map (·.sels)
theorem zot (d:DocD) (H:zc) (hb:zw d≤Lim):Y8 Tryz.prog 79 [.agg (zX d)] H .nil 1 (cLL (ya d)):=by
 obtain⟨ops,frags⟩:=d
 have hb':bOs ops+bFs frags≤1099511627776:=by simpa only[Lim,zw] using hb
 have l1:=Z2 ops
 have l2:=Ye frags
 have m1:=Zo ops
 have m2:=yM frags
 rw[show zX ⟨ops,frags⟩=[.sl .no 5 (cOs ops),.sl .no 4 (cFs frags)] from rfl]
 refine zj.goO ir79 ck79 (Al4 _) fun KP Q hQ hP=>?_
 simp(disch:=omega) only[ir79,l1,go_sem]
 refine zf ops 11 (fun x:Own×List (List SelD)=>[(3,.sl x.1 1 (cLL x.2))]) (fun done rest x H'=>x.2=done.map (·.sels)∧OwnS H .nil H' x.1 done.length 1) (.nil,[]) (by simp(disch:=omega) only[cLL,List.map,go_sem]) ⟨rfl,OwnS.refl (o:=.nil) (n:=0) rfl⟩ ?_ ?_
 ·rintro⟨o1,a⟩ H1 J ⟨hn,hs⟩ hlt
  simp only at hn
  subst hn
  replace hs:OwnS H .nil H1 o1 ops.length 1:=hs
  simp(disch:=omega) only[l1,hlt,l2,go_sem]
  refine zf frags 24 (fun x:Own×List (List SelD)=>[(3,.sl x.1 1 (cLL x.2))]) (fun done rest x H'=>x.2=ops.map (·.sels)++done.map (·.sels)∧OwnS H .nil H' x.1 (ops.length+done.length) 1) (o1,ops.map (·.sels)) (by simp(disch:=omega) only[go_sem]) ⟨by simp,hs⟩ ?_ ?_
  ·rintro⟨o2,a⟩ H2 J ⟨hn,hs⟩ hlt
   simp only at hn
   subst hn
   simp(disch:=omega) only[l2,hlt,go_sem]
   refine hQ _ _ H2 H2 [.sl o2 1 (cLL (ya ⟨ops,frags⟩))] nofun (by simp(disch:=omega) only[ir79,zN,Zv,ya,go_sem]) (Low.refl _) ⟨o2,rfl,by rw[zja];simpa[ya] using hs⟩
  ·rintro done x rest ⟨o2,a⟩ H2 J hd hlt _ ⟨hn,hs⟩ hJ
   have hg:=Yt hd
   simp only at hn
   subst hn
   have h3:=zja (ops.map (·.sels)++done.map (·.sels))
   simp only[Al5,List.length_map] at h3
   replace hs:OwnS H .nil H2 o2 (ops.length+done.length) 1:=hs
   obtain⟨nm,on,ds,ss⟩:=x
   rw[Z3] at hg
   simp(disch:=omega) only[l2,hlt,hg,go_sem]
   refine zb fun b7 hb7=>?_
   have hsu:=hs.upd (x:=.cells [.str nm,.str on,.sl .no 2 (cDs ds),.sl .no 7 (cSs ss)]) hb7
   simp(disch:=omega) only[go_sem]
   refine zu (by rw[h3];exact hsu.own) ?_ ?_ fun o' H3 hs2=>?_
   ·simp only[h3,Al2,Al3];omega
   ·simp only[h3,Al2,Al3,maxLen];omega
   have e1:cLL (ops.map (·.sels)++done.map (·.sels))++[[AV.sl .no 7 (cSs ss)]]=cLL (ops.map (·.sels)++(done.map (·.sels)++[ss])):=by simp[cLL]
   have hs3:=hsu.trans hs2
   simp only[h3,Al2,Al3] at hs3
   simp(disch:=omega) only[wrap64,e1,go_sem]
   exact goJ (hJ (o',ops.map (·.sels)++(done.map (·.sels)++[ss])) H3 ⟨by simp,by simpa[Nat.add_assoc] using hs3⟩) (by simp(disch:=omega) only[wrap64,go_sem])
 ·rintro done x rest ⟨o1,a⟩ H1 J hd hlt _ ⟨hn,hs⟩ hJ
  have hg:=Yc hd
  simp only at hn
  subst hn
  have h3:=zja (done.map (·.sels))
  simp only[List.length_map] at h3
  replace hs:OwnS H .nil H1 o1 done.length 1:=hs
  obtain⟨k,nm,vs,ds,ss⟩:=x
  rw[YO] at hg
  simp(disch:=omega) only[l1,hlt,hg,go_sem]
  refine zb fun b5 hb5=>?_
  have hsu:=hs.upd (x:=.cells [.int .i64 k,.str nm,.sl .no 10 (cWs vs),.sl .no 2 (cDs ds),.sl .no 7 (cSs ss)]) hb5
  simp(disch:=omega) only[go_sem]
  refine zu (by rw[h3];exact hsu.own) ?_ ?_ fun o' H3 hs2=>?_
  ·simp only[h3,Al2,Al3];omega
  ·simp only[h3,Al2,Al3,maxLen];omega
  have e1:cLL (done.map (·.sels))++[[AV.sl .no 7 (cSs ss)]]=cLL (done.map (·.sels)++[ss]):=by simp[cLL]
  have hs3:=hsu.trans hs2
  simp only[h3,Al2,Al3] at hs3
  simp(disch:=omega) only[wrap64,e1,go_sem]
  exact goJ (hJ (o',done.map (·.sels)++[ss]) H3 ⟨by simp,by simpa using hs3⟩) (by simp(disch:=omega) only[wrap64,go_sem])
theorem zoY (l:List (List UInt8)) (hl:l.length≤Lim):zg Tryz.prog 37 [.sl .no 1 (cT l)] (.bool (!zab l)):=by
 refine zg.go ir37 ck37 (Al4 _) fun KP Q hQ=>?_
 have h1:=zK l
 simp only[Lim] at hl
 simp(disch:=omega) only[ir37,h1,go_sem]
 refine zf l 7 (fun _:Unit=>[]) (fun done rest _ H=>zcY done rest=zab l) () (by simp(disch:=omega) only[go_sem]) rfl ?_ ?_
 ·rintro _ H J hn hlt
  simp(disch:=omega) only[h1,hlt,go_sem]
  exact hQ _ _ _ _ nofun rfl (by simp[zd,ze,AV.strip,AV.strip1,← hn,zcY])
 ·rintro done x rest _ H J hd hlt _ hn hJ
  have hg:=ZZ hd
  have htk:(cT l).take done.length=cT done:=by rw[hd];simp[cT]
  have hle:(done.length:Int)≤l.length:=by omega
  have hdl:done.length≤Lim:=by simp only[Lim];omega
  simp only[zcY] at hn
  simp(disch:=omega) only[h1,hlt,hg,htk,hle,go_sem]
  refine za (yR done x hdl) ?_
  cases hh:zQ x done with
  | true =>
   rw[hh] at hn
   simp(disch:=omega) only[go_sem]
   exact hQ _ _ _ _ nofun rfl (by simp[zd,ze,AV.strip,AV.strip1,← hn])
  | false =>
   rw[hh] at hn
   simp(disch:=omega) only[go_sem]
   exact goJ (hJ () _ (by simpa using hn)) (by simp(disch:=omega) only[wrap64,go_sem])
theorem zvH (d:DocD) (H:zc) (hb:zw d≤Lim):Y8 Tryz.prog 39 [.agg (zX d)] H .nil 1 (cT (d.ops.map (·.nm))):=by
 obtain⟨ops,frags⟩:=d
 have hb':bOs ops+bFs frags≤1099511627776:=by simpa only[Lim,zw] using hb
 have l1:=Z2 ops
 have m1:=Zo ops
 have m2:=yM frags
 rw[show zX ⟨ops,frags⟩=[.sl .no 5 (cOs ops),.sl .no 4 (cFs frags)] from rfl]
 simp only
 refine zj.goO ir39 ck39 (Al4 _) fun KP Q hQ hP=>?_
 simp(disch:=omega) only[ir39,l1,go_sem]
 refine zf ops 9 (fun x:Own×List (List UInt8)=>[(3,.sl x.1 1 (cT x.2))]) (fun done rest x H'=>x.2=(done.map (·.nm))∧x.2.length≤done.length∧OwnS H .nil H' x.1 x.2.length 1) (.nil,[]) (by simp(disch:=omega) only[cT,List.map,go_sem]) ⟨rfl,Al4 _,OwnS.refl (o:=.nil) (n:=0) rfl⟩ ?_ ?_
 ·rintro⟨o1,a⟩ H1 J ⟨hn,hle,hs⟩ hlt
  simp only at hn
  subst hn
  simp(disch:=omega) only[l1,hlt,go_sem]
  refine hQ _ _ H1 H1 [.sl o1 1 (cT (ops.map (·.nm)))] nofun (by simp(disch:=omega) only[ir39,zN,Zv,go_sem]) (Low.refl _) ⟨o1,rfl,by rw[zK];exact hs⟩
 ·rintro done x rest ⟨o1,a⟩ H1 J hd hlt _ ⟨hn,hle,hs⟩ hJ
  have hg:=Yc hd
  simp only at hn hle
  replace hs:OwnS H .nil H1 o1 a.length 1:=hs
  have h3:=zK a
  obtain⟨k,nm,vs,ds,ss⟩:=x
  rw[YO] at hg
  simp(disch:=omega) only[l1,hlt,hg,go_sem]
  refine zb fun b5 hb5=>?_
  have hsu:=hs.upd (x:=.cells [.int .i64 k,.str nm,.sl .no 10 (cWs vs),.sl .no 2 (cDs ds),.sl .no 7 (cSs ss)]) hb5
  simp(disch:=omega) only[go_sem]
  refine zu (by rw[h3];exact hsu.own) ?_ ?_ fun o' H3 hs2=>?_
  ·simp only[h3,Al2,Al3];omega
  ·simp only[h3,Al2,Al3,maxLen];omega
  have e1:cT a++[[AV.str nm]]=cT (a++[nm]):=by simp[cT]
  have hs3:=hsu.trans hs2
  simp only[h3,Al2,Al3] at hs3
  simp(disch:=omega) only[wrap64,e1,go_sem]
  exact goJ (hJ (o',a++[nm]) H3 ⟨by rw[hn];simp,by simp only[Al5,Al2,Al3];omega,by simpa using hs3⟩) (by simp(disch:=omega) only[wrap64,go_sem])
theorem zt9 (d:DocD) (H:zc) (hb:zw d≤Lim):Y8 Tryz.prog 42 [.agg (zX d)] H .nil 1 (cT (d.frags.map (·.nm))):=by
 obtain⟨ops,frags⟩:=d
 have hb':bOs ops+bFs frags≤1099511627776:=by simpa only[Lim,zw] using hb
 have l1:=Ye frags
 have m1:=Zo ops
 have m2:=yM frags
 rw[show zX ⟨ops,frags⟩=[.sl .no 5 (cOs ops),.sl .no 4 (cFs frags)] from rfl]
 simp only
 refine zj.goO ir42 ck42 (Al4 _) fun KP Q hQ hP=>?_
 simp(disch:=omega) only[ir42,l1,go_sem]
 refine zf frags 9 (fun x:Own×List (List UInt8)=>[(3,.sl x.1 1 (cT x.2))]) (fun done rest x H'=>x.2=(done.map (·.nm))∧x.2.length≤done.length∧OwnS H .nil H' x.1 x.2.length 1) (.nil,[]) (by simp(disch:=omega) only[cT,List.map,go_sem]) ⟨rfl,Al4 _,OwnS.refl (o:=.nil) (n:=0) rfl⟩ ?_ ?_
 ·rintro⟨o1,a⟩ H1 J ⟨hn,hle,hs⟩ hlt
  simp only at hn
  subst hn
  simp(disch:=omega) only[l1,hlt,go_sem]
  refine hQ _ _ H1 H1 [.sl o1 1 (cT (frags.map (·.nm)))] nofun (by simp(disch:=omega) only[ir42,zN,Zv,go_sem]) (Low.refl _) ⟨o1,rfl,by rw[zK];exact hs⟩
 ·rintro done x rest ⟨o1,a⟩ H1 J hd hlt _ ⟨hn,hle,hs⟩ hJ
  have hg:=Yt hd
  simp only at hn hle
  replace hs:OwnS H .nil H1 o1 a.length 1:=hs
  have h3:=zK a
  obtain⟨nm,on,ds,ss⟩:=x
  rw[Z3] at hg
  simp(disch:=omega) only[l1,hlt,hg,go_sem]
  refine zb fun b5 hb5=>?_
  have hsu:=hs.upd (x:=.cells [.str nm,.str on,.sl .no 2 (cDs ds),.sl .no 7 (cSs ss)]) hb5
  simp(disch:=omega) only[go_sem]
  refine zu (by rw[h3];exact hsu.own) ?_ ?_ fun o' H3 hs2=>?_
  ·simp only[h3,Al2,Al3];omega
  ·simp only[h3,Al2,Al3,maxLen];omega
  have e1:cT a++[[AV.str nm]]=cT (a++[nm]):=by simp[cT]
  have hs3:=hsu.trans hs2
  simp only[h3,Al2,Al3] at hs3
  simp(disch:=omega) only[wrap64,e1,go_sem]
  exact goJ (hJ (o',a++[nm]) H3 ⟨by rw[hn];simp,by simp only[Al5,Al2,Al3];omega,by simpa using hs3⟩) (by simp(disch:=omega) only[wrap64,go_sem])
theorem ztO (d:DocD) (H:zc) (hb:zw d≤Lim):Y8 Tryz.prog 38 [.agg (zX d)] H .nil 1 (cT ((d.ops.map (·.nm)).filter (fun n=>!decide (n=[])))):=by
 obtain⟨ops,frags⟩:=d
 have hb':bOs ops+bFs frags≤1099511627776:=by simpa only[Lim,zw] using hb
 have l1:=Z2 ops
 have m1:=Zo ops
 have m2:=yM frags
 rw[show zX ⟨ops,frags⟩=[.sl .no 5 (cOs ops),.sl .no 4 (cFs frags)] from rfl]
 simp only
 refine zj.goO ir38 ck38 (Al4 _) fun KP Q hQ hP=>?_
 simp(disch:=omega) only[ir38,l1,go_sem]
 refine zf ops 9 (fun x:Own×List (List UInt8)=>[(3,.sl x.1 1 (cT x.2))]) (fun done rest x H'=>x.2=((done.map (·.nm)).filter (fun n=>!decide (n=[])))∧x.2.length≤done.length∧OwnS H .nil H' x.1 x.2.length 1) (.nil,[]) (by simp(disch:=omega) only[cT,List.map,go_sem]) ⟨rfl,Al4 _,OwnS.refl (o:=.nil) (n:=0) rfl⟩ ?_ ?_
 ·rintro⟨o1,a⟩ H1 J ⟨hn,hle,hs⟩ hlt
  simp only at hn
  subst hn
  simp(disch:=omega) only[l1,hlt,go_sem]
  refine hQ _ _ H1 H1 [.sl o1 1 (cT ((ops.map (·.nm)).filter (fun n=>!decide (n=[]))))] nofun (by simp(disch:=omega) only[ir38,zN,Zv,go_sem]) (Low.refl _) ⟨o1,rfl,by rw[zK];exact hs⟩
 ·rintro done x rest ⟨o1,a⟩ H1 J hd hlt _ ⟨hn,hle,hs⟩ hJ
  have hg:=Yc hd
  simp only at hn hle
  replace hs:OwnS H .nil H1 o1 a.length 1:=hs
  have h3:=zK a
  obtain⟨k,nm,vs,ds,ss⟩:=x
  rw[YO] at hg
  simp(disch:=omega) only[l1,hlt,hg,go_sem]
  refine zb fun b5 hb5=>?_
  have hsu:=hs.upd (x:=.cells [.int .i64 k,.str nm,.sl .no 10 (cWs vs),.sl .no 2 (cDs ds),.sl .no 7 (cSs ss)]) hb5
  by_cases hz:nm=[]
  ·subst hz
   simp(disch:=omega) only[go_sem]
   exact goJ (hJ (o1,a) _ ⟨by rw[hn];simp,by simp only[Al5,Al2,Al3];omega,hsu⟩) (by simp(disch:=omega) only[wrap64,go_sem])
  simp(disch:=omega) only[hz,go_sem]
  refine zu (by rw[h3];exact hsu.own) ?_ ?_ fun o' H3 hs2=>?_
  ·simp only[h3,Al2,Al3];omega
  ·simp only[h3,Al2,Al3,maxLen];omega
  have e1:cT a++[[AV.str nm]]=cT (a++[nm]):=by simp[cT]
  have hs3:=hsu.trans hs2
  simp only[h3,Al2,Al3] at hs3
  simp(disch:=omega) only[wrap64,e1,go_sem]
  exact goJ (hJ (o',a++[nm]) H3 ⟨by rw[hn];simp[hz],by simp only[Al5,Al2,Al3];omega,by simpa using hs3⟩) (by simp(disch:=omega) only[wrap64,go_sem])
mutual
def zk7 (s:SchD):SelD→Bool
 | .mk k _ _ _ _ on sels=>(decide (k=2)&&(!decide (on=[])&&!ZW s on))||!zcS s sels
def zcS (s:SchD):List SelD→Bool
 | []=>true
 | x::r=>!zk7 s x&&zcS s r
end
theorem zh5 (s:SchD):∀ l,(!l.any (zk7 s))=zcS s l
 | []=>rfl
 | x::r=>by rw[List.any_cons,zcS,← zh5 s r];cases zk7 s x<;>simp
def zpw (s:SchD) (sels:List SelD):Prop:=bSs sels≤Lim→zg Tryz.prog 81 [.agg (zq s),.sl .no 7 (cSs sels)] (.bool (zcS s sels))
theorem zu6 (s:SchD) (x:SelD) (hl:s.defs.length≤Lim) (hb:bS x≤Lim) (ih:∀ k al nm args dirs on xs,x=.mk k al nm args dirs on xs→zpw s xs):zg Tryz.prog 135 [.agg (cS x),.view (zq s)] (.bool (zk7 s x)):=by
 obtain⟨k,al,nm,args,dirs,on,xs⟩:=x
 have h1:=zgc s on hl
 have h2:=ih k al nm args dirs on xs rfl (by simp only[bS] at hb;omega)
 simp only[zk7]
 generalize ZW s on=x1 at *
 generalize zcS s xs=x2 at *
 obtain⟨sd,sq,sm⟩:=s
 simp only[zq] at h1 h2 ⊢
 refine zg.go ir135 ck135 (Al4 _) fun KP Q hQ=>?_
 by_cases hk:k=2
 case neg =>
  simp(disch:=omega) only[ir135,Zb,hk,go_sem]
  refine za h2 ?_
  simp(disch:=omega) only[go_sem]
  exact hQ _ _ _ _ nofun rfl (by simp[zd,ze,AV.strip,AV.strip1,hk])
 subst hk
 by_cases ho:on=[]
 ·have ho':=eq_true ho
  simp(disch:=omega) only[ir135,Zb,ho',go_sem]
  refine za h2 ?_
  simp(disch:=omega) only[go_sem]
  exact hQ _ _ _ _ nofun rfl (by simp[zd,ze,AV.strip,AV.strip1,ho])
 simp(disch:=omega) only[ir135,Zb,ho,go_sem]
 refine za h1 ?_
 cases x1 with
 | false =>
  simp(disch:=omega) only[go_sem]
  exact hQ _ _ _ _ nofun rfl (by simp[zd,ze,AV.strip,AV.strip1,ho])
 | true =>
  simp(disch:=omega) only[go_sem]
  refine za h2 ?_
  simp(disch:=omega) only[go_sem]
  exact hQ _ _ _ _ nofun rfl (by simp[zd,ze,AV.strip,AV.strip1,ho])
theorem zmq {x:SelD} {l:List SelD} (h:x∈l):bS x≤bSs l:=by
 obtain⟨a,b,hd⟩:=List.append_of_mem h
 have:=zbn a x b
 rw[← hd] at this
 omega
theorem zlS (s:SchD) (hl:s.defs.length≤Lim) (sels:List SelD) (ih:∀ k al nm args dirs on xs,SelD.mk k al nm args dirs on xs∈sels→zpw s xs):zpw s sels:=by
 intro hb
 have hsl:=YT sels
 have hx:=zs1 cS zte sels 135 [.view (zq s)] (zk7 s) (by omega) (by kernel_rfl) fun x hx=>zu6 s x hl (by have:=zmq hx;omega) fun k al nm args dirs on xs e=>ih k al nm args dirs on xs (e▸hx)
 rw[← zes] at hx
 rw[← zh5]
 generalize sels.any (zk7 s)=x1 at *
 obtain⟨sd,sq,sm⟩:=s
 simp only[zq] at hx ⊢
 refine zg.go ir81 ck81 (Al4 _) fun KP Q hQ=>?_
 simp(disch:=omega) only[ir81,go_sem]
 refine za hx ?_
 simp(disch:=omega) only[go_sem]
 exact hQ _ _ _ _ nofun rfl (by simp[zd,ze,AV.strip,AV.strip1])
theorem zvD (s:SchD) (hl:s.defs.length≤Lim) (sels:List SelD):zpw s sels:=by
 have h:∀ x:SelD,∀ k al nm args dirs on xs,x=.mk k al nm args dirs on xs→zpw s xs:=SelD.ind fun k al nm args dirs on sels ih=>by
  intro k' al' nm' args' dirs' on' xs e
  cases e
  exact zlS s hl sels fun k al nm args dirs on xs hm=>ih _ hm _ _ _ _ _ _ _ rfl
 exact zlS s hl sels fun k al nm args dirs on xs _=>h _ k al nm args dirs on xs rfl
theorem zvx (s:SchD) (f:FragD) (hl:s.defs.length≤Lim):zg Tryz.prog 76 [.agg (cF f),.view (zq s)] (.bool (!ZW s f.on)):=by
 have h1:=zgc s f.on hl
 obtain⟨nm,on,ds,ss⟩:=f
 simp only at h1 ⊢
 generalize ZW s on=x1 at *
 obtain⟨sd,sq,sm⟩:=s
 simp only[zq] at h1 ⊢
 refine zg.go ir76 ck76 (Al4 _) fun KP Q hQ=>?_
 simp(disch:=omega) only[ir76,Z3,go_sem]
 refine za h1 ?_
 simp(disch:=omega) only[go_sem]
 exact hQ _ _ _ _ nofun rfl (by simp[zd,ze,AV.strip,AV.strip1])
theorem zvA (s:SchD) (l:List SelD) (hl:s.defs.length≤Lim) (hb:bSs l≤Lim):zg Tryz.prog 80 [.sl .no 7 (cSs l),.view (zq s)] (.bool (!zcS s l)):=by
 have h1:=zvD s hl l hb
 generalize zcS s l=x1 at *
 obtain⟨sd,sq,sm⟩:=s
 simp only[zq] at h1 ⊢
 refine zg.go ir80 ck80 (Al4 _) fun KP Q hQ=>?_
 simp(disch:=omega) only[ir80,go_sem]
 refine za h1 ?_
 simp(disch:=omega) only[go_sem]
 exact hQ _ _ _ _ nofun rfl (by simp[zd,ze,AV.strip,AV.strip1])
def onM (s:SchD) (d:DocD):Bool:=!(d.frags.any fun f=>!ZW s f.on)&&!((ya d).any fun l=>!zcS s l)
theorem zcs {d:DocD} {l:List SelD} (h:l∈ya d):bSs l≤zw d:=by
 simp only[ya,List.mem_append,List.mem_map] at h
 rcases h with ⟨o,ho,rfl⟩|⟨f,hf,rfl⟩
 ·obtain⟨a,b,hd⟩:=List.append_of_mem ho
  have:=YW a o b
  rw[← hd] at this
  simp only[bO,zw] at this ⊢;omega
 ·have:=zbC hf
  have:=zaq f
  simp only[zw];omega
theorem zgw (d:DocD):(ya d).length≤zw d:=by
 have:=Zo d.ops
 have:=yM d.frags
 simp only[ya,Al5,List.length_map,zw];omega
theorem onC (s:SchD) (d:DocD) (hl:s.defs.length≤Lim) (hb:zw d≤Lim):zg Tryz.prog 43 [.agg (zq s),.agg (zX d)] (.bool (onM s d)):=by
 have hfl:=yM d.frags
 have hbd:bOs d.ops+bFs d.frags≤Lim:=hb
 have h1:=zmX cF (fun _=>rfl) d.frags 76 [.view (zq s)] (fun f=>!ZW s f.on) (by omega) (by kernel_rfl) fun f _=>zvx s f hl
 have h2:=zrn (fun l:List SelD=>AV.sl .no 7 (cSs l)) (ya d) 80 [.view (zq s)] (fun l=>!zcS s l) (by have:=zgw d;omega) (by kernel_rfl) fun l h=>zvA s l hl (by have:=zcs h;omega)
 have h3:=fun H=>zot d H hb
 unfold onM
 generalize (d.frags.any fun f=>!ZW s f.on)=x1 at *
 generalize ((ya d).any fun l=>!zcS s l)=x2 at *
 obtain⟨sd,sq,sm⟩:=s
 obtain⟨ops,frags⟩:=d
 simp only[zq,zX] at h1 h2 h3 ⊢
 refine zg.go ir43 ck43 (Al4 _) fun KP Q hQ=>?_
 simp(disch:=omega) only[ir43,go_sem]
 refine za h1 ?_
 cases x1 with
 | true =>
  simp(disch:=omega) only[go_sem]
  exact hQ _ _ _ _ nofun rfl (by simp[zd,ze,AV.strip,AV.strip1])
 | false =>
  simp(disch:=omega) only[go_sem]
  refine zB (h3 _) fun o2 H2 hs2=>?_
  simp(disch:=omega) only[go_sem]
  refine za (zg.low h2) ?_
  simp(disch:=omega) only[go_sem]
  exact hQ _ _ _ _ nofun rfl (by simp[zd,ze,AV.strip,AV.strip1])
def Zd (d:DocD):Nat:=2*(zw d+zw d)
theorem zcb (d:DocD) (sels:List SelD):(yf d sels).length≤bSs sels+bFs d.frags:=by
 have h:=zh4 (d:=d) (U:=zcD d sels) (fun f hf y hy=>by simp only[zcD,List.mem_append,List.mem_flatMap];exact .inr ⟨f,hf,hy⟩) (bSs sels+bFs d.frags+1) (yK sels []) 0 (Yo sels [] (fun y hy=>by simp[zcD,hy]) ⟨List.nodup_nil,by simp⟩)
 exact Nat.le_trans (zf5 h) (zfY d sels)
def zgy (d:DocD) (f:FragD):Bool:=zQ f.nm (yf d f.sels)
theorem zrv (d:DocD) (f:FragD) (hf:f∈d.frags) (hb:Zd d≤Lim):zg Tryz.prog 85 [.agg (cF f),.view (zX d)] (.bool (zgy d f)):=by
 have h1:=zbC hf
 have h2:=zaq f
 have h0:bFs d.frags≤zw d:=by simp only[zw];omega
 have hb2:=hb
 simp only[Zd] at hb2
 have hR:=fun H=>zhj d f.sels H (by omega)
 have hlen:=zcb d f.sels
 have hC:=yR (yf d f.sels) f.nm (by omega)
 unfold zgy
 generalize yf d f.sels=R at *
 generalize zQ f.nm R=x1 at *
 obtain⟨nm,on,ds,ss⟩:=f
 obtain⟨ops,frags⟩:=d
 simp only[zX] at hR hC ⊢
 refine zg.go ir85 ck85 (Al4 _) fun KP Q hQ=>?_
 simp(disch:=omega) only[ir85,Z3,go_sem]
 refine zB (hR _) fun o2 H2 hs2=>?_
 simp(disch:=omega) only[go_sem]
 refine za (zg.low hC) ?_
 simp(disch:=omega) only[go_sem]
 exact hQ _ _ _ _ nofun rfl (by simp[zd,ze,AV.strip,AV.strip1])
def zbJ (d:DocD):Bool:=d.frags.any (zgy d)
theorem zo5 (d:DocD) (hb:Zd d≤Lim):zg Tryz.prog 45 [.agg (zX d)] (.bool (zbJ d)):=by
 have hfl:=yM d.frags
 have h0:bFs d.frags≤zw d:=by simp only[zw];omega
 have hb2:=hb
 simp only[Zd] at hb2
 have h1:=zmX cF (fun _=>rfl) d.frags 85 [.view (zX d)] (zgy d) (by omega) (by kernel_rfl) fun f hf=>zrv d f hf hb
 unfold zbJ
 generalize d.frags.any (zgy d)=x1 at *
 obtain⟨ops,frags⟩:=d
 simp only[zX] at h1 ⊢
 refine zg.go ir45 ck45 (Al4 _) fun KP Q hQ=>?_
 simp(disch:=omega) only[ir45,go_sem]
 refine za h1 ?_
 simp(disch:=omega) only[go_sem]
 exact hQ _ _ _ _ nofun rfl (by simp[zd,ze,AV.strip,AV.strip1])
theorem zrT {H H':zc} {o':Own} {n sz:Nat} (h:OwnS H .nil H' o' n sz):Low H H':=Low.of_sub fun b o hb=>h.kept b o hb fun d e=>by cases e
theorem zqi (d:DocD) (n:List UInt8) (b:Nat) (H:zc) (hb:H b=some (.cells (zX d))) (hl:d.frags.length≤Lim):zj Tryz.prog 84 [.str n,.ptr b 0] H (At (.bool (!(zC d n).isSome)) H):=by
 have h1:=zkK d n hl
 cases hf:zC d n with
 | none =>
  rw[hf] at h1
  obtain⟨ops,frags⟩:=d
  simp only[zX] at h1 hb
  refine zj.go ir84 ck84 (Al4 _) fun KP Q hQ=>?_
  simp(disch:=omega) only[ir84,hb,go_sem]
  refine za h1 ?_
  simp(disch:=omega) only[Option.getD,Option.isSome,zFr,Z3,go_sem]
  refine zb fun b4 hb4=>?_
  simp(disch:=omega) only[go_sem]
  exact hQ _ _ _ H _ nofun rfl ((Low.refl _).upd hb4) ⟨rfl,rfl⟩
 | some f =>
  rw[hf] at h1
  obtain⟨nm,on,ds,ss⟩:=f
  obtain⟨ops,frags⟩:=d
  simp only[zX] at h1 hb
  refine zj.go ir84 ck84 (Al4 _) fun KP Q hQ=>?_
  simp(disch:=omega) only[ir84,hb,go_sem]
  refine za h1 ?_
  simp(disch:=omega) only[Option.getD,Option.isSome,Z3,go_sem]
  refine zb fun b4 hb4=>?_
  simp(disch:=omega) only[go_sem]
  exact hQ _ _ _ H _ nofun rfl ((Low.refl _).upd hb4) ⟨rfl,rfl⟩
def zhZ (d:DocD) (l:List SelD):Bool:=(yK l []).any fun n=>!(zC d n).isSome
theorem zrK (d:DocD) (l:List SelD) (b:Nat) (H:zc) (hb:H b=some (.cells (zX d))) (hl:d.frags.length≤Lim) (hs:bSs l≤Lim):zj Tryz.prog 82 [.sl .no 7 (cSs l),.ptr b 0] H (At (.bool (zhZ d l)) H):=by
 have h1:=zsY l [] .nil H (by simpa using hs) rfl
 have hln:=zec l []
 simp only[Al3] at hln
 have hnil:cT []=[]:=rfl
 rw[hnil] at h1
 have h2:=fun H2 (h:H2 b=some (.cells (zX d)))=>zeP (fun n:List UInt8=>AV.str n) (yK l []) 84 [.ptr b 0] (fun n=>!(zC d n).isSome) H2 (by omega) (by kernel_rfl) fun n _=>zqi d n b H2 h hl
 unfold zhZ
 generalize ((yK l []).any fun n=>!(zC d n).isSome)=x1 at *
 refine zj.go ir82 ck82 (Al4 _) fun KP Q hQ=>?_
 simp(disch:=omega) only[ir82,go_sem]
 refine zB h1 fun o2 H2 hs2=>?_
 have h3:H2 b=some (.cells (zX d)):=hs2.kept b _ hb fun d e=>by cases e
 simp(disch:=omega) only[go_sem]
 have h4:=zj.low (args:=[.sl o2 1 (cT (yK l [])),.clo 84 [] [.ptr b 0]]) (h2 H2 h3)
 refine z7 h4 ?_
 rintro _ _ ⟨_,rfl,rfl,rfl⟩
 simp(disch:=omega) only[ZP,go_sem]
 exact hQ _ _ _ H _ nofun rfl (zrT hs2) ⟨rfl,rfl⟩
def zgX (d:DocD):Bool:=!(ya d).any (zhZ d)
theorem zsX (d:DocD) (hb:zw d≤Lim):zg Tryz.prog 44 [.agg (zX d)] (.bool (zgX d)):=by
 have hfl:=yM d.frags
 have hbd:bOs d.ops+bFs d.frags≤Lim:=hb
 have h1:=fun H=>zot d H hb
 have h2:=fun b H2 (h:H2 b=some (.cells (zX d)))=>zp3 (fun l:List SelD=>AV.sl .no 7 (cSs l)) (ya d) 82 [.ptr b 0] (zhZ d) H2 (by have:=zgw d;omega) (by kernel_rfl) fun l hl=>zrK d l b H2 h (by omega) (by have:=zcs hl;omega)
 unfold zgX
 generalize (ya d).any (zhZ d)=x1 at *
 have hcd:zX d=[.sl .no 5 (cOs d.ops),.sl .no 4 (cFs d.frags)]:=rfl
 rw[hcd] at h1 h2 ⊢
 refine zg.go ir44 ck44 (Al4 _) fun KP Q hQ=>?_
 simp(disch:=omega) only[ir44,go_sem]
 refine zb fun b1 hb1=>?_
 simp(disch:=omega) only[go_sem]
 refine zB (h1 _) fun o2 H2 hs2=>?_
 have h3:=hs2.kept b1 _ (upd_same ..) fun d e=>by cases e
 simp(disch:=omega) only[go_sem]
 have h4:=zj.low (args:=[.sl o2 1 (cLL (ya d)),.clo 82 [] [.ptr b1 0]]) (h2 b1 H2 h3)
 refine z7 h4 ?_
 rintro _ _ ⟨_,rfl,rfl,rfl⟩
 simp(disch:=omega) only[ZP,go_sem]
 exact hQ _ _ _ _ nofun rfl (by simp[zd,ze,AV.strip,AV.strip1])
def y6 (R:List (List UInt8)) (l:List (List UInt8)) (f:FragD):List (List UInt8):=if zQ f.nm R=true∧zQ f.nm l=false then l++[f.nm] else l
def y9 (d:DocD) (sels:List SelD):List (List UInt8):=d.frags.foldl (y6 (yf d sels)) []
theorem zkX (d:DocD) (sels:List SelD) (H:zc) (hb:Zd d≤Lim) (hs:bSs sels≤zw d):Y8 Tryz.prog 11 [.agg (zX d),.sl .no 7 (cSs sels)] H .nil 1 (cT (y9 d sels)):=by
 have h0:bFs d.frags≤zw d:=by simp only[zw];omega
 have hb2:=hb
 simp only[Zd] at hb2
 have hR:=fun H=>zhj d sels H (by omega)
 have hRl:=zcb d sels
 have hb3:2*(zw d+zw d)≤1099511627776:=by simpa only[Lim] using hb2
 have e0:y9 d sels=d.frags.foldl (y6 (yf d sels)) []:=rfl
 have hC:=fun n=>yR (yf d sels) n (by omega)
 generalize y9 d sels=F at *
 generalize yf d sels=R at *
 have hfl:=yM d.frags
 obtain⟨ops,frags⟩:=d
 simp only[zX] at hR e0 hfl h0 ⊢
 have l1:=Ye frags
 refine zj.goO ir11 ck11 (Al4 _) fun KP Q hQ hP=>?_
 simp(disch:=omega) only[ir11,go_sem]
 refine zB (hR _) fun o0 H0 hs0=>?_
 simp(disch:=omega) only[l1,go_sem]
 refine zf frags 15 (fun x:Own×List (List UInt8)=>[(6,.sl x.1 1 (cT x.2))]) (fun done rest x H'=>rest.foldl (y6 R) x.2=frags.foldl (y6 R) []∧x.2.length≤done.length∧OwnS H .nil H' x.1 x.2.length 1) (.nil,[]) (by simp(disch:=omega) only[cT,List.map,go_sem]) ⟨rfl,Al4 _,⟨rfl,hs0.kept,fun b d e=>by cases e⟩⟩ ?_ ?_
 ·rintro⟨o1,a⟩ H1 J ⟨hn,_,hs1⟩ hlt
  simp only[List.foldl] at hn
  simp(disch:=omega) only[l1,hlt,go_sem]
  refine hQ _ _ H1 H1 [.sl o1 1 (cT a)] nofun (by simp(disch:=omega) only[ir11,zN,Zv,go_sem]) (Low.refl _) ⟨o1,by rw[e0,← hn];rfl,by rw[e0,← hn,zK];exact hs1⟩
 ·rintro done x rest ⟨o1,a⟩ H1 J hd hlt _ ⟨hn,hle,hs1⟩ hJ
  have hg:=Yt hd
  simp only[List.foldl] at hn
  simp only at hle
  replace hs1:OwnS H .nil H1 o1 a.length 1:=hs1
  have h3:=zK a
  obtain⟨nm,on,ds,ss⟩:=x
  have ha:=yR a nm (by simp only[Lim];omega)
  have hst:y6 R a ⟨nm,on,ds,ss⟩=if zQ nm R=true∧zQ nm a=false then a++[nm] else a:=rfl
  rw[Z3] at hg
  simp(disch:=omega) only[l1,hlt,hg,go_sem]
  refine zb fun b8 hb8=>?_
  have hsu:=hs1.upd (x:=.cells [.str nm,.str on,.sl .no 2 (cDs ds),.sl .no 7 (cSs ss)]) hb8
  simp(disch:=omega) only[go_sem]
  refine za (zg.low (hC nm)) ?_
  cases hh:zQ nm R with
  | false =>
   rw[if_neg (by simp[hh])] at hst
   rw[hst] at hn
   simp(disch:=omega) only[go_sem]
   exact goJ (hJ (o1,a) _ ⟨hn,by simp only[Al5,Al2,Al3];omega,hsu⟩) (by simp(disch:=omega) only[wrap64,go_sem])
  | true =>
  simp(disch:=omega) only[go_sem]
  refine za (zg.low ha) ?_
  cases hh2:zQ nm a with
  | true =>
   rw[if_neg (by simp[hh2])] at hst
   rw[hst] at hn
   simp(disch:=omega) only[go_sem]
   exact goJ (hJ (o1,a) _ ⟨hn,by simp only[Al5,Al2,Al3];omega,hsu⟩) (by simp(disch:=omega) only[wrap64,go_sem])
  | false =>
   rw[if_pos ⟨hh,hh2⟩] at hst
   rw[hst] at hn
   simp(disch:=omega) only[go_sem]
   refine zu (by rw[h3];exact hsu.own) ?_ ?_ fun o' H3 hs2=>?_
   ·simp only[h3,Al2,Al3];omega
   ·simp only[h3,Al2,Al3,maxLen];omega
   have e1:cT a++[[AV.str nm]]=cT (a++[nm]):=by simp[cT]
   have hs3:=hsu.trans hs2
   simp only[h3,Al2,Al3] at hs3
   simp(disch:=omega) only[wrap64,e1,go_sem]
   exact goJ (hJ (o',a++[nm]) H3 ⟨hn,by simp only[Al5,Al2,Al3];omega,by simpa using hs3⟩) (by simp(disch:=omega) only[wrap64,go_sem])
def zpR (s:SchD) (a b:List UInt8):Bool:=(zbm s a).any fun x=>zQ x (zbm s b)
theorem zvE (s:SchD) (a b:List UInt8) (hb:zJ s+1≤Lim):zg Tryz.prog 91 [.agg (zq s),.str a,.str b] (.bool (zpR s a b)):=by
 have h1:=zpA s a (by omega)
 have h2:=zpA s b (by omega)
 have m1:=zgu s a
 have m2:=zgu s b
 have hb':zJ s+1≤1099511627776:=by simpa only[Lim] using hb
 have e0:zpR s a b=(zbm s a).any fun x=>zQ x (zbm s b):=rfl
 generalize zpR s a b=F at *
 generalize zbm s a=la at *
 generalize zbm s b=lb at *
 have l1:=zK la
 have l2:=zK lb
 obtain⟨sd,sq,sm⟩:=s
 simp only[zq] at h1 h2 ⊢
 refine zg.go ir91 ck91 (Al4 _) fun KP Q hQ=>?_
 simp(disch:=omega) only[ir91,go_sem]
 refine za h2 ?_
 simp(disch:=omega) only[go_sem]
 refine za h1 ?_
 simp(disch:=omega) only[l1,go_sem]
 refine zf la 20 (fun _:Unit=>[]) (fun done rest _ H=>(rest.any fun x=>zQ x lb)=la.any fun x=>zQ x lb) () (by simp(disch:=omega) only[go_sem]) rfl ?_ ?_
 ·rintro _ H J hn hlt
  simp(disch:=omega) only[l1,hlt,go_sem]
  exact hQ _ _ _ [.bool false] nofun rfl (by rw[e0,← hn];rfl)
 ·rintro done x rest _ H J hd hlt _ hn hJ
  have hg:=ZZ hd
  rw[List.any_cons] at hn
  simp(disch:=omega) only[l1,hlt,l2,hg,go_sem]
  refine zf lb 26 (fun _:Unit=>[]) (fun done rest _ H=>zQ x rest=zQ x lb) () (by simp(disch:=omega) only[go_sem]) rfl ?_ ?_
  ·rintro _ H2 J2 hn2 hlt2
   rw[← hn2] at hn
   simp(disch:=omega) only[l2,hlt2,go_sem]
   exact goJ (hJ () _ (by simpa[zQ] using hn)) (by simp(disch:=omega) only[wrap64,go_sem])
  ·rintro done2 y rest2 _ H2 J2 hd2 hlt2 _ hn2 hJ2
   have hg2:=ZZ hd2
   simp only[zQ] at hn2
   by_cases hxy:y=x
   ·rw[if_pos hxy] at hn2
    rw[← hn2] at hn
    have hxy':(x=y)=True:=eq_true hxy.symm
    simp(disch:=omega) only[l1,hlt,l2,hlt2,hg,hg2,hxy',go_sem]
    exact hQ _ _ _ [.bool true] nofun rfl (by rw[e0,← hn];rfl)
   ·rw[if_neg hxy] at hn2
    have hxy':¬ x=y:=fun h=>hxy h.symm
    simp(disch:=omega) only[l1,hlt,l2,hlt2,hg,hg2,hxy',go_sem]
    exact goJ (hJ2 () _ hn2) (by simp(disch:=omega) only[wrap64,go_sem])
def ZQ (s:SchD) (o:OpD):List UInt8:=if o.k=1 then s.m else s.q
theorem zpO (s:SchD) (o:OpD):zg Tryz.prog 66 [.agg (zq s),.agg (cO o)] (.str (ZQ s o)):=by
 obtain⟨k,nm,vs,ds,ss⟩:=o
 obtain⟨sd,sq,sm⟩:=s
 simp only[zq,YO]
 refine zg.go ir66 ck66 (Al4 _) fun KP Q hQ=>?_
 by_cases hk:k=1
 ·subst hk
  simp(disch:=omega) only[ir66,go_sem]
  exact hQ _ _ _ _ nofun rfl (by simp[zd,ze,AV.strip,AV.strip1,ZQ])
 ·simp(disch:=omega) only[ir66,hk,go_sem]
  exact hQ _ _ _ _ nofun rfl (by simp[zd,ze,AV.strip,AV.strip1,ZQ,hk])
def zO (s:SchD) (typ:List UInt8):SelD→List UInt8
 | .mk k _ nm _ _ on _=>if k=0 then ((yw s typ nm).getD zF).t.nm else if k=2 then (if on=[] then typ else on) else []
theorem zf0 (s:SchD) (typ:List UInt8) (x:SelD) (hb:zJ s≤Lim):zg Tryz.prog 89 [.agg (zq s),.str typ,.agg (cS x)] (.str (zO s typ x)):=by
 obtain⟨k,al,nm,args,dirs,on,xs⟩:=x
 have h1:=zfq s typ nm hb
 simp only[zO]
 generalize (yw s typ nm).isSome=fs at *
 generalize (yw s typ nm).getD zF=f at *
 obtain⟨fn,fp,⟨f1,f2,f3⟩,fd⟩:=f
 obtain⟨sd,sq,sm⟩:=s
 simp only[zq,zaB,Zb] at h1 ⊢
 refine zg.go ir89 ck89 (Al4 _) fun KP Q hQ=>?_
 by_cases h0:k=0
 ·subst h0
  simp(disch:=omega) only[ir89,go_sem]
  refine za h1 ?_
  simp(disch:=omega) only[go_sem]
  refine zb fun b7 hb7=>?_
  simp(disch:=omega) only[go_sem]
  exact hQ _ _ _ _ nofun rfl (by simp[zd,ze,AV.strip,AV.strip1])
 by_cases h2:k=2
 ·subst h2
  by_cases ho:on=[]
  ·have ho':=eq_true ho
   simp(disch:=omega) only[ir89,ho',go_sem]
   exact hQ _ _ _ _ nofun rfl (by simp[zd,ze,AV.strip,AV.strip1,ho])
  ·simp(disch:=omega) only[ir89,ho,go_sem]
   exact hQ _ _ _ _ nofun rfl (by simp[zd,ze,AV.strip,AV.strip1,ho])
 ·simp(disch:=omega) only[ir89,h0,h2,go_sem]
  exact hQ _ _ _ _ nofun rfl (by simp[zd,ze,AV.strip,AV.strip1,h0,h2])
def ziS (s:SchD) (typ:List UInt8):SelD→Bool
 | .mk k _ nm _ _ _ _=>!decide (k=0)||(yw s typ nm).isSome
theorem zt6 (s:SchD) (typ:List UInt8) (x:SelD) (hb:zJ s≤Lim):zg Tryz.prog 49 [.agg (zq s),.str typ,.agg (cS x)] (.bool (ziS s typ x)):=by
 obtain⟨k,al,nm,args,dirs,on,xs⟩:=x
 have h1:=zfq s typ nm hb
 simp only[ziS]
 generalize (yw s typ nm).isSome=fs at *
 generalize (yw s typ nm).getD zF=f at *
 obtain⟨fn,fp,⟨f1,f2,f3⟩,fd⟩:=f
 obtain⟨sd,sq,sm⟩:=s
 simp only[zq,zaB,Zb] at h1 ⊢
 refine zg.go ir49 ck49 (Al4 _) fun KP Q hQ=>?_
 by_cases h0:k=0
 ·subst h0
  simp(disch:=omega) only[ir49,go_sem]
  refine za h1 ?_
  simp(disch:=omega) only[go_sem]
  refine zb fun b7 hb7=>?_
  simp(disch:=omega) only[go_sem]
  exact hQ _ _ _ _ nofun rfl (by simp[zd,ze,AV.strip,AV.strip1])
 ·simp(disch:=omega) only[ir49,h0,go_sem]
  refine za h1 ?_
  simp(disch:=omega) only[go_sem]
  refine zb fun b7 hb7=>?_
  simp(disch:=omega) only[h0,go_sem]
  exact hQ _ _ _ _ nofun rfl (by simp[zd,ze,AV.strip,AV.strip1,h0])
mutual
def zoe (s:SchD) (p:List UInt8→SelD→Bool) (typ:List UInt8):SelD→Bool
 | .mk k al nm args dirs on sels=>p typ (.mk k al nm args dirs on sels)&&YE s p (zO s typ (.mk k al nm args dirs on [])) sels
def YE (s:SchD) (p:List UInt8→SelD→Bool) (typ:List UInt8):List SelD→Bool
 | []=>true
 | x::r=>zoe s p typ x&&YE s p typ r
end
theorem ziQ (s:SchD) (typ:List UInt8) (k:Int) (al nm:List UInt8) (args:List Mem) (dirs:List DirD) (on:List UInt8) (xs ys:List SelD):zO s typ (.mk k al nm args dirs on xs)=zO s typ (.mk k al nm args dirs on ys):=rfl
def zpV (f:FuncId) (caps:List AV) (p:List UInt8→SelD→Bool) (B:Nat):Prop:=Program.callable Tryz.prog f=true∧∀ typ x,bS x≤B→zg Tryz.prog f (.str typ::.agg (cS x)::caps) (.bool (p typ x))
def zp8 (s:SchD) (f:FuncId) (caps:List AV) (p:List UInt8→SelD→Bool) (B:Nat) (sels:List SelD):Prop:=∀ typ,bSs sels≤B→zg Tryz.prog 87 [.agg (zq s),.str typ,.sl .no 7 (cSs sels),.clo f [] caps] (.bool (YE s p typ sels))
theorem zmr (s:SchD) (f:FuncId) (caps:List AV) (p:List UInt8→SelD→Bool) (B:Nat) (hs:zJ s≤Lim) (hB:B≤Lim) (hf:zpV f caps p B) (sels:List SelD) (ih:∀ k al nm args dirs on xs,SelD.mk k al nm args dirs on xs∈sels→zp8 s f caps p B xs):zp8 s f caps p B sels:=by
 intro typ hb
 have hsl:=YT sels
 have hB':B≤1099511627776:=by simpa only[Lim] using hB
 have h1:=YS sels
 have hW:=fun x=>zf0 s typ x hs
 have hih:=fun k al nm args dirs on xs (h:SelD.mk k al nm args dirs on xs∈sels) (hb:bSs xs≤B)=>ih k al nm args dirs on xs h (zO s typ (.mk k al nm args dirs on xs)) hb
 obtain⟨sd,sq,sm⟩:=s
 generalize hS:(⟨sd,sq,sm⟩:SchD)=s at *
 have hcs:zq s=[.sl .no 6 (cEs sd),.str sq,.str sm]:=by rw[← hS];rfl
 simp only[hcs] at hW hih ⊢
 refine zg.go ir87 ck87 (Al4 _) fun KP Q hQ=>?_
 simp(disch:=omega) only[ir87,h1,go_sem]
 refine zf sels 14 (fun _:Unit=>[(9,.bool true)]) (fun done rest _ H=>YE s p typ rest=YE s p typ sels) () (by simp(disch:=omega) only[go_sem]) rfl ?_ ?_
 ·rintro _ H J hn hlt
  simp(disch:=omega) only[h1,hlt,go_sem]
  exact hQ _ _ _ [.bool true] nofun rfl (by rw[← hn];rfl)
 ·rintro done x rest _ H J hd hlt _ hn hJ
  have hg:=zao hd
  have hmem:x∈sels:=by rw[hd];simp
  have hbx:=zmq hmem
  have hfx:=hf.2 typ x (by omega)
  have hWx:=hW x
  rw[YE] at hn
  obtain⟨k,al,nm,args,dirs,on,xs⟩:=x
  have hx2:=hih _ _ _ _ _ _ _ hmem (by simp only[bS] at hbx;omega)
  rw[zoe,ziQ s typ k al nm args dirs on [] xs] at hn
  generalize zO s typ (.mk k al nm args dirs on xs)=t2 at *
  generalize p typ (.mk k al nm args dirs on xs)=x1 at *
  generalize YE s p t2 xs=x2 at *
  rw[Zb] at hg hfx hWx
  simp(disch:=omega) only[h1,hlt,hg,go_sem]
  refine zb fun b11 hb11=>?_
  simp(disch:=omega) only[go_sem]
  refine⟨hf.1,za hfx ?_⟩
  cases x1 with
  | false =>
   simp(disch:=omega) only[go_sem]
   exact hQ _ _ _ [.bool false] nofun rfl (by rw[← hn];rfl)
  | true =>
   simp(disch:=omega) only[go_sem]
   refine za hWx ?_
   simp(disch:=omega) only[go_sem]
   refine za hx2 ?_
   cases x2 with
   | false =>
    simp(disch:=omega) only[go_sem]
    exact hQ _ _ _ [.bool false] nofun rfl (by rw[← hn];rfl)
   | true =>
    simp(disch:=omega) only[go_sem]
    exact goJ (hJ () _ (by simpa using hn)) (by simp(disch:=omega) only[wrap64,go_sem])
theorem zud (s:SchD) (f:FuncId) (caps:List AV) (p:List UInt8→SelD→Bool) (B:Nat) (hs:zJ s≤Lim) (hB:B≤Lim) (hf:zpV f caps p B) (sels:List SelD):zp8 s f caps p B sels:=by
 have h:∀ x:SelD,∀ k al nm args dirs on xs,x=.mk k al nm args dirs on xs→zp8 s f caps p B xs:=SelD.ind fun k al nm args dirs on sels ih=>by
  intro k' al' nm' args' dirs' on' xs e
  cases e
  exact zmr s f caps p B hs hB hf sels fun k al nm args dirs on xs hm=>ih _ hm _ _ _ _ _ _ _ rfl
 exact zmr s f caps p B hs hB hf sels fun k al nm args dirs on xs _=>h _ k al nm args dirs on xs rfl
def ZG (s:SchD) (d:DocD) (p:List UInt8→SelD→Bool):Bool:=(d.ops.all fun o=>YE s p (ZQ s o) o.sels)&&d.frags.all fun f=>YE s p f.on f.sels
theorem zpY (s:SchD) (d:DocD) (f:FuncId) (caps:List AV) (p:List UInt8→SelD→Bool) (hs:zJ s≤Lim) (hb:zw d≤Lim) (hf:zpV f caps p (zw d)) :
  zg Tryz.prog 47 [.agg (zq s),.agg (zX d),.clo f [] caps] (.bool (ZG s d p)):=by
 have hA:=fun sels=>zud s f caps p (zw d) hs hb hf sels
 have hR:=fun o=>zpO s o
 have hb':bOs d.ops+bFs d.frags≤1099511627776:=by simpa only[Lim,zw] using hb
 have hol:=Zo d.ops
 have hfl:=yM d.frags
 have l1:=Z2 d.ops
 have l2:=Ye d.frags
 have hop:=fun(o:OpD) (ho:o∈d.ops)=>(by
  obtain⟨a,b,hd⟩:=List.append_of_mem ho
  have:=YW a o b
  rw[← hd] at this
  simp only[bO] at this;simp only[zw];omega:bSs o.sels≤zw d)
 have hfr:=fun(f:FragD) (h:f∈d.frags)=>(by have:=zbC h;have:=zaq f;simp only[zw];omega:bSs f.sels≤zw d)
 have e0:ZG s d p=((d.ops.all fun o=>YE s p (ZQ s o) o.sels)&&d.frags.all fun f=>YE s p f.on f.sels):=rfl
 generalize ZG s d p=F at *
 obtain⟨ops,frags⟩:=d
 simp only at l1 l2 hol hfl hb' hop hfr e0
 obtain⟨sd,sq,sm⟩:=s
 generalize hS:(⟨sd,sq,sm⟩:SchD)=s at *
 have hcs:zq s=[.sl .no 6 (cEs sd),.str sq,.str sm]:=by rw[← hS];rfl
 unfold zp8 at hA
 simp only[hcs,zX] at hA hR ⊢
 refine zg.go ir47 ck47 (Al4 _) fun KP Q hQ=>?_
 have fin:∀ r,F=r→∀ ρ H,zN ρ H ir47.res=some [.bool r]→Q .ret ρ H:=fun r e ρ H h1=>hQ _ ρ H _ nofun h1 (by rw[e];rfl)
 simp(disch:=omega) only[ir47,l1,go_sem]
 refine zf ops 14 (fun _:Unit=>[]) (fun done rest _ H=>(rest.all fun o=>YE s p (ZQ s o) o.sels)=ops.all fun o=>YE s p (ZQ s o) o.sels) () (by simp(disch:=omega) only[go_sem]) rfl ?_ ?_
 ·rintro _ H J hn hlt
  simp(disch:=omega) only[l1,hlt,l2,go_sem]
  refine zf frags 31 (fun _:Unit=>[]) (fun done rest _ H=>(rest.all fun f=>YE s p f.on f.sels)=frags.all fun f=>YE s p f.on f.sels) () (by simp(disch:=omega) only[go_sem]) rfl ?_ ?_
  ·rintro _ H J hn2 hlt
   simp(disch:=omega) only[l2,hlt,go_sem]
   exact fin true (by rw[e0,← hn,← hn2];rfl) _ _ rfl
  ·rintro done x rest _ H J hd hlt _ hn2 hJ
   have hg:=Yt hd
   have hx:=hA x.sels x.on (hfr x (by rw[hd];simp))
   rw[List.all_cons] at hn2
   obtain⟨nm,on,ds,ss⟩:=x
   simp only at hx hn2
   rw[Z3] at hg
   simp(disch:=omega) only[l2,hlt,hg,go_sem]
   refine zb fun b10 hb10=>?_
   simp(disch:=omega) only[go_sem]
   refine za hx ?_
   cases hv:YE s p on ss with
   | false =>
    rw[hv] at hn2
    simp(disch:=omega) only[go_sem]
    exact fin false (by rw[e0,← hn2];simp) _ _ rfl
   | true =>
    rw[hv] at hn2
    simp(disch:=omega) only[go_sem]
    exact goJ (hJ () _ (by simpa using hn2)) (by simp(disch:=omega) only[wrap64,go_sem])
 ·rintro done x rest _ H J hd hlt _ hn hJ
  have hg:=Yc hd
  have hx:=hA x.sels (ZQ s x) (hop x (by rw[hd];simp))
  have hr:=hR x
  rw[List.all_cons] at hn
  generalize ZQ s x=rt at *
  obtain⟨k,nm,vs,ds,ss⟩:=x
  simp only at hx hn
  rw[YO] at hg hr
  simp(disch:=omega) only[l1,hlt,hg,go_sem]
  refine zb fun b8 hb8=>?_
  simp(disch:=omega) only[go_sem]
  refine za hr ?_
  simp(disch:=omega) only[go_sem]
  refine za hx ?_
  cases hv:YE s p rt ss with
  | false =>
   rw[hv] at hn
   simp(disch:=omega) only[go_sem]
   exact fin false (by rw[e0,← hn];simp) _ _ rfl
  | true =>
   rw[hv] at hn
   simp(disch:=omega) only[go_sem]
   exact goJ (hJ () _ (by simpa using hn)) (by simp(disch:=omega) only[wrap64,go_sem])
def zmd (s:SchD) (typ:List UInt8):SelD→Bool
 | .mk k al nm args dirs on sels=>!decide (k=0)||((!zaC s (zO s typ (.mk k al nm args dirs on sels))&&!ZW s (zO s typ (.mk k al nm args dirs on sels))) ||
  (ZW s (zO s typ (.mk k al nm args dirs on sels))==decide (0<sels.length)))
theorem zt4 (s:SchD) (typ:List UInt8) (x:SelD) (hb:zJ s≤Lim):zg Tryz.prog 50 [.agg (zq s),.str typ,.agg (cS x)] (.bool (zmd s typ x)):=by
 have hw:=zf0 s typ x hb
 have hl:=yc hb
 have h1:=zkA s (zO s typ x) hl
 have h2:=zgc s (zO s typ x) hl
 obtain⟨k,al,nm,args,dirs,on,xs⟩:=x
 simp only[zmd]
 generalize zO s typ (.mk k al nm args dirs on xs)=t at *
 generalize zaC s t=x1 at *
 generalize ZW s t=x2 at *
 have hx:=YS xs
 obtain⟨sd,sq,sm⟩:=s
 simp only[zq,Zb] at hw h1 h2 ⊢
 refine zg.go ir50 ck50 (Al4 _) fun KP Q hQ=>?_
 by_cases h0:k=0
 case neg =>
  simp(disch:=omega) only[ir50,h0,go_sem]
  exact hQ _ _ _ _ nofun rfl (by simp[zd,ze,AV.strip,AV.strip1,h0])
 subst h0
 simp(disch:=omega) only[ir50,go_sem]
 refine za hw ?_
 simp(disch:=omega) only[go_sem]
 refine za h1 ?_
 cases x1 with
 | true =>
  simp(disch:=omega) only[hx,go_sem]
  refine za h2 ?_
  simp(disch:=omega) only[hx,go_sem]
  exact hQ _ _ _ _ nofun rfl (by cases x2<;>by_cases h:(0:Int)<xs.length<;>simp_all [zd,ze,AV.strip,AV.strip1])
 | false =>
  simp(disch:=omega) only[hx,go_sem]
  refine za h2 ?_
  cases x2 with
  | false =>
   simp(disch:=omega) only[hx,go_sem]
   exact hQ _ _ _ _ nofun rfl (by simp[zd,ze,AV.strip,AV.strip1])
  | true =>
   simp(disch:=omega) only[hx,go_sem]
   refine za h2 ?_
   simp(disch:=omega) only[hx,go_sem]
   exact hQ _ _ _ _ nofun rfl (by by_cases h:(0:Int)<xs.length<;>simp_all [zd,ze,AV.strip,AV.strip1])
def zbx (s:SchD) (d:DocD) (typ:List UInt8):SelD→Bool
 | .mk k _ nm _ _ on _=>if k=2 then decide (on=[])||zpR s typ on else if k=1 then zpR s typ ((zC d nm).getD zFr).on else true
theorem zuc (s:SchD) (d:DocD) (typ:List UInt8) (x:SelD) (hb:zJ s+1≤Lim) (hd:d.frags.length≤Lim):zg Tryz.prog 51 [.agg (zq s),.agg (zX d),.str typ,.agg (cS x)] (.bool (zbx s d typ x)):=by
 have hm:=fun n=>zvE s typ n hb
 obtain⟨k,al,nm,args,dirs,on,xs⟩:=x
 have hf:=zkK d nm hd
 simp only[zbx]
 generalize (zC d nm).isSome=fs at *
 generalize (zC d nm).getD zFr=f at *
 obtain⟨fn,fo,fd,fss⟩:=f
 obtain⟨ops,frags⟩:=d
 obtain⟨sd,sq,sm⟩:=s
 simp only[zq,zX,Zb,Z3] at hm hf ⊢
 refine zg.go ir51 ck51 (Al4 _) fun KP Q hQ=>?_
 by_cases h2:k=2
 ·subst h2
  by_cases ho:on=[]
  ·have ho':=eq_true ho
   simp(disch:=omega) only[ir51,ho',go_sem]
   exact hQ _ _ _ _ nofun rfl (by simp[zd,ze,AV.strip,AV.strip1,ho])
  ·simp(disch:=omega) only[ir51,ho,go_sem]
   refine za (hm on) ?_
   simp(disch:=omega) only[go_sem]
   exact hQ _ _ _ _ nofun rfl (by simp[zd,ze,AV.strip,AV.strip1,ho])
 by_cases h1:k=1
 ·subst h1
  simp(disch:=omega) only[ir51,go_sem]
  refine za hf ?_
  simp(disch:=omega) only[go_sem]
  refine zb fun b10 hb10=>?_
  simp(disch:=omega) only[go_sem]
  refine za (hm fo) ?_
  simp(disch:=omega) only[go_sem]
  exact hQ _ _ _ _ nofun rfl (by simp[zd,ze,AV.strip,AV.strip1])
 ·simp(disch:=omega) only[ir51,h1,h2,go_sem]
  exact hQ _ _ _ _ nofun rfl (by simp[zd,ze,AV.strip,AV.strip1,h1,h2])
def zho (s:SchD) (d:DocD) (n:Int) (typ:List UInt8) (x:SelD):Bool:=if n=9 then ziS s typ x else if n=10 then zmd s typ x else if n=11 then zbx s d typ x else false
theorem znN (s:SchD) (d:DocD) (n:Int) (hb:zJ s+1≤Lim) (hd:d.frags.length≤Lim) (typ:List UInt8) (x:SelD):zg Tryz.prog 48 [.str typ,.agg (cS x),.view [.int .i64 n],.view (zq s),.view (zX d)] (.bool (zho s d n typ x)):=by
 have h1:=zt6 s typ x (by omega)
 have h2:=zt4 s typ x (by omega)
 have h3:=zuc s d typ x hb hd
 unfold zho
 generalize ziS s typ x=x1 at *
 generalize zmd s typ x=x2 at *
 generalize zbx s d typ x=x3 at *
 obtain⟨k,al,nm,args,dirs,on,xs⟩:=x
 obtain⟨ops,frags⟩:=d
 obtain⟨sd,sq,sm⟩:=s
 simp only[zq,zX,Zb] at h1 h2 h3 ⊢
 refine zg.go ir48 ck48 (Al4 _) fun KP Q hQ=>?_
 by_cases n1:n=9
 ·subst n1
  simp(disch:=omega) only[ir48,go_sem]
  refine za h1 ?_
  simp(disch:=omega) only[go_sem]
  exact hQ _ _ _ _ nofun rfl (by simp[zd,ze,AV.strip,AV.strip1])
 by_cases n2:n=10
 ·subst n2
  simp(disch:=omega) only[ir48,go_sem]
  refine za h2 ?_
  simp(disch:=omega) only[go_sem]
  exact hQ _ _ _ _ nofun rfl (by simp[zd,ze,AV.strip,AV.strip1])
 by_cases n3:n=11
 ·subst n3
  simp(disch:=omega) only[ir48,go_sem]
  refine za h3 ?_
  simp(disch:=omega) only[go_sem]
  exact hQ _ _ _ _ nofun rfl (by simp[zd,ze,AV.strip,AV.strip1])
 ·simp(disch:=omega) only[ir48,n1,n2,n3,go_sem]
  exact hQ _ _ _ _ nofun rfl (by simp[zd,ze,AV.strip,AV.strip1,n1,n2,n3])
def zaE (s:SchD) (d:DocD) (n:Int):Bool:=ZG s d (zho s d n)&&(decide (9≤n)&&decide (n≤11))
theorem zpM (s:SchD) (d:DocD) (n:Int) (hb:zJ s+1≤Lim) (hd:zw d≤Lim):zg Tryz.prog 18 [.agg (zq s),.agg (zX d),.int .i64 n] (.bool (zaE s d n)):=by
 have hfl:=yM d.frags
 have hbd:bOs d.ops+bFs d.frags≤Lim:=hd
 have h1:=zpY s d 48 [.view [.int .i64 n],.view (zq s),.view (zX d)] (zho s d n) (by omega) hd ⟨by kernel_rfl,fun typ x _=>znN s d n hb (by omega) typ x⟩
 unfold zaE
 generalize ZG s d (zho s d n)=x1 at *
 obtain⟨ops,frags⟩:=d
 obtain⟨sd,sq,sm⟩:=s
 simp only[zq,zX] at h1 ⊢
 refine zg.go ir18 ck18 (Al4 _) fun KP Q hQ=>?_
 simp(disch:=omega) only[ir18,go_sem]
 refine za h1 ?_
 cases x1 with
 | false =>
  simp(disch:=omega) only[go_sem]
  exact hQ _ _ _ _ nofun rfl (by simp[zd,ze,AV.strip,AV.strip1])
 | true =>
  by_cases n1:9≤n
  ·simp(disch:=omega) only[n1,go_sem]
   exact hQ _ _ _ _ nofun rfl (by simp[zd,ze,AV.strip,AV.strip1,n1])
  ·simp(disch:=omega) only[n1,go_sem]
   exact hQ _ _ _ _ nofun rfl (by simp[zd,ze,AV.strip,AV.strip1,n1])
theorem zgU (nm:List UInt8) (args:List Mem):cD ⟨nm,args⟩=[.str nm,.sl .no 6 (cMs args)]:=rfl
def zbr (n:List UInt8):Option VarD:=if n=[115,107,105,112]∨n=[105,110,99,108,117,100,101] then some ⟨[105,102],⟨[66,111,111,108,101,97,110],0,1⟩,false,zV⟩ else none
theorem zhE (n:List UInt8):zg Tryz.prog 93 [.str n] (.tup [.agg (cW ((zbr n).getD zW)),.bool (zbr n).isSome]):=by
 refine zg.go ir93 ck93 (Al4 _) fun KP Q hQ=>?_
 have fin:∀ o,zbr n=o→∀ ρ H vs,zN ρ H ir93.res=some vs→(zd vs).strip=.tup [.agg (cW (o.getD zW)),.bool o.isSome]→Q .ret ρ H:=fun o e ρ H vs h1 h2=>hQ _ ρ H vs nofun h1 (by rw[h2,e])
 by_cases h1:n=[115,107,105,112]
 ·have e:zbr n=some ⟨[105,102],⟨[66,111,111,108,101,97,110],0,1⟩,false,zV⟩:=if_pos (.inl h1)
  have h1':=eq_true h1
  simp(disch:=omega) only[ir93,go_sem]
  refine zb fun b2 hb2=>?_
  simp(disch:=omega) only[h1',go_sem]
  exact fin _ e _ _ [.agg [.str [105,102],.str [66,111,111,108,101,97,110],.int .i64 0,.int .i64 1,.bool false,.int .i64 0,.int .i64 0,.str [],.sl .nil 5 [],.sl .nil 6 []],.bool true] (by simp(disch:=omega) only[ir93,zN,Zv,go_sem]) rfl
 by_cases h2:n=[105,110,99,108,117,100,101]
 ·have e:zbr n=some ⟨[105,102],⟨[66,111,111,108,101,97,110],0,1⟩,false,zV⟩:=if_pos (.inr h2)
  have h2':=eq_true h2
  simp(disch:=omega) only[ir93,go_sem]
  refine zb fun b2 hb2=>?_
  simp(disch:=omega) only[h1,h2',go_sem]
  exact fin _ e _ _ [.agg [.str [105,102],.str [66,111,111,108,101,97,110],.int .i64 0,.int .i64 1,.bool false,.int .i64 0,.int .i64 0,.str [],.sl .nil 5 [],.sl .nil 6 []],.bool true] (by simp(disch:=omega) only[ir93,zN,Zv,go_sem]) rfl
 have e:zbr n=none:=if_neg (fun h=>h.elim h1 h2)
 simp(disch:=omega) only[ir93,go_sem]
 refine zb fun b2 hb2=>?_
 simp(disch:=omega) only[h1,h2,go_sem]
 exact fin _ e _ _ [.agg [.str [],.str [],.int .i64 0,.int .i64 0,.bool false,.int .i64 0,.int .i64 0,.str [],.sl .nil 5 [],.sl .nil 6 []],.bool false] (by simp(disch:=omega) only[ir93,zN,Zv,go_sem]) rfl
def Z5 (l:List DirD):Bool:=l.all fun d=>(zbr d.nm).isSome
theorem zna (l:List DirD) (hl:l.length≤Lim):zg Tryz.prog 53 [.sl .no 2 (cDs l)] (.bool (Z5 l)):=by
 refine zg.go ir53 ck53 (Al4 _) fun KP Q hQ=>?_
 have h1:=YP l
 simp only[Lim] at hl
 simp(disch:=omega) only[ir53,h1,go_sem]
 refine zf l 9 (fun _:Unit=>[]) (fun done rest _ H=>Z5 rest=Z5 l) () (by simp(disch:=omega) only[go_sem]) rfl ?_ ?_
 ·rintro _ H J hn hlt
  simp(disch:=omega) only[h1,hlt,go_sem]
  exact hQ _ _ _ [.bool true] nofun rfl (by rw[← hn];rfl)
 ·rintro done x rest _ H J hd hlt _ hn hJ
  have hg:=zar hd
  have hstep:Z5 (x::rest)=((zbr x.nm).isSome&&Z5 rest):=by simp[Z5]
  rw[hstep] at hn
  obtain⟨nm,args⟩:=x
  have hP:=zhE nm
  simp only at hn
  rw[zgU] at hg
  generalize (zbr nm).getD zW=w at *
  obtain⟨wn,⟨w1,w2,w3⟩,wh,⟨wk,wq,ws,wl,wm⟩⟩:=w
  rw[z8] at hP
  simp(disch:=omega) only[h1,hlt,hg,go_sem]
  refine zb fun b4 hb4=>?_
  simp(disch:=omega) only[go_sem]
  refine za hP ?_
  simp(disch:=omega) only[go_sem]
  refine zb fun b5 hb5=>?_
  have hne:=yY hb5
  cases hv:(zbr nm).isSome with
  | false =>
   rw[hv] at hn
   simp(disch:=omega) only[hne,Ne.symm hne,go_sem]
   exact hQ _ _ _ [.bool false] nofun rfl (by rw[← hn];rfl)
  | true =>
   rw[hv] at hn
   simp(disch:=omega) only[hne,Ne.symm hne,go_sem]
   exact goJ (hJ () _ (by simpa using hn)) (by simp(disch:=omega) only[wrap64,go_sem])
theorem zm8 (l:List DirD):zg Tryz.prog 55 [.sl .no 2 (cDs l)] (.bool (decide (l.length=0))):=by
 have h1:=YP l
 refine zg.go ir55 ck55 (Al4 _) fun KP Q hQ=>?_
 simp(disch:=omega) only[ir55,h1,go_sem]
 exact hQ _ _ _ _ nofun rfl (by simp[zd,ze,AV.strip,AV.strip1])
def cLD (l:List (List DirD)):List (List AV):=l.map fun x=>[.sl .no 2 (cDs x)]
theorem zfX (l:List (List DirD)):(cLD l).length=l.length:=by simp[cLD]
theorem zqI {l a:List (List DirD)} {x:List DirD} {b:List (List DirD)} (h:l=a++x::b):(cLD l).getD a.length []=[.sl .no 2 (cDs x)]:=yQ h
def zb0 (d:DocD):List (List DirD):=d.ops.map (·.dirs)++d.frags.map (·.dirs)
theorem zvp (d:DocD) (H:zc) (hb:zw d≤Lim):Y8 Tryz.prog 92 [.agg (zX d)] H .nil 1 (cLD (zb0 d)):=by
 obtain⟨ops,frags⟩:=d
 have hb':bOs ops+bFs frags≤1099511627776:=by simpa only[Lim,zw] using hb
 have l1:=Z2 ops
 have l2:=Ye frags
 have m1:=Zo ops
 have m2:=yM frags
 rw[show zX ⟨ops,frags⟩=[.sl .no 5 (cOs ops),.sl .no 4 (cFs frags)] from rfl]
 refine zj.goO ir92 ck92 (Al4 _) fun KP Q hQ hP=>?_
 simp(disch:=omega) only[ir92,l1,go_sem]
 refine zf ops 11 (fun x:Own×List (List DirD)=>[(3,.sl x.1 1 (cLD x.2))]) (fun done rest x H'=>x.2=done.map (·.dirs)∧OwnS H .nil H' x.1 done.length 1) (.nil,[]) (by simp(disch:=omega) only[cLD,List.map,go_sem]) ⟨rfl,OwnS.refl (o:=.nil) (n:=0) rfl⟩ ?_ ?_
 ·rintro⟨o1,a⟩ H1 J ⟨hn,hs⟩ hlt
  simp only at hn
  subst hn
  replace hs:OwnS H .nil H1 o1 ops.length 1:=hs
  simp(disch:=omega) only[l1,hlt,l2,go_sem]
  refine zf frags 24 (fun x:Own×List (List DirD)=>[(3,.sl x.1 1 (cLD x.2))]) (fun done rest x H'=>x.2=ops.map (·.dirs)++done.map (·.dirs)∧OwnS H .nil H' x.1 (ops.length+done.length) 1) (o1,ops.map (·.dirs)) (by simp(disch:=omega) only[go_sem]) ⟨by simp,hs⟩ ?_ ?_
  ·rintro⟨o2,a⟩ H2 J ⟨hn,hs⟩ hlt
   simp only at hn
   subst hn
   simp(disch:=omega) only[l2,hlt,go_sem]
   refine hQ _ _ H2 H2 [.sl o2 1 (cLD (zb0 ⟨ops,frags⟩))] nofun (by simp(disch:=omega) only[ir92,zN,Zv,zb0,go_sem]) (Low.refl _) ⟨o2,rfl,by rw[zfX];simpa[zb0] using hs⟩
  ·rintro done x rest ⟨o2,a⟩ H2 J hd hlt _ ⟨hn,hs⟩ hJ
   have hg:=Yt hd
   simp only at hn
   subst hn
   have h3:=zfX (ops.map (·.dirs)++done.map (·.dirs))
   simp only[Al5,List.length_map] at h3
   replace hs:OwnS H .nil H2 o2 (ops.length+done.length) 1:=hs
   obtain⟨nm,on,ds,ss⟩:=x
   rw[Z3] at hg
   simp(disch:=omega) only[l2,hlt,hg,go_sem]
   refine zb fun b7 hb7=>?_
   have hsu:=hs.upd (x:=.cells [.str nm,.str on,.sl .no 2 (cDs ds),.sl .no 7 (cSs ss)]) hb7
   simp(disch:=omega) only[go_sem]
   refine zu (by rw[h3];exact hsu.own) ?_ ?_ fun o' H3 hs2=>?_
   ·simp only[h3,Al2,Al3];omega
   ·simp only[h3,Al2,Al3,maxLen];omega
   have e1:cLD (ops.map (·.dirs)++done.map (·.dirs))++[[AV.sl .no 2 (cDs ds)]]=cLD (ops.map (·.dirs)++(done.map (·.dirs)++[ds])):=by simp[cLD]
   have hs3:=hsu.trans hs2
   simp only[h3,Al2,Al3] at hs3
   simp(disch:=omega) only[wrap64,e1,go_sem]
   exact goJ (hJ (o',ops.map (·.dirs)++(done.map (·.dirs)++[ds])) H3 ⟨by simp,by simpa[Nat.add_assoc] using hs3⟩) (by simp(disch:=omega) only[wrap64,go_sem])
 ·rintro done x rest ⟨o1,a⟩ H1 J hd hlt _ ⟨hn,hs⟩ hJ
  have hg:=Yc hd
  simp only at hn
  subst hn
  have h3:=zfX (done.map (·.dirs))
  simp only[List.length_map] at h3
  replace hs:OwnS H .nil H1 o1 done.length 1:=hs
  obtain⟨k,nm,vs,ds,ss⟩:=x
  rw[YO] at hg
  simp(disch:=omega) only[l1,hlt,hg,go_sem]
  refine zb fun b5 hb5=>?_
  have hsu:=hs.upd (x:=.cells [.int .i64 k,.str nm,.sl .no 10 (cWs vs),.sl .no 2 (cDs ds),.sl .no 7 (cSs ss)]) hb5
  simp(disch:=omega) only[go_sem]
  refine zu (by rw[h3];exact hsu.own) ?_ ?_ fun o' H3 hs2=>?_
  ·simp only[h3,Al2,Al3];omega
  ·simp only[h3,Al2,Al3,maxLen];omega
  have e1:cLD (done.map (·.dirs))++[[AV.sl .no 2 (cDs ds)]]=cLD (done.map (·.dirs)++[ds]):=by simp[cLD]
  have hs3:=hsu.trans hs2
  simp only[h3,Al2,Al3] at hs3
  simp(disch:=omega) only[wrap64,e1,go_sem]
  exact goJ (hJ (o',done.map (·.dirs)++[ds]) H3 ⟨by simp,by simpa using hs3⟩) (by simp(disch:=omega) only[wrap64,go_sem])
def zqb (f:FuncId) (p:List DirD→Bool):Prop:=Program.callable Tryz.prog f=true∧∀ l:List DirD,l.length≤Lim→zg Tryz.prog f [.sl .no 2 (cDs l)] (.bool (p l))
theorem zoD {d:DocD} {l:List DirD} (h:l∈zb0 d):l.length≤zw d:=by
 simp only[zb0,List.mem_append,List.mem_map] at h
 rcases h with ⟨o,ho,rfl⟩|⟨f,hf,rfl⟩
 ·obtain⟨a,b,hd⟩:=List.append_of_mem ho
  have:=YW a o b
  have h2:=zau o.dirs
  rw[← hd] at this
  simp only[bO] at this;simp only[zw];omega
 ·have:=zbC hf
  have h2:=zau f.dirs
  simp only[bF] at this;simp only[zw];omega
theorem zlr (d:DocD) (f:FuncId) (p:List DirD→Bool) (hb:zw d≤Lim) (hf:zqb f p):zg Tryz.prog 52 [.agg (zX d),.clo f [] []] (.bool ((zb0 d).all p)):=by
 have h1:=fun H=>zvp d H hb
 have hm:=fun l (h:l∈zb0 d)=>hf.2 l (by have:=zoD h;omega)
 have hol:=Zo d.ops
 have hfl:=yM d.frags
 have hb':bOs d.ops+bFs d.frags≤1099511627776:=by simpa only[Lim,zw] using hb
 have hlen:(zb0 d).length≤1099511627776:=by simp only[zb0,Al5,List.length_map];omega
 generalize zb0 d=L at *
 have l1:=zfX L
 obtain⟨ops,frags⟩:=d
 simp only[zX] at h1 ⊢
 refine zg.go ir52 ck52 (Al4 _) fun KP Q hQ=>?_
 simp(disch:=omega) only[ir52,go_sem]
 refine zB (h1 _) fun o2 H2 hs2=>?_
 simp(disch:=omega) only[l1,go_sem]
 refine zf L 10 (fun _:Unit=>[]) (fun done rest _ H=>rest.all p=L.all p) () (by simp(disch:=omega) only[go_sem]) rfl ?_ ?_
 ·rintro _ H J hn hlt
  simp(disch:=omega) only[l1,hlt,go_sem]
  exact hQ _ _ _ [.bool true] nofun rfl (by rw[← hn];rfl)
 ·rintro done x rest _ H J hd hlt _ hn hJ
  have hg:=zqI hd
  have hx:=hm x (by rw[hd];simp)
  rw[List.all_cons] at hn
  simp(disch:=omega) only[l1,hlt,hg,go_sem]
  refine⟨hf.1,za hx ?_⟩
  cases hv:p x with
  | false =>
   rw[hv] at hn
   simp(disch:=omega) only[go_sem]
   exact hQ _ _ _ [.bool false] nofun rfl (by rw[← hn];rfl)
  | true =>
   rw[hv] at hn
   simp(disch:=omega) only[go_sem]
   exact goJ (hJ () _ (by simpa using hn)) (by simp(disch:=omega) only[wrap64,go_sem])
def zc6:SelD→List DirD
 | .mk _ _ _ _ dirs _ _=>dirs
theorem zhB (s:SchD) (d:DocD) (f:FuncId) (p:List DirD→Bool) (hs:zJ s≤Lim) (hb:zw d≤Lim) (hf:zqb f p):zg Tryz.prog 54 [.agg (zq s),.agg (zX d),.clo f [] []] (.bool (ZG s d fun _ x=>p (zc6 x))):=by
 have h1:=zpY s d 94 [.view [.clo f [] []]] (fun _ x=>p (zc6 x)) hs hb ⟨by kernel_rfl,fun typ x hx=>by
  obtain⟨k,al,nm,args,dirs,on,xs⟩:=x
  have hdl:=zau dirs
  have h2:=hf.2 dirs (by simp only[bS] at hx;omega)
  simp only[zc6]
  rw[Zb]
  refine zg.go ir94 ck94 (Al4 _) fun KP Q hQ=>?_
  simp(disch:=omega) only[ir94,go_sem]
  refine⟨hf.1,za h2 ?_⟩
  simp(disch:=omega) only[go_sem]
  exact hQ _ _ _ _ nofun rfl (by simp[zd,ze,AV.strip,AV.strip1])⟩
 generalize (ZG s d fun _ x=>p (zc6 x))=x1 at *
 obtain⟨ops,frags⟩:=d
 obtain⟨sd,sq,sm⟩:=s
 simp only[zq,zX] at h1 ⊢
 refine zg.go ir54 ck54 (Al4 _) fun KP Q hQ=>?_
 simp(disch:=omega) only[ir54,go_sem]
 refine za h1 ?_
 simp(disch:=omega) only[go_sem]
 exact hQ _ _ _ _ nofun rfl (by simp[zd,ze,AV.strip,AV.strip1])
def zcV:List DirD→List DirD→Bool
 | _,[]=>true
 | a,x::r=>!(a.any fun y=>decide (y.nm=x.nm))&&zcV (a++[x]) r
def zbz (l:List DirD):Bool:=zcV [] l
theorem zpI (l:List DirD) (hl:l.length≤Lim):zg Tryz.prog 56 [.sl .no 2 (cDs l)] (.bool (zbz l)):=by
 refine zg.go ir56 ck56 (Al4 _) fun KP Q hQ=>?_
 have h1:=YP l
 have e0:zbz l=zcV [] l:=rfl
 generalize zbz l=F at *
 simp only[Lim] at hl
 simp(disch:=omega) only[ir56,h1,go_sem]
 refine zf l 10 (fun _:Unit=>[(3,.bool true)]) (fun done rest _ H=>zcV done rest=F) () (by simp(disch:=omega) only[go_sem]) e0.symm ?_ ?_
 ·rintro _ H J hn hlt
  simp(disch:=omega) only[h1,hlt,go_sem]
  exact hQ _ _ _ [.bool true] nofun rfl (by rw[← hn];rfl)
 ·rintro done x rest _ H J hd hlt _ hn hJ
  have hg:=zar hd
  have htk:(cDs l).take done.length=cDs done:=by rw[hd];simp[cDs]
  have hle:(done.length:Int)≤l.length:=by omega
  have h2:=YP done
  simp only[zcV] at hn
  obtain⟨nm,args⟩:=x
  simp only at hn
  rw[zgU] at hg
  simp(disch:=omega) only[h1,hlt,hg,go_sem]
  refine zb fun b5 hb5=>?_
  simp(disch:=omega) only[htk,hle,h1,h2,go_sem]
  refine zf done 19 (fun _:Unit=>[]) (fun done2 rest2 _ H2=>H2 b5=some (.cells [.str nm,.sl .no 6 (cMs args)])∧(rest2.any fun y=>decide (y.nm=nm))=done.any fun y=>decide (y.nm=nm)) () (by simp(disch:=omega) only[go_sem]) ⟨upd_same ..,rfl⟩ ?_ ?_
  ·rintro _ H2 J2 ⟨hH,hn2⟩ hlt2
   rw[← hn2] at hn
   simp(disch:=omega) only[h2,hlt2,go_sem]
   exact goJ (hJ () _ (by simpa using hn)) (by simp(disch:=omega) only[wrap64,go_sem])
  ·rintro done2 y rest2 _ H2 J2 hd2 hlt2 _ ⟨hH,hn2⟩ hJ2
   have hg2:=zar hd2
   rw[List.any_cons] at hn2
   obtain⟨ym,yargs⟩:=y
   simp only at hn2
   rw[zgU] at hg2
   simp(disch:=omega) only[h2,hlt2,hg2,go_sem]
   refine zb fun b7 hb7=>?_
   have hne:b5≠b7:=fun e=>by subst e;rw[hH] at hb7;cases hb7
   by_cases hy:ym=nm
   ·rw[← hn2] at hn
    have hy':=eq_true hy
    simp(disch:=omega) only[hH,hne,Ne.symm hne,hy',go_sem]
    exact hQ _ _ _ [.bool false] nofun rfl (by rw[← hn];simp[hy,zd,AV.strip,AV.strip1])
   ·simp(disch:=omega) only[hH,hne,Ne.symm hne,hy,go_sem]
    exact goJ (hJ2 () _ ⟨by simp(disch:=omega) only[hH,hne,Ne.symm hne,go_sem],by rw[← hn2];simp[hy]⟩) (by simp(disch:=omega) only[wrap64,go_sem])
def zaG (s:SchD) (d:DocD) (n:Int):Bool :=
 if n=12 then (zb0 d).all Z5&&ZG s d (fun _ x=>Z5 (zc6 x)) else if n=13 then (zb0 d).all (fun l=>decide (l.length=0))
 else if n=14 then (zb0 d).all zbz&&ZG s d (fun _ x=>zbz (zc6 x)) else false
theorem zpX (s:SchD) (d:DocD) (n:Int) (hs:zJ s≤Lim) (hb:zw d≤Lim):zg Tryz.prog 19 [.agg (zq s),.agg (zX d),.int .i64 n] (.bool (zaG s d n)):=by
 have f1:zqb 53 Z5:=⟨by kernel_rfl,zna⟩
 have f2:zqb 55 (fun l=>decide (l.length=0)):=⟨by kernel_rfl,fun l _=>zm8 l⟩
 have f3:zqb 56 zbz:=⟨by kernel_rfl,zpI⟩
 have h1:=zlr d _ _ hb f1
 have h2:=zlr d _ _ hb f2
 have h3:=zlr d _ _ hb f3
 have h4:=zhB s d _ _ hs hb f1
 have h5:=zhB s d _ _ hs hb f3
 unfold zaG
 generalize (zb0 d).all Z5=x1 at *
 generalize (zb0 d).all zbz=x3 at *
 generalize ((zb0 d).all fun l=>decide (l.length=0))=x2 at *
 generalize (ZG s d fun _ x=>Z5 (zc6 x))=x4 at *
 generalize (ZG s d fun _ x=>zbz (zc6 x))=x5 at *
 obtain⟨ops,frags⟩:=d
 obtain⟨sd,sq,sm⟩:=s
 simp only[zq,zX] at h1 h2 h3 h4 h5 ⊢
 refine zg.go ir19 ck19 (Al4 _) fun KP Q hQ=>?_
 by_cases n1:n=12
 ·subst n1
  simp(disch:=omega) only[ir19,go_sem]
  refine za h1 ?_
  cases x1 with
  | false =>
   simp(disch:=omega) only[go_sem]
   exact hQ _ _ _ _ nofun rfl (by simp[zd,ze,AV.strip,AV.strip1])
  | true =>
   simp(disch:=omega) only[go_sem]
   refine za h4 ?_
   simp(disch:=omega) only[go_sem]
   exact hQ _ _ _ _ nofun rfl (by simp[zd,ze,AV.strip,AV.strip1])
 by_cases n2:n=13
 ·subst n2
  simp(disch:=omega) only[ir19,go_sem]
  refine za h2 ?_
  simp(disch:=omega) only[go_sem]
  exact hQ _ _ _ _ nofun rfl (by simp[zd,ze,AV.strip,AV.strip1])
 by_cases n3:n=14
 ·subst n3
  simp(disch:=omega) only[ir19,go_sem]
  refine za h3 ?_
  cases x3 with
  | false =>
   simp(disch:=omega) only[go_sem]
   exact hQ _ _ _ _ nofun rfl (by simp[zd,ze,AV.strip,AV.strip1])
  | true =>
   simp(disch:=omega) only[go_sem]
   refine za h5 ?_
   simp(disch:=omega) only[go_sem]
   exact hQ _ _ _ _ nofun rfl (by simp[zd,ze,AV.strip,AV.strip1])
 ·simp(disch:=omega) only[ir19,n1,n2,n3,go_sem]
  exact hQ _ _ _ _ nofun rfl (by simp[zd,ze,AV.strip,AV.strip1,n1,n2,n3])
def mN:Mem→List UInt8
 | .mk n _=>n
def YL (ps:List VarD) (l:List Mem):Bool:=l.all fun m=>(yb ps (mN m)).isSome
theorem zm4 (ps:List VarD) (l:List Mem) (hp:ps.length≤Lim) (hl:l.length≤Lim):zg Tryz.prog 58 [.sl .no 10 (cWs ps),.sl .no 6 (cMs l)] (.bool (YL ps l)):=by
 refine zg.go ir58 ck58 (Al4 _) fun KP Q hQ=>?_
 have h1:=Za l
 have hP:=fun n=>zdT ps n hp
 simp only[Lim] at hl
 simp(disch:=omega) only[ir58,h1,go_sem]
 refine zf l 11 (fun _:Unit=>[]) (fun done rest _ H=>YL ps rest=YL ps l) () (by simp(disch:=omega) only[go_sem]) rfl ?_ ?_
 ·rintro _ H J hn hlt
  simp(disch:=omega) only[h1,hlt,go_sem]
  exact hQ _ _ _ [.bool true] nofun rfl (by rw[← hn];rfl)
 ·rintro done x rest _ H J hd hlt _ hn hJ
  have hg:=Zs hd
  have hstep:YL ps (x::rest)=((yb ps (mN x)).isSome&&YL ps rest):=by simp[YL]
  rw[hstep] at hn
  obtain⟨nm,⟨xk,xq,xs,xl,xm⟩⟩:=x
  simp only[mN] at hn
  have hPn:=hP nm
  rw[zr,yo] at hg
  generalize (yb ps nm).getD zW=w at *
  obtain⟨wn,⟨w1,w2,w3⟩,wh,⟨wk,wq,ws,wl,wm⟩⟩:=w
  rw[z8] at hPn
  simp(disch:=omega) only[h1,hlt,hg,go_sem]
  refine zb fun b6 hb6=>?_
  simp(disch:=omega) only[go_sem]
  refine za hPn ?_
  simp(disch:=omega) only[go_sem]
  refine zb fun b7 hb7=>?_
  have hne:=yY hb7
  cases hv:(yb ps nm).isSome with
  | false =>
   rw[hv] at hn
   simp(disch:=omega) only[hne,Ne.symm hne,go_sem]
   exact hQ _ _ _ [.bool false] nofun rfl (by rw[← hn];rfl)
  | true =>
   rw[hv] at hn
   simp(disch:=omega) only[hne,Ne.symm hne,go_sem]
   exact goJ (hJ () _ (by simpa using hn)) (by simp(disch:=omega) only[wrap64,go_sem])
theorem zkW (ps:List VarD) (l:List Mem) (hp:bWs ps≤Lim) (hl:l.length≤Lim):zg Tryz.prog 60 [.sl .no 10 (cWs ps),.sl .no 6 (cMs l)] (.bool (zdB ps l)):=by
 refine zg.go ir60 ck60 (Al4 _) fun KP Q hQ=>?_
 have h1:=Zr ps
 have hpl:=yS ps
 have hp':=hp
 simp only[Lim] at hp'
 simp(disch:=omega) only[ir60,h1,go_sem]
 refine zf ps 11 (fun _:Unit=>[]) (fun done rest _ H=>zdB rest l=zdB ps l) () (by simp(disch:=omega) only[go_sem]) rfl ?_ ?_
 ·rintro _ H J hn hlt
  simp(disch:=omega) only[h1,hlt,go_sem]
  exact hQ _ _ _ [.bool true] nofun rfl (by rw[← hn];rfl)
 ·rintro done x rest _ H J hd hlt _ hn hJ
  have hg:=Zm hd
  have hR:=zto x (by have:=@Ys x ps (by rw[hd];simp);simp only[bW] at this;simp only[Lim];omega)
  have hG:=zq8 x.nm l hl
  have hstep:zdB (x::rest) l=(((zbZ x.nm l).2||!zgb x)&&zdB rest l):=by simp[zdB]
  rw[hstep] at hn
  generalize zgb x=rq at *
  obtain⟨nm,⟨t1,t2,t3⟩,hh,⟨xk,xq,xs,xl,xm⟩⟩:=x
  rw[z8] at hg hR
  simp only at hG hn
  generalize zbZ nm l=g at *
  obtain⟨⟨gk,gq,gs,gl,gm⟩,gb⟩:=g
  simp only[yo] at hG
  simp(disch:=omega) only[h1,hlt,hg,go_sem]
  refine zb fun b6 hb6=>?_
  simp(disch:=omega) only[go_sem]
  refine za hG ?_
  simp(disch:=omega) only[go_sem]
  refine zb fun b7 hb7=>?_
  have hne:=yY hb7
  cases gb with
  | true =>
   simp(disch:=omega) only[hne,Ne.symm hne,go_sem]
   exact goJ (hJ () _ (by simpa using hn)) (by simp(disch:=omega) only[wrap64,go_sem])
  | false =>
   simp(disch:=omega) only[hne,Ne.symm hne,go_sem]
   refine za hR ?_
   cases rq with
   | true =>
    simp(disch:=omega) only[go_sem]
    exact hQ _ _ _ [.bool false] nofun rfl (by rw[← hn];rfl)
   | false =>
    simp(disch:=omega) only[go_sem]
    exact goJ (hJ () _ (by simpa using hn)) (by simp(disch:=omega) only[wrap64,go_sem])
def Y4:List Mem→List Mem→Bool
 | _,[]=>true
 | a,x::r=>!(zbZ (mN x) a).2&&Y4 (a++[x]) r
theorem zpK (l:List Mem) (hl:l.length≤Lim):zg Tryz.prog 98 [.sl .no 6 (cMs l)] (.bool (Y4 [] l)):=by
 refine zg.go ir98 ck98 (Al4 _) fun KP Q hQ=>?_
 have h1:=Za l
 simp only[Lim] at hl
 simp(disch:=omega) only[ir98,h1,go_sem]
 refine zf l 9 (fun _:Unit=>[]) (fun done rest _ H=>Y4 done rest=Y4 [] l) () (by simp(disch:=omega) only[go_sem]) rfl ?_ ?_
 ·rintro _ H J hn hlt
  simp(disch:=omega) only[h1,hlt,go_sem]
  exact hQ _ _ _ [.bool true] nofun rfl (by rw[← hn];rfl)
 ·rintro done x rest _ H J hd hlt _ hn hJ
  have hg:=Zs hd
  have htk:(cMs l).take done.length=cMs done:=by rw[zcu,zcu,hd];simp
  have hle:(done.length:Int)≤l.length:=by omega
  obtain⟨nm,⟨xk,xq,xs,xl,xm⟩⟩:=x
  simp only[Y4,mN] at hn
  have hG:=zq8 nm done (by simp only[Lim];omega)
  rw[zr,yo] at hg
  generalize zbZ nm done=g at *
  obtain⟨⟨gk,gq,gs,gl,gm⟩,gb⟩:=g
  simp only[yo] at hG hn
  simp(disch:=omega) only[h1,hlt,hg,go_sem]
  refine zb fun b4 hb4=>?_
  simp(disch:=omega) only[h1,hle,htk,go_sem]
  refine za hG ?_
  simp(disch:=omega) only[go_sem]
  refine zb fun b5 hb5=>?_
  have hne:=yY hb5
  cases gb with
  | true =>
   simp(disch:=omega) only[hne,Ne.symm hne,go_sem]
   exact hQ _ _ _ [.bool false] nofun rfl (by rw[← hn];rfl)
  | false =>
   simp(disch:=omega) only[hne,Ne.symm hne,go_sem]
   exact goJ (hJ () _ (by simpa using hn)) (by simp(disch:=omega) only[wrap64,go_sem])
theorem znh (v:AV) (l:List Mem) (hl:l.length≤Lim):zg Tryz.prog 59 [v,.sl .no 6 (cMs l)] (.bool (Y4 [] l)):=by
 refine zg.go ir59 ck59 (Al4 _) fun KP Q hQ=>?_
 simp(disch:=omega) only[ir59,go_sem]
 refine za (zpK l hl) ?_
 simp(disch:=omega) only[go_sem]
 exact hQ _ _ _ _ nofun rfl (by simp[zd,ze,AV.strip,AV.strip1])
def y5 (d:DirD):List VarD:=match zbr d.nm with
 | none=>[]
 | some p=>[p]
theorem zgs (d:DirD):zg Tryz.prog 96 [.agg (cD d)] (.sl .no 10 (cWs (y5 d))):=by
 obtain⟨nm,args⟩:=d
 have h1:=zhE nm
 have e0:y5 ⟨nm,args⟩=match zbr nm with|none=>[]|some p=>[p]:=rfl
 generalize y5 ⟨nm,args⟩=F at *
 rw[zgU]
 refine zg.go ir96 ck96 (Al4 _) fun KP Q hQ=>?_
 simp(disch:=omega) only[ir96,go_sem]
 cases hp:zbr nm with
 | none =>
  rw[hp] at h1 e0
  refine za h1 ?_
  simp(disch:=omega) only[Option.getD,Option.isSome,zW,zV,z8,go_sem]
  refine zb fun b3 hb3=>?_
  simp(disch:=omega) only[go_sem]
  exact hQ _ _ _ [.sl .nil 10 []] nofun rfl (by rw[e0];rfl)
 | some p =>
  rw[hp] at h1 e0
  obtain⟨wn,⟨w1,w2,w3⟩,wh,⟨wk,wq,ws,wl,wm⟩⟩:=p
  refine za h1 ?_
  simp(disch:=omega) only[Option.getD,Option.isSome,z8,go_sem]
  refine zb fun b3 hb3=>?_
  simp(disch:=omega) only[go_sem]
  exact hQ _ _ _ [.sl .full 10 [cW ⟨wn,⟨w1,w2,w3⟩,wh,.mk wk wq ws wl wm⟩]] nofun rfl (by rw[e0];rfl)
def zuz (f:FuncId) (caps:List AV) (p:List VarD→List Mem→Bool):Prop:=Program.callable Tryz.prog f=true∧∀ ps l,bWs ps≤Lim→bMs l≤Lim→zg Tryz.prog f (.sl .no 10 (cWs ps)::.sl .no 6 (cMs l)::caps) (.bool (p ps l))
def zd2 (s:SchD) (p:List VarD→List Mem→Bool) (typ:List UInt8):SelD→Bool
 | .mk k _ nm args dirs _ _=>(!decide (k=0)||p ((yw s typ nm).getD zF).ps args)&&dirs.all fun d=>p (y5 d) d.args
theorem zfr (s:SchD) (typ nm:List UInt8):bWs ((yw s typ nm).getD zF).ps≤zJ s:=by
 cases h:yw s typ nm with
 | none=>simp[zF,bWs]
 | some f =>
  unfold yw at h
  split at h
  ·cases h;simp[tnF,bWs]
  ·split at h
   ·cases h
   ·rename_i d hd
    split at h
    ·have h1:=zch (List.mem_of_find?_eq_some h)
     have h2:=(Ym hd).1
     have h3:=@zi0 f
     show bWs f.ps≤_
     omega
    ·cases h
theorem zcv (d:DirD):bWs (y5 d)≤100:=by
 unfold y5 zbr
 split
 ·simp[bWs]
 ·rename_i p hp
  split at hp
  ·cases hp;decide
  ·cases hp
theorem zrN {d:DirD} {l:List DirD} (h:d∈l):bMs d.args≤bDs l:=by
 obtain⟨a,b,hd⟩:=List.append_of_mem h
 have:=zcp a d b
 rw[← hd] at this
 simp only[bD] at this
 omega
theorem zm6 (s:SchD) (f:FuncId) (caps:List AV) (p:List VarD→List Mem→Bool) (hs:zJ s≤Lim) (hf:zuz f caps p) (typ:List UInt8) (x:SelD) (hx:bS x≤Lim) :
  zg Tryz.prog 95 [.str typ,.agg (cS x),.view (zq s),.view [.clo f [] caps]] (.bool (zd2 s p typ x)):=by
 obtain⟨k,al,nm,args,dirs,on,xs⟩:=x
 have h1:=zfq s typ nm hs
 have hps:=zfr s typ nm
 simp only[bS] at hx
 have h2:=hf.2 ((yw s typ nm).getD zF).ps args (by omega) (by omega)
 have h3:=fun(d:DirD) (h:d∈dirs)=>hf.2 (y5 d) d.args (by have:=zcv d;simp only[Lim];omega) (by have:=zrN h;omega)
 have e0:zd2 s p typ (.mk k al nm args dirs on xs)=((!decide (k=0)||p ((yw s typ nm).getD zF).ps args)&&dirs.all fun d=>p (y5 d) d.args):=rfl
 generalize zd2 s p typ (.mk k al nm args dirs on xs)=F at *
 generalize (yw s typ nm).isSome=fs at *
 generalize (yw s typ nm).getD zF=w at *
 obtain⟨fn,fp,⟨f1,f2,f3⟩,fd⟩:=w
 simp only at h2 e0
 generalize p fp args=x1 at *
 have hdl:=zau dirs
 have l1:=YP dirs
 have hx':=hx
 simp only[Lim] at hx'
 obtain⟨sd,sq,sm⟩:=s
 simp only[zq,zaB,Zb] at h1 ⊢
 refine zg.go ir95 ck95 (Al4 _) fun KP Q hQ=>?_
 have three:(k=0∧x1=false)∨((!decide (k=0)||x1)=true∧(k=0→x1=true)):=by cases x1<;>by_cases h:k=0<;>simp[h]
 rcases three with ⟨h0,hx1⟩|⟨h0,hx1⟩
 ·subst h0
  subst hx1
  simp(disch:=omega) only[ir95,go_sem]
  refine za h1 ?_
  simp(disch:=omega) only[go_sem]
  refine zb fun b7 hb7=>?_
  simp(disch:=omega) only[go_sem]
  refine⟨hf.1,za h2 ?_⟩
  simp(disch:=omega) only[go_sem]
  exact hQ _ _ _ [.bool false] nofun rfl (by rw[e0];rfl)
 rw[h0,Bool.true_and] at e0
 by_cases hk:k=0
 case' pos =>
  have hx2:=hx1 hk
  subst hk
  subst hx2
  simp(disch:=omega) only[ir95,go_sem]
  refine za h1 ?_
  simp(disch:=omega) only[go_sem]
  refine zb fun b7 hb7=>?_
  simp(disch:=omega) only[go_sem]
  refine⟨hf.1,za h2 ?_⟩
  simp(disch:=omega) only[l1,go_sem]
 case' neg=>simp(disch:=omega) only[ir95,hk,l1,go_sem]
 all_goals
  refine zf dirs 32 (fun _:Unit=>[]) (fun done rest _ H=>(rest.all fun d=>p (y5 d) d.args)=F) () (by simp(disch:=omega) only[go_sem]) e0.symm ?_ ?_
  ·rintro _ H J hn hlt
   simp(disch:=omega) only[l1,hlt,go_sem]
   exact hQ _ _ _ [.bool true] nofun rfl (by rw[← hn];rfl)
  ·rintro done d rest _ H J hd hlt _ hn hJ
   have hg:=zar hd
   have hP:=zgs d
   have hc:=h3 d (by rw[hd];simp)
   rw[List.all_cons] at hn
   generalize p (y5 d) d.args=y1 at *
   generalize y5 d=ps at *
   obtain⟨dn,da⟩:=d
   simp only at hc
   rw[zgU] at hg hP
   simp(disch:=omega) only[l1,hlt,hg,go_sem]
   refine zb fun b10 hb10=>?_
   simp(disch:=omega) only[go_sem]
   refine za hP ?_
   simp(disch:=omega) only[go_sem]
   refine⟨hf.1,za hc ?_⟩
   cases y1 with
   | false =>
    simp(disch:=omega) only[go_sem]
    exact hQ _ _ _ [.bool false] nofun rfl (by rw[← hn];rfl)
   | true =>
    simp(disch:=omega) only[go_sem]
    exact goJ (hJ () _ (by simpa using hn)) (by simp(disch:=omega) only[wrap64,go_sem])
theorem zeE (s:SchD) (d:DocD) (f:FuncId) (caps:List AV) (p:List VarD→List Mem→Bool) (hs:zJ s≤Lim) (hb:zw d≤Lim) (hf:zuz f caps p):zg Tryz.prog 57 [.agg (zq s),.agg (zX d),.clo f [] caps] (.bool (ZG s d (zd2 s p))):=by
 have h1:=zpY s d 95 [.view (zq s),.view [.clo f [] caps]] (zd2 s p) hs hb ⟨by kernel_rfl,fun typ x hx=>zm6 s f caps p hs hf typ x (by omega)⟩
 generalize ZG s d (zd2 s p)=x1 at *
 obtain⟨ops,frags⟩:=d
 obtain⟨sd,sq,sm⟩:=s
 simp only[zq,zX] at h1 ⊢
 refine zg.go ir57 ck57 (Al4 _) fun KP Q hQ=>?_
 simp(disch:=omega) only[ir57,go_sem]
 refine za h1 ?_
 simp(disch:=omega) only[go_sem]
 exact hQ _ _ _ _ nofun rfl (by simp[zd,ze,AV.strip,AV.strip1])
def zaJ (s:SchD) (d:DocD) (n:Int):Bool:=if n=15 then ZG s d (zd2 s YL) else if n=16 then ZG s d (zd2 s fun _ l=>Y4 [] l) else if n=17 then ZG s d (zd2 s zdB) else false
theorem zp9 (s:SchD) (d:DocD) (n:Int) (hs:zJ s≤Lim) (hb:zw d≤Lim):zg Tryz.prog 20 [.agg (zq s),.agg (zX d),.int .i64 n] (.bool (zaJ s d n)):=by
 have h1:=zeE s d 58 [] YL hs hb ⟨by kernel_rfl,fun ps l hp hl=>zm4 ps l (by have:=yS ps;omega) (by have:=Ze l;omega)⟩
 have h2:=zeE s d 59 [] (fun _ l=>Y4 [] l) hs hb ⟨by kernel_rfl,fun ps l hp hl=>znh _ l (by have:=Ze l;omega)⟩
 have h3:=zeE s d 60 [] zdB hs hb ⟨by kernel_rfl,fun ps l hp hl=>zkW ps l hp (by have:=Ze l;omega)⟩
 unfold zaJ
 generalize ZG s d (zd2 s YL)=x1 at *
 generalize ZG s d (zd2 s fun _ l=>Y4 [] l)=x2 at *
 generalize ZG s d (zd2 s zdB)=x3 at *
 obtain⟨ops,frags⟩:=d
 obtain⟨sd,sq,sm⟩:=s
 simp only[zq,zX] at h1 h2 h3 ⊢
 refine zg.go ir20 ck20 (Al4 _) fun KP Q hQ=>?_
 by_cases n1:n=15
 ·subst n1
  simp(disch:=omega) only[ir20,go_sem]
  refine za h1 ?_
  simp(disch:=omega) only[go_sem]
  exact hQ _ _ _ _ nofun rfl (by simp[zd,ze,AV.strip,AV.strip1])
 by_cases n2:n=16
 ·subst n2
  simp(disch:=omega) only[ir20,go_sem]
  refine za h2 ?_
  simp(disch:=omega) only[go_sem]
  exact hQ _ _ _ _ nofun rfl (by simp[zd,ze,AV.strip,AV.strip1])
 by_cases n3:n=17
 ·subst n3
  simp(disch:=omega) only[ir20,go_sem]
  refine za h3 ?_
  simp(disch:=omega) only[go_sem]
  exact hQ _ _ _ _ nofun rfl (by simp[zd,ze,AV.strip,AV.strip1])
 ·simp(disch:=omega) only[ir20,n1,n2,n3,go_sem]
  exact hQ _ _ _ _ nofun rfl (by simp[zd,ze,AV.strip,AV.strip1,n1,n2,n3])
theorem znn (y:VarD) (n:List UInt8) (b:Nat) (rest:List AV) (H:zc) (hb:H b=some (.cells (.str n::rest))):zj Tryz.prog 144 [.agg (cW y),.ptr b 0] H (At (.bool (nmW n y)) H):=by
 obtain⟨nm,⟨t1,t2,t3⟩,h,⟨k,q,st,l,m⟩⟩:=y
 refine zj.go ir144 ck144 (Al4 _) fun KP Q hQ=>?_
 simp(disch:=omega) only[ir144,z8,hb,go_sem]
 exact hQ _ _ _ _ _ nofun rfl (Low.refl _) ⟨by simp[zd,ze,AV.strip,AV.strip1,nmW],rfl⟩
def zaI:List VarD→List VarD→Bool
 | _,[]=>true
 | a,x::r=>!a.any (nmW x.nm)&&zaI (a++[x]) r
theorem zpL (o:OpD) (hl:o.vars.length≤Lim):zg Tryz.prog 101 [.agg (cO o)] (.bool (zaI [] o.vars)):=by
 obtain⟨k,nm,l,ds,ss⟩:=o
 simp only at hl ⊢
 have hl':=hl
 have h1:=Zr l
 simp only[Lim] at hl
 rw[YO]
 refine zg.go ir101 ck101 (Al4 _) fun KP Q hQ=>?_
 simp(disch:=omega) only[ir101,h1,go_sem]
 refine zf l 8 (fun _:Unit=>[]) (fun done rest _ H=>zaI done rest=zaI [] l) () (by simp(disch:=omega) only[go_sem]) rfl ?_ ?_
 ·rintro _ H J hn hlt
  simp(disch:=omega) only[h1,hlt,go_sem]
  exact hQ _ _ _ [.bool true] nofun rfl (by rw[← hn];rfl)
 ·rintro done x rest _ H J hd hlt _ hn hJ
  have hg:=Zm hd
  have htk:(cWs l).take done.length=done.map cW:=by rw[hd];simp[cWs]
  have hle:(done.length:Int)≤l.length:=by omega
  have hdl:done.length≤Lim:=by simp only[Lim];omega
  obtain⟨xn,⟨t1,t2,t3⟩,hh,⟨xk,xq,xs,xl,xm⟩⟩:=x
  simp only[zaI] at hn
  rw[z8] at hg
  simp(disch:=omega) only[h1,hlt,hg,go_sem]
  refine zb fun b4 hb4=>?_
  simp(disch:=omega) only[h1,hle,htk,go_sem]
  refine z7 (zg9 cW zaH done 144 [.ptr b4 0] (nmW xn) _ hdl (by kernel_rfl) fun y _=>znn y xn b4 _ _ (upd_same ..)) ?_
  rintro _ _ ⟨_,rfl,rfl,rfl⟩
  cases ha:done.any (nmW xn) with
  | true =>
   rw[ha] at hn
   simp(disch:=omega) only[ZP,ha,go_sem]
   exact hQ _ _ _ [.bool false] nofun rfl (by rw[← hn];rfl)
  | false =>
   rw[ha] at hn
   simp(disch:=omega) only[ZP,ha,go_sem]
   exact goJ (hJ () _ (by simpa using hn)) (by simp(disch:=omega) only[wrap64,go_sem])
theorem zpq (p:VarD) (n:List UInt8):zg Tryz.prog 147 [.agg (cW p),.view [.str n]] (.bool (nmW n p)):=by
 obtain⟨nm,⟨a,b,c⟩,h,⟨k,q,s,l,m⟩⟩:=p
 refine zg.go ir147 ck147 (Al4 _) fun KP Q hQ=>?_
 simp(disch:=omega) only[ir147,z8,go_sem]
 exact hQ _ _ _ _ nofun rfl (by simp[zd,ze,AV.strip,AV.strip1,nmW])
theorem zmJ (o:OpD) (n:List UInt8) (hl:o.vars.length≤Lim):zg Tryz.prog 107 [.agg (cO o),.str n] (.tup [.agg (cW ((yb o.vars n).getD zW)),.bool (yb o.vars n).isSome]):=by
 have hx:=znG cW zaH o.vars 147 [.view [.str n]] (nmW n) hl (by kernel_rfl) fun x _=>zpq x n
 obtain⟨k,nm,l,ds,ss⟩:=o
 simp only at hl hx ⊢
 have hlb:=hl
 simp only[Lim] at hlb
 rw[YO]
 refine zg.go ir107 ck107 (Al4 _) fun KP Q hQ=>?_
 have fin:∀ o,yb l n=o→∀ ρ H vs,zN ρ H ir107.res=some vs→(zd vs).strip=.tup [.agg (cW (o.getD zW)),.bool o.isSome]→Q .ret ρ H:=fun o e ρ H vs h1 h2=>hQ _ ρ H vs nofun h1 (by rw[h2,e])
 simp(disch:=omega) only[ir107,go_sem]
 refine zb fun b4 hb4=>?_
 simp(disch:=omega) only[go_sem]
 refine za hx ?_
 rcases zal (nmW n) l 0 with ⟨a,x,r,h1,h2,h3,h4⟩|⟨h1,h2⟩
 ·rw[h4,Int.zero_add]
  have hg:=Zm h1
  have h6:=Zr l
  have h5:(a.length:Int)<l.length:=by rw[h1,Al5,Al2];omega
  have h7:¬ ((a.length:Int)<0):=by omega
  have e:yb l n=some x:=h3
  obtain⟨nm,⟨t1,t2,t3⟩,h,⟨k,q,s,l2,m⟩⟩:=x
  rw[z8] at hg
  simp(disch:=omega) only[hg,h6,h5,h7,go_sem]
  exact fin _ e _ _ [.agg (cW ⟨nm,⟨t1,t2,t3⟩,h,.mk k q s l2 m⟩),.bool true] (by simp(disch:=omega) only[ir107,zN,Zv,z8,go_sem]) rfl
 ·rw[h2]
  have e:yb l n=none:=h1
  simp(disch:=omega) only[go_sem]
  exact fin _ e _ _ [.agg [.str [],.str [],.int .i64 0,.int .i64 0,.bool false,.int .i64 0,.int .i64 0,.str [],.sl .nil 5 [],.sl .nil 6 []],.bool false] (by simp(disch:=omega) only[ir107,zN,Zv,go_sem]) rfl
inductive ItD where
 | mk (no:Nat) (x:SelD) (typ:List UInt8) (sub:List ItD)
mutual
def cIt:ItD→List AV
 | .mk no (.mk k al nm args dirs on sels) typ sub=>[.int .i64 no,.int .i64 k,.str al,.str nm,.sl .no 6 (cMs args),.sl .no 2 (cDs dirs),.str on,.sl .no 7 (cSs sels),.str typ,.sl .no 10 (yJ sub)]
def yJ:List ItD→List (List AV)
 | []=>[]
 | x::r=>cIt x::yJ r
end
theorem ZF (no:Nat) (k:Int) (al nm:List UInt8) (args:List Mem) (dirs:List DirD) (on:List UInt8) (sels:List SelD) (typ:List UInt8) (sub:List ItD) :
  cIt (.mk no (.mk k al nm args dirs on sels) typ sub)=[.int .i64 no,.int .i64 k,.str al,.str nm,.sl .no 6 (cMs args),.sl .no 2 (cDs dirs),.str on,.sl .no 7 (cSs sels),.str typ,.sl .no 10 (yJ sub)]:=by rw[cIt]
theorem za5:∀ l,yJ l=l.map cIt
 | []=>by simp[yJ]
 | v::r=>by rw[yJ,za5 r];rfl
theorem Yp (l:List ItD):(yJ l).length=l.length:=by rw[za5];simp
theorem zbT {l a:List ItD} {x:ItD} {b:List ItD} (h:l=a++x::b):(yJ l).getD a.length []=cIt x:=by rw[za5,yQ h]
theorem znF (x:ItD):(cIt x).map AV.strip1=cIt x:=by obtain⟨no,⟨k,al,nm,args,dirs,on,sels⟩,typ,sub⟩:=x;rw[ZF];rfl
theorem zdO (l:List ItD):(yJ l).map (·.map AV.strip1)=yJ l:=by rw[za5,List.map_map];exact List.map_congr_left fun v _=>znF v
theorem zcO (a b:List ItD):yJ a++yJ b=yJ (a++b):=by simp only[za5,List.map_append]
theorem zjs (x:ItD):yJ [x]=[cIt x]:=by rw[za5];rfl
def ItD.sub:ItD→List ItD|.mk _ _ _ s=>s
def ItD.x:ItD→SelD|.mk _ x _ _=>x
def ItD.args:ItD→List Mem|.mk _ (.mk _ _ _ a _ _ _) _ _=>a
def ItD.no:ItD→Nat|.mk n _ _ _=>n
def ItD.typ:ItD→List UInt8|.mk _ _ t _=>t
def SelD.k:SelD→Int|.mk k _ _ _ _ _ _=>k
def SelD.nm:SelD→List UInt8|.mk _ _ n _ _ _ _=>n
def SelD.sels:SelD→List SelD|.mk _ _ _ _ _ _ s=>s
mutual
def itS (s:SchD):SelD→List UInt8→Nat→ItD×Nat
 | .mk k al nm args dirs on sels,typ,no =>
  let r:=zR s sels (zO s typ (.mk k al nm args dirs on sels)) (no+1)
  (.mk (no+1) (.mk k al nm args dirs on sels) typ r.1,r.2)
def zR (s:SchD):List SelD→List UInt8→Nat→List ItD×Nat
 | [],_,no=>([],no)
 | x::r,typ,no=>((itS s x typ no).1::(zR s r typ (itS s x typ no).2).1,(zR s r typ (itS s x typ no).2).2)
end
mutual
theorem ztU (s:SchD):∀(x:SelD) (typ:List UInt8) (no:Nat),(itS s x typ no).2≤no+bS x
 | .mk k al nm args dirs on sels,typ,no=>by
  have:=zdv s sels (zO s typ (.mk k al nm args dirs on sels)) (no+1)
  simp only[itS,bS];omega
theorem zdv (s:SchD):∀(l:List SelD) (typ:List UInt8) (no:Nat),(zR s l typ no).2≤no+bSs l
 | [],typ,no=>by simp[zR]
 | x::r,typ,no=>by
  have h1:=ztU s x typ no
  have h2:=zdv s r typ (itS s x typ no).2
  simp only[zR,bSs];omega
end
theorem zjl (s:SchD):∀(l:List SelD) (typ:List UInt8) (no:Nat),(zR s l typ no).1.length=l.length
 | [],_,_=>rfl
 | x::r,typ,no=>by simp only[zR,Al2];rw[zjl s r]
def frL (fr:List (List UInt8×List ItD)) (n:List UInt8):List ItD:=((fr.find? fun e=>decide (n=e.1)).map (·.2)).getD []
def ZE (g:List ItD→List (List UInt8)→List ItD×List (List UInt8)) (fr:List (List UInt8×List ItD)) (acc:List ItD×List (List UInt8)):ItD→List ItD×List (List UInt8)
 | .mk no (.mk k al nm args dirs on sels) typ sub =>
  if k=0 then (acc.1++[.mk no (.mk k al nm args dirs on sels) typ sub],acc.2)
  else if k=2 then (acc.1++(g sub acc.2).1,(g sub acc.2).2)
  else if k=1∧zQ nm acc.2=false then (acc.1++(g (frL fr nm) (acc.2++[nm])).1,(g (frL fr nm) (acc.2++[nm])).2)
  else acc
def flF (fr:List (List UInt8×List ItD)):Nat→List ItD→List (List UInt8)→List ItD×List (List UInt8)
 | 0,_,seen=>([],seen)
 | n+1,l,seen=>l.foldl (ZE (flF fr n) fr) ([],seen)
inductive Ex (fr:List (List UInt8×List ItD)):Nat→List ItD→Prop
 | nil (n:Nat):Ex fr n []
 | cons {n i j m no:Nat} {k:Int} {al nm:List UInt8} {args:List Mem} {dirs:List DirD} {on:List UInt8} {sels:List SelD} {typ:List UInt8} {sub r:List ItD} (hle:i+j+m+1≤n)
  (h1:Ex fr i sub) (h2:k=1→Ex fr j (frL fr nm)) (h3:Ex fr m r) (ha:bMs args≤Lim):Ex fr n (.mk no (.mk k al nm args dirs on sels) typ sub::r)
theorem Ex.mono {fr:List (List UInt8×List ItD)} {n m:Nat} {l:List ItD} (h:Ex fr n l) (hm:n≤m):Ex fr m l:=by
 cases h with
 | nil=>exact .nil _
 | cons hle h1 h2 h3 ha=>exact .cons (by omega) h1 h2 h3 ha
theorem Ex.zero {fr:List (List UInt8×List ItD)} {l:List ItD} (h:Ex fr 0 l):l=[]:=by
 cases h with
 | nil=>rfl
 | cons hle h1 h2 h3 ha=>omega
theorem Ex.pre {fr:List (List UInt8×List ItD)} {b:List ItD}:∀ {a:List ItD} {n:Nat},Ex fr n (a++b)→Ex fr n a
 | [],_,_=>.nil _
 | x::a,n,h=>by
  cases h with
  | cons hle h1 h2 h3 ha=>exact .cons hle h1 h2 (Ex.pre h3) ha
theorem Ex.mid {fr:List (List UInt8×List ItD)} {no:Nat} {k:Int} {al nm:List UInt8} {args:List Mem} {dirs:List DirD} {on:List UInt8} {sels:List SelD} {typ:List UInt8} {sub b:List ItD}:∀ {a:List ItD} {n:Nat},
  Ex fr n (a++.mk no (.mk k al nm args dirs on sels) typ sub::b)→∃ i j,i+j+1≤n∧Ex fr i sub∧(k=1→Ex fr j (frL fr nm))
 | [],n,h=>by
  cases h with
  | cons hle h1 h2 h3 ha=>exact⟨_,_,by omega,h1,h2⟩
 | x::a,n,h=>by
  cases h with
  | cons hle h1 h2 h3 ha =>
   obtain⟨i,j,hij,g1,g2⟩:=Ex.mid h3
   exact⟨i,j,by omega,g1,g2⟩
theorem Ex.sub {fr:List (List UInt8×List ItD)} {n:Nat} {l:List ItD} (h:Ex fr (n+1) l) {y:ItD} (hy:y∈l):Ex fr n y.sub:=by
 obtain⟨a,b,e⟩:=List.append_of_mem hy
 obtain⟨no,⟨k,al,nm,args,dirs,on,sels⟩,typ,sub⟩:=y
 rw[e] at h
 obtain⟨i,j,hij,g1,_⟩:=Ex.mid h
 exact g1.mono (by omega)
theorem ze0 {fr:List (List UInt8×List ItD)} {n f:Nat} {l:List ItD} {seen:List (List UInt8)} (h:Ex fr n l) (hf:n≤f):flF fr f l seen=l.foldl (ZE (flF fr (f-1)) fr) ([],seen):=by
 cases f with
 | zero =>
  obtain rfl:n=0:=by omega
  rw[h.zero];rfl
 | succ f=>rfl
theorem zqf {fr:List (List UInt8×List ItD)}:∀ n:Nat,∀(l:List ItD),Ex fr n l→∀(f:Nat),n≤f→∀ acc:List ItD×List (List UInt8),
  (l.foldl (ZE (flF fr (f-1)) fr) acc).1.length≤acc.1.length+n∧∀ y∈(l.foldl (ZE (flF fr (f-1)) fr) acc).1,y∈acc.1∨∃ m,m<n∧Ex fr m y.sub∧bMs y.args≤Lim:=by
 intro n
 induction n using Nat.strongRecOn with
 | _ n ih =>
 intro l h f hf acc
 cases h with
 | nil=>exact⟨by simp,fun y hy=>.inl hy⟩
 | @cons _ i j m no k al nm args dirs on sels typ sub r hle h1 h2 h3 ha =>
  rw[List.foldl_cons]
  have hst:(ZE (flF fr (f-1)) fr acc (.mk no (.mk k al nm args dirs on sels) typ sub)).1.length≤acc.1.length+(i+j+1) ∧
    ∀ y∈(ZE (flF fr (f-1)) fr acc (.mk no (.mk k al nm args dirs on sels) typ sub)).1,y∈acc.1∨∃ m,m<n∧Ex fr m y.sub∧bMs y.args≤Lim:=by
   simp only[ZE]
   split
   ·refine⟨by simp only[Al5,Al2,Al3];omega,fun y hy=>?_⟩
    rcases List.mem_append.1 hy with h|h
    ·exact .inl h
    ·simp only[List.mem_singleton] at h
     subst h
     exact .inr ⟨i,by omega,h1,ha⟩
   ·split
    ·rw[ze0 h1 (by omega)]
     have:=ih i (by omega) sub h1 (f-1) (by omega) ([],acc.2)
     simp only[Al3,List.not_mem_nil,false_or] at this
     refine⟨by rw[Al5];omega,fun y hy=>?_⟩
     rcases List.mem_append.1 hy with h|h
     ·exact .inl h
     ·obtain⟨m',g1,g2⟩:=this.2 y h
      exact .inr ⟨m',by omega,g2⟩
    ·split
     ·rename_i hk
      have hj:=h2 hk.1
      rw[ze0 hj (by omega)]
      have:=ih j (by omega) _ hj (f-1) (by omega) ([],acc.2++[nm])
      simp only[Al3,List.not_mem_nil,false_or] at this
      refine⟨by rw[Al5];omega,fun y hy=>?_⟩
      rcases List.mem_append.1 hy with h|h
      ·exact .inl h
      ·obtain⟨m',g1,g2⟩:=this.2 y h
       exact .inr ⟨m',by omega,g2⟩
     ·exact⟨by omega,fun y hy=>.inl hy⟩
  have hr:=ih m (by omega) r h3 f (by omega) (ZE (flF fr (f-1)) fr acc (.mk no (.mk k al nm args dirs on sels) typ sub))
  refine⟨by omega,fun y hy=>?_⟩
  rcases hr.2 y hy with h|⟨m',g1,g2⟩
  ·exact hst.2 y h
  ·exact .inr ⟨m',by omega,g2⟩
theorem zf2 {fr:List (List UInt8×List ItD)} {n f:Nat} {l:List ItD} {seen:List (List UInt8)} (h:Ex fr n l) (hf:n≤f):(flF fr f l seen).1.length≤n:=by
 rw[ze0 h hf]
 simpa using (zqf n l h f hf ([],seen)).1
theorem Zu {fr:List (List UInt8×List ItD)} {n f:Nat} {l:List ItD} {seen:List (List UInt8)} (h:Ex fr n l) (hf:n≤f) {y:ItD} (hy:y∈(flF fr f l seen).1):∃ m,m<n∧Ex fr m y.sub∧bMs y.args≤Lim:=by
 rw[ze0 h hf] at hy
 simpa using (zqf n l h f hf ([],seen)).2 y hy
def Y6:SelD→List UInt8
 | .mk k al nm _ _ _ _=>if k=0 then (if al=[] then nm else al) else []
abbrev PrS:=List ((Nat×Nat)×Bool)
abbrev yi:=PrS×PrS
def Yl (l:PrS) (k:Nat×Nat):Option Bool:=(l.find? fun e=>decide (k=e.1)).map (·.2)
def ZC:PrS→Nat×Nat→Bool→PrS
 | [],k,v=>[(k,v)]
 | (a,u)::r,k,v=>if k=a then (k,v)::r else (a,u)::ZC r k v
def zg5 (g:ItD→ItD→yi→Bool×yi) (x:ItD):List ItD→yi→Bool×yi
 | [],S=>(true,S)
 | y::r,S=>if Y6 x.x=Y6 y.x then (match g x y S with|(true,S')=>zg5 g x r S'|(false,S')=>(false,S')) else zg5 g x r S
def Y7 (g:ItD→ItD→yi→Bool×yi):List ItD→List ItD→yi→Bool×yi
 | [],_,S=>(true,S)
 | x::r,lb,S=>match zg5 g x lb S with|(true,S')=>Y7 g r lb S'|(false,S')=>(false,S')
def yT (fr:List (List UInt8×List ItD)) (a:ItD):List ItD:=(flF fr 64 a.sub []).1
def zek (s:SchD) (a b:TyD):Bool :=
 decide (a.lists=b.lists)&&decide (a.musts=b.musts)&&(if zaC s a.nm||zaC s b.nm then decide (a.nm=b.nm) else ZW s a.nm&&ZW s b.nm)
def shB (s:SchD) (fr:List (List UInt8×List ItD)) (g:ItD→ItD→yi→Bool×yi) (a b:ItD) (S:yi):Bool×yi :=
 match Yl S.1 (a.no,b.no) with
 | some r=>(r,S)
 | none =>
  if zek s ((yw s a.typ a.x.nm).getD zF).t ((yw s b.typ b.x.nm).getD zF).t=true then
   ((Y7 g (yT fr a) (yT fr b) S).1,(ZC (Y7 g (yT fr a) (yT fr b) S).2.1 (a.no,b.no) (Y7 g (yT fr a) (yT fr b) S).1,(Y7 g (yT fr a) (yT fr b) S).2.2))
  else (false,(ZC S.1 (a.no,b.no) false,S.2))
def shF (s:SchD) (fr:List (List UInt8×List ItD)):Nat→ItD→ItD→yi→Bool×yi
 | 0=>shB s fr fun _ _ S=>(true,S)
 | n+1=>shB s fr (shF s fr n)
def ze8 (s:SchD) (a b:ItD):Bool:=!decide (a.typ=b.typ)&&y8 s a.typ [1]&&y8 s b.typ [1]
end Go.Proofs.YtbcocdloklbkjaaGreatDoor
