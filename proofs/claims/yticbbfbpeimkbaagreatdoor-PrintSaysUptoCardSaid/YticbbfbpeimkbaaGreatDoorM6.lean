import Derived.Lib.ItoaMem
import Derived.Lib.ItoaLen
import Derived.Lib.ValidLaws
import Derived.Lib.ParseIntBTie
import Derived.Lib.Join
import Derived.Lib.DecodeN
import Derived.Lib.TrimUEq
import Derived.Shelf.Strings.OnBuilder
import Derived.Test.YticbbfbpeimkbaaGreatDoorM1
import Derived.Test.YticbbfbpeimkbaaGreatDoorM2
import Derived.Test.YticbbfbpeimkbaaGreatDoorM3
import Derived.Test.YticbbfbpeimkbaaGreatDoorM4
import Derived.Test.YticbbfbpeimkbaaGreatDoorM5
set_option maxRecDepth 100000
set_option linter.all false
namespace Go.Proofs.YticbbfbpeimkbaaGreatDoor
open Go.Ab
theorem zhS (m:List Mem) (hm:bMs m≤Lim):zo Tryz.prog 88 [.sl .no 6 (cMs m)] (.sl .no 6 (cMs m)) :=
 zj3 m hm fun s v hx=>copyV v (by
  obtain⟨a,b,hd⟩:=List.append_of_mem hx
  have:=y6 a (.mk s v) b
  rw[← hd] at this
  simp only[bM] at this
  omega)
theorem zgO (l:List DirD) (hm:bDs l≤Lim):zo Tryz.prog 68 [.sl .no 2 (cDs l)] (.sl .no 2 (cDs l)):=by
 refine zo.go ir68 ck68 (Al4 _) fun KP Q hQ=>?_
 have h1:=YW l
 have hml:=zbi l
 have hm':=hm
 simp only[Lim] at hm'
 simp(disch:=first|omega|assumption) only[ir68,go_sem]
 refine zm l 4 (fun x:Own×List DirD=>[(3,.sl x.1 2 (cDs x.2))]) (fun done rest x H=>x.2=done∧OwnF zh.emp H x.1 done.length 2) (.nil,[]) (by simp(disch:=first|omega|assumption) only[cDs,go_sem]) ⟨rfl,OwnF.nil _ _⟩ ?_ ?_
 ·rintro⟨o,done⟩ H J ⟨rfl,ho⟩ hlt
  simp(disch:=first|omega|assumption) only[h1,hlt,go_sem]
  exact hQ _ _ _ _ nofun rfl (by simp[ze,zd,AV.strip,AV.strip1])
 ·rintro done x rest ⟨o,ds⟩ H J hd hlt hlt' ⟨hds,ho⟩ hJ
  simp only at hds ho hJ ⊢
  obtain rfl:done=ds:=hds.symm
  have hg:=zah hd
  have hbm:=zbr done x rest
  rw[← hd] at hbm
  have h2:=YW done
  obtain⟨s,v⟩:=x
  simp only[bD] at hbm
  have ec:cD ⟨s,v⟩=[.str s,.sl .no 6 (cMs v)]:=rfl
  rw[ec] at hg
  simp(disch:=first|omega|assumption) only[zi,zf,zb,zj,zg,za,zk,h1,hlt,hg,go_sem]
  refine zc (zhS v (by simp only[Lim];omega)) ?_
  simp(disch:=first|omega|assumption) only[zi,zf,zb,zj,zg,za,zk,h1,hlt,hg,go_sem]
  refine zF (by rw[h2];exact ho.own) ?_ ?_ fun o' H' hs=>?_
  ·simp only[h2,Al2,Al3];omega
  ·simp only[h2,Al2,Al3,maxLen];omega
  rw[h2] at hs
  simp(disch:=first|omega|assumption) only[wrap64,go_sem]
  refine goJ (hJ (o',done++[⟨s,v⟩]) H' ⟨rfl,(ho.stepS hs).cast (by simp)⟩) (by simp(disch:=first|omega|assumption) only[cDs,List.map_append,List.map_cons,cD,AV.strip1,go_sem])
theorem zmm:∀ c:Nat,∀ l:List SelD,bSs l≤c→c≤Lim→zo Tryz.prog 37 [.sl .no 7 (cSs l)] (.sl .no 7 (cSs l)):=by
 intro c
 induction c using Nat.strongRecOn with
 | _ c ih =>
 intro l hb hc
 refine zo.go ir37 ck37 (Al4 _) fun KP Q hQ=>?_
 have h1:=ZD l
 have hml:=zav l
 have hc':=hc
 simp only[Lim] at hc'
 simp(disch:=first|omega|assumption) only[ir37,go_sem]
 refine zm l 4 (fun x:Own×List SelD=>[(3,.sl x.1 7 (cSs x.2))]) (fun done rest x H=>x.2=done∧OwnF zh.emp H x.1 done.length 7) (.nil,[]) (by simp(disch:=first|omega|assumption) only[cSs,go_sem]) ⟨rfl,OwnF.nil _ _⟩ ?_ ?_
 ·rintro⟨o,done⟩ H J ⟨rfl,ho⟩ hlt
  simp(disch:=first|omega|assumption) only[h1,hlt,go_sem]
  exact hQ _ _ _ _ nofun rfl (by simp[ze,zd,AV.strip,AV.strip1])
 ·rintro done x rest ⟨o,ds⟩ H J hd hlt hlt' ⟨hds,ho⟩ hJ
  simp only at hds ho hJ ⊢
  obtain rfl:done=ds:=hds.symm
  have hg:=Yu hd
  have hbm:=zam done x rest
  rw[← hd] at hbm
  have h2:=ZD done
  obtain⟨k,al,nm,args,dirs,on,sels⟩:=x
  simp only[bS] at hbm
  rw[Zu] at hg
  simp(disch:=first|omega|assumption) only[h1,hlt,hg,go_sem]
  refine zv fun b hb=>?_
  have ho2:=ho.upd (x:=.cells [.int .i64 k,.str al,.str nm,.sl .no 6 (cMs args),.sl .no 2 (cDs dirs),.str on,.sl .no 7 (cSs sels)]) hb
  simp(disch:=first|omega|assumption) only[h1,hlt,hg,go_sem]
  refine zc (zhS args (by simp only[Lim];omega)) ?_
  simp(disch:=first|omega|assumption) only[go_sem]
  refine zc (zgO dirs (by simp only[Lim];omega)) ?_
  simp(disch:=first|omega|assumption) only[go_sem]
  refine zc (ih (bSs sels) (by omega) sels (Al4 _) (by simp only[Lim];omega)) ?_
  simp(disch:=first|omega|assumption) only[go_sem]
  refine zF (by rw[h2];exact ho2.own) ?_ ?_ fun o' H' hs=>?_
  ·simp only[h2,Al2,Al3];omega
  ·simp only[h2,Al2,Al3,maxLen];omega
  rw[h2] at hs
  simp(disch:=first|omega|assumption) only[wrap64,go_sem]
  refine goJ (hJ (o',done++[.mk k al nm args dirs on sels]) H' ⟨rfl,(ho2.stepS hs).cast (by simp)⟩) (by simp(disch:=first|omega|assumption) only[zb9,List.map_append,List.map_cons,Zu,AV.strip1,go_sem])
theorem zhy (l:List SelD) (hb:bSs l≤Lim):zo Tryz.prog 37 [.sl .no 7 (cSs l)] (.sl .no 7 (cSs l)):=zmm (bSs l) l (Al4 _) hb
theorem zj2 (k:Int) (nm:List UInt8) (vars:List VarD) (dirs:List DirD) (sels:List SelD):cO ⟨k,nm,vars,dirs,sels⟩=[.int .i64 k,.str nm,.sl .no 10 (cWs vars),.sl .no 2 (cDs dirs),.sl .no 7 (cSs sels)]:=rfl
theorem zjK (nm on:List UInt8) (dirs:List DirD) (sels:List SelD):cF ⟨nm,on,dirs,sels⟩=[.str nm,.str on,.sl .no 2 (cDs dirs),.sl .no 7 (cSs sels)]:=rfl
theorem zcm (a b:List DirD) (ha:bDs a≤Lim):zo Tryz.prog 153 [.sl .no 2 (cDs a),.sl .no 2 (cDs b)] (.bool (eqd a b)):=by
 refine zo.go ir153 ck153 (Al4 _) fun KP Q hQ=>?_
 have h1:=YW a
 have h2:=YW b
 have hla:=zbi a
 simp only[Lim] at ha
 by_cases hl:a.length=b.length
 case neg =>
  have hl':¬ ((a.length:Int)=b.length):=by omega
  have hne:a≠b:=fun e=>hl (by rw[e])
  simp(disch:=first|omega|assumption) only[ir153,h1,h2,hl',go_sem]
  exact hQ _ _ _ _ nofun rfl (by simp[ze,zd,AV.strip,AV.strip1,zn hne])
 have hl':((a.length:Int)=b.length)=True:=eq_true (by omega)
 simp(disch:=first|omega|assumption) only[ir153,h1,h2,hl',go_sem]
 refine zm a 5 (fun _:Unit=>[]) (fun done rest n H=>b.take done.length=done) () (by simp(disch:=first|omega|assumption) only[go_sem]) rfl ?_ ?_
 ·rintro n H J hp hlt
  simp(disch:=first|omega|assumption) only[h1,hlt,go_sem]
  exact hQ _ _ _ _ nofun rfl (by simp[ze,zd,AV.strip,AV.strip1,zN (Z3 hl hp)])
 ·rintro done x rest n H J hd hlt _ hp hJ
  obtain⟨y,r,hb⟩:=ZX hd hl hp
  have g1:=zah hd
  have g2:=zah hb
  have hlt2:(done.length:Int)<b.length:=by omega
  have hbm:=zbr done x rest
  rw[← hd] at hbm
  have hst:=Zz hb
  have hne:x≠y→a≠b:=YX hd hb
  obtain⟨s,v⟩:=x
  obtain⟨t,u⟩:=y
  simp only[bD] at hbm
  by_cases hs:s=t
  case neg =>
   have hne2:=hne (by simp[hs])
   simp(disch:=first|omega|assumption) only[h1,h2,hlt,hlt2,g1,g2,hs,cD,go_sem]
   exact hQ _ _ _ _ nofun rfl (by simp[ze,zd,AV.strip,AV.strip1,zn hne2])
  simp(disch:=first|omega|assumption) only[h1,h2,hlt,hlt2,g1,g2,hs,cD,go_sem]
  refine zc (zgg v u (by simp only[Lim];omega)) ?_
  by_cases hv:v=u
  ·simp(disch:=first|omega|assumption) only[zN hv,go_sem]
   exact goJ (hJ () _ (by rw[hs,hv];exact hst)) (by simp(disch:=first|omega|assumption) only[wrap64,go_sem])
  ·have:=hne (by simp[hv])
   simp(disch:=first|omega|assumption) only[zn hv,go_sem]
   exact hQ _ _ _ _ nofun rfl (by simp[ze,zd,AV.strip,AV.strip1,zn this])
theorem zii:∀ n:Nat,∀ a b:List SelD,bSs a≤n→n≤Lim→zo Tryz.prog 154 [.sl .no 7 (cSs a),.sl .no 7 (cSs b)] (.bool (eqd a b)):=by
 intro n
 induction n using Nat.strongRecOn with
 | _ n ih =>
 intro a b hn hN
 refine zo.go ir154 ck154 (Al4 _) fun KP Q hQ=>?_
 have h1:=ZD a
 have h2:=ZD b
 have hla:=zav a
 have hN':=hN
 simp only[Lim] at hN'
 by_cases hl:a.length=b.length
 case neg =>
  have hl':¬ ((a.length:Int)=b.length):=by omega
  have hne:a≠b:=fun e=>hl (by rw[e])
  simp(disch:=first|omega|assumption) only[ir154,h1,h2,hl',go_sem]
  exact hQ _ _ _ _ nofun rfl (by simp[ze,zd,AV.strip,AV.strip1,zn hne])
 have hl':((a.length:Int)=b.length)=True:=eq_true (by omega)
 simp(disch:=first|omega|assumption) only[ir154,h1,h2,hl',go_sem]
 refine zm a 5 (fun _:Unit=>[]) (fun done rest n H=>b.take done.length=done) () (by simp(disch:=first|omega|assumption) only[go_sem]) rfl ?_ ?_
 ·rintro n H J hp hlt
  simp(disch:=first|omega|assumption) only[h1,hlt,go_sem]
  exact hQ _ _ _ _ nofun rfl (by simp[ze,zd,AV.strip,AV.strip1,zN (Z3 hl hp)])
 ·rintro done x rest _ H J hd hlt _ hp hJ
  obtain⟨y,r,hb⟩:=ZX hd hl hp
  have g1:=Yu hd
  have g2:=Yu hb
  have hlt2:(done.length:Int)<b.length:=by omega
  have hbm:=zam done x rest
  rw[← hd] at hbm
  have hst:=Zz hb
  have hne:x≠y→a≠b:=YX hd hb
  obtain⟨k,al,nm,args,dirs,on,sels⟩:=x
  obtain⟨k',al',nm',args',dirs',on',sels'⟩:=y
  simp only[bS] at hbm
  rw[Zu] at g1 g2
  simp(disch:=first|omega|assumption) only[h1,h2,hlt,hlt2,g1,g2,go_sem]
  refine zv fun b6 hb6=>?_
  simp(disch:=first|omega|assumption) only[h1,h2,hlt,hlt2,g1,g2,go_sem]
  refine zv fun b7 hb7=>?_
  have n76:b7≠b6:=fun e=>by subst e;rw[upd_same] at hb7;cases hb7
  have n67:=Ne.symm n76
  simp(disch:=first|omega|assumption) only[h1,h2,hlt,hlt2,g1,g2,n67,n76,go_sem]
  by_cases e1:k=k'
  case neg =>
   have hne2:=hne (by simp[e1])
   simp(disch:=first|omega|assumption) only[e1,n67,n76,go_sem]
   exact hQ _ _ _ _ nofun rfl (by simp[ze,zd,AV.strip,AV.strip1,zn hne2])
  by_cases e2:al=al'
  case neg =>
   have hne2:=hne (by simp[e2])
   simp(disch:=first|omega|assumption) only[e1,e2,n67,n76,go_sem]
   exact hQ _ _ _ _ nofun rfl (by simp[ze,zd,AV.strip,AV.strip1,zn hne2])
  by_cases e3:nm=nm'
  case neg =>
   have hne2:=hne (by simp[e3])
   simp(disch:=first|omega|assumption) only[e1,e2,e3,n67,n76,go_sem]
   exact hQ _ _ _ _ nofun rfl (by simp[ze,zd,AV.strip,AV.strip1,zn hne2])
  by_cases e4:on=on'
  case neg =>
   have hne2:=hne (by simp[e4])
   simp(disch:=first|omega|assumption) only[e1,e2,e3,e4,n67,n76,go_sem]
   exact hQ _ _ _ _ nofun rfl (by simp[ze,zd,AV.strip,AV.strip1,zn hne2])
  simp(disch:=first|omega|assumption) only[e1,e2,e3,e4,n67,n76,go_sem]
  refine zc (zgg args args' (by omega)) ?_
  by_cases e5:args=args'
  case neg =>
   have hne2:=hne (by simp[e5])
   simp(disch:=first|omega|assumption) only[zn e5,n67,n76,go_sem]
   exact hQ _ _ _ _ nofun rfl (by simp[ze,zd,AV.strip,AV.strip1,zn hne2])
  simp(disch:=first|omega|assumption) only[zN e5,n67,n76,go_sem]
  refine zc (zcm dirs dirs' (by omega)) ?_
  by_cases e6:dirs=dirs'
  case neg =>
   have hne2:=hne (by simp[e6])
   simp(disch:=first|omega|assumption) only[zn e6,n67,n76,go_sem]
   exact hQ _ _ _ _ nofun rfl (by simp[ze,zd,AV.strip,AV.strip1,zn hne2])
  simp(disch:=first|omega|assumption) only[zN e6,n67,n76,go_sem]
  refine zc (ih (bSs sels) (by omega) sels sels' (Al4 _) (by omega)) ?_
  by_cases e7:sels=sels'
  case neg =>
   have hne2:=hne (by simp[e7])
   simp(disch:=first|omega|assumption) only[zn e7,n67,n76,go_sem]
   exact hQ _ _ _ _ nofun rfl (by simp[ze,zd,AV.strip,AV.strip1,zn hne2])
  simp(disch:=first|omega|assumption) only[zN e7,n67,n76,go_sem]
  exact goJ (hJ () _ (by rw[e1,e2,e3,e4,e5,e6,e7];exact hst)) (by simp(disch:=first|omega|assumption) only[wrap64,go_sem])
theorem zep (a b:List SelD) (ha:bSs a≤Lim):zo Tryz.prog 154 [.sl .no 7 (cSs a),.sl .no 7 (cSs b)] (.bool (eqd a b)):=zii (bSs a) a b (Al4 _) ha
theorem zln (a b:OpD) (ha:bO a≤Lim):zo Tryz.prog 85 [.agg (cO a),.agg (cO b)] (.bool (eqd a b)):=by
 refine zo.go ir85 ck85 (Al4 _) fun KP Q hQ=>?_
 obtain⟨k,nm,vars,dirs,sels⟩:=a
 obtain⟨k',nm',vars',dirs',sels'⟩:=b
 simp only[bO] at ha
 have h1:=zaz vars
 have h2:=zaz vars'
 have hla:=zbt vars
 have ha':=ha
 simp only[Lim] at ha'
 simp(disch:=first|omega|assumption) only[ir85,cO,go_sem]
 by_cases e1:k=k'
 case neg =>
  have hne:OpD.mk k nm vars dirs sels≠OpD.mk k' nm' vars' dirs' sels':=by simp[e1]
  simp(disch:=first|omega|assumption) only[e1,go_sem]
  exact hQ _ _ _ _ nofun rfl (by simp[ze,zd,AV.strip,AV.strip1,zn hne])
 by_cases e2:nm=nm'
 case neg =>
  have hne:OpD.mk k nm vars dirs sels≠OpD.mk k' nm' vars' dirs' sels':=by simp[e2]
  simp(disch:=first|omega|assumption) only[e1,e2,go_sem]
  exact hQ _ _ _ _ nofun rfl (by simp[ze,zd,AV.strip,AV.strip1,zn hne])
 by_cases hl:vars.length=vars'.length
 case neg =>
  have hl':¬ ((vars.length:Int)=vars'.length):=by omega
  have hne:OpD.mk k nm vars dirs sels≠OpD.mk k' nm' vars' dirs' sels':=fun e=>hl (by rw[(OpD.mk.inj e).2.2.1])
  simp(disch:=first|omega|assumption) only[e1,e2,h1,h2,hl',go_sem]
  exact hQ _ _ _ _ nofun rfl (by simp[ze,zd,AV.strip,AV.strip1,zn hne])
 have hl':((vars.length:Int)=vars'.length)=True:=eq_true (by omega)
 simp(disch:=first|omega|assumption) only[e1,e2,h1,h2,hl',go_sem]
 refine zc (zcm dirs dirs' (by omega)) ?_
 by_cases e3:dirs=dirs'
 case neg =>
  have hne:OpD.mk k nm vars dirs sels≠OpD.mk k' nm' vars' dirs' sels':=by simp[e3]
  simp(disch:=first|omega|assumption) only[zn e3,go_sem]
  exact hQ _ _ _ _ nofun rfl (by simp[ze,zd,AV.strip,AV.strip1,zn hne])
 simp(disch:=first|omega|assumption) only[zN e3,go_sem]
 refine zc (zep sels sels' (by omega)) ?_
 by_cases e4:sels=sels'
 case neg =>
  have hne:OpD.mk k nm vars dirs sels≠OpD.mk k' nm' vars' dirs' sels':=by simp[e4]
  simp(disch:=first|omega|assumption) only[zn e4,go_sem]
  exact hQ _ _ _ _ nofun rfl (by simp[ze,zd,AV.strip,AV.strip1,zn hne])
 simp(disch:=first|omega|assumption) only[zN e4,go_sem]
 refine zm vars 5 (fun _:Unit=>[]) (fun done rest n H=>vars'.take done.length=done) () (by simp(disch:=first|omega|assumption) only[go_sem]) rfl ?_ ?_
 ·rintro n H J hp hlt
  have e5:=Z3 hl hp
  simp(disch:=first|omega|assumption) only[h1,hlt,go_sem]
  have heq:OpD.mk k nm vars dirs sels=OpD.mk k' nm' vars' dirs' sels':=by rw[e1,e2,e3,e4,e5]
  exact hQ _ _ _ _ nofun rfl (by simp[ze,zd,AV.strip,AV.strip1,zN heq])
 ·rintro done x rest _ H J hd hlt _ hp hJ
  obtain⟨y,r,hb⟩:=ZX hd hl hp
  have g1:=yX hd
  have g2:=yX hb
  have hlt2:(done.length:Int)<vars'.length:=by omega
  have hbm:=y7 done x rest
  rw[← hd] at hbm
  have hst:=Zz hb
  have hne0:x≠y→vars≠vars':=YX hd hb
  have hne:x≠y→OpD.mk k nm vars dirs sels≠OpD.mk k' nm' vars' dirs' sels':=fun h e=>hne0 h (OpD.mk.inj e).2.2.1
  obtain⟨vn,⟨tn,tl,tm⟩,vh,vd⟩:=x
  obtain⟨vn',⟨tn',tl',tm'⟩,vh',vd'⟩:=y
  simp only[bW] at hbm
  obtain⟨dk,dn,ds,dl,dm⟩:=vd
  obtain⟨dk',dn',ds',dl',dm'⟩:=vd'
  rw[Ye,zE] at g1 g2
  simp only at g1 g2
  simp(disch:=first|omega|assumption) only[h1,h2,hlt,hlt2,g1,g2,go_sem]
  refine zv fun b6 hb6=>?_
  simp(disch:=first|omega|assumption) only[h1,h2,hlt,hlt2,g1,g2,go_sem]
  refine zv fun b7 hb7=>?_
  have n76:b7≠b6:=fun e=>by subst e;rw[upd_same] at hb7;cases hb7
  have n67:=Ne.symm n76
  simp(disch:=first|omega|assumption) only[h1,h2,hlt,hlt2,g1,g2,n67,n76,go_sem]
  by_cases f1:vn=vn'
  case neg =>
   have hne2:=hne (by simp[f1])
   simp(disch:=first|omega|assumption) only[f1,n67,n76,go_sem]
   exact hQ _ _ _ _ nofun rfl (by simp[ze,zd,AV.strip,AV.strip1,zn hne2])
  by_cases f3:tn=tn'
  case neg =>
   have hne2:=hne (by simp[f3])
   simp(disch:=first|omega|assumption) only[f1,f3,n67,n76,yg,K1.fits,zaA,AV.keq1,Bool.and_true,Bool.true_and,Bool.and_false,Bool.false_and,decide_true,decide_false,go_sem]
   exact hQ _ _ _ _ nofun rfl (by simp[ze,zd,AV.strip,AV.strip1,zn hne2])
  by_cases f4:tl=tl'
  case neg =>
   have hne2:=hne (by simp[f4])
   simp(disch:=first|omega|assumption) only[f1,f3,f4,n67,n76,yg,K1.fits,zaA,AV.keq1,Bool.and_true,Bool.true_and,Bool.and_false,Bool.false_and,decide_true,decide_false,go_sem]
   exact hQ _ _ _ _ nofun rfl (by simp[ze,zd,AV.strip,AV.strip1,zn hne2])
  by_cases f5:tm=tm'
  case neg =>
   have hne2:=hne (by simp[f5])
   simp(disch:=first|omega|assumption) only[f1,f3,f4,f5,n67,n76,yg,K1.fits,zaA,AV.keq1,Bool.and_true,Bool.true_and,Bool.and_false,Bool.false_and,decide_true,decide_false,go_sem]
   exact hQ _ _ _ _ nofun rfl (by simp[ze,zd,AV.strip,AV.strip1,zn hne2])
  have q1:(false==true)=false:=rfl
  have q2:(true==false)=false:=rfl
  have q3:(true==true)=true:=rfl
  have q4:(false==false)=true:=rfl
  by_cases f6:vh=vh'
  case neg =>
   have hne2:=hne (by simp[f6])
   cases vh<;>cases vh'<;>first|exact absurd rfl f6|skip
   all_goals
    simp(disch:=first|omega|assumption) only[f1,f3,f4,f5,n67,n76,q1,q2,q3,q4,Bool.not_true,Bool.not_false,yg,K1.fits,zaA,AV.keq1,Bool.and_true,Bool.true_and,Bool.and_false,Bool.false_and,decide_true,decide_false,go_sem]
    exact hQ _ _ _ _ nofun rfl (by simp[ze,zd,AV.strip,AV.strip1,zn hne2])
  subst f6
  cases vh
  all_goals
   simp(disch:=first|omega|assumption) only[f1,f3,f4,f5,n67,n76,q1,q2,q3,q4,Bool.not_true,Bool.not_false,yg,K1.fits,zaA,AV.keq1,Bool.and_true,Bool.true_and,Bool.and_false,Bool.false_and,decide_true,decide_false,go_sem]
   refine zc (zka (.mk dk dn ds dl dm) (by omega) (.mk dk' dn' ds' dl' dm')) ?_
   by_cases f7:Val.mk dk dn ds dl dm=.mk dk' dn' ds' dl' dm'
   case neg =>
    have hne2:=hne (fun e=>f7 (VarD.mk.inj e).2.2.2)
    simp(disch:=first|omega|assumption) only[zn f7,go_sem]
    exact hQ _ _ _ _ nofun rfl (by simp[ze,zd,AV.strip,AV.strip1,zn hne2])
   simp(disch:=first|omega|assumption) only[zN f7,go_sem]
   exact goJ (hJ () _ (by rw[f1,f3,f4,f5,f7];exact hst)) (by simp(disch:=first|omega|assumption) only[wrap64,go_sem])
theorem ziy (a b:FragD) (ha:bF a≤Lim):zo Tryz.prog 86 [.agg (cF a),.agg (cF b)] (.bool (eqd a b)):=by
 refine zo.go ir86 ck86 (Al4 _) fun KP Q hQ=>?_
 obtain⟨nm,on,dirs,sels⟩:=a
 obtain⟨nm',on',dirs',sels'⟩:=b
 simp only[bF] at ha
 have ha':=ha
 simp only[Lim] at ha'
 simp(disch:=first|omega|assumption) only[ir86,cF,go_sem]
 by_cases e1:nm=nm'
 case neg =>
  have hne:FragD.mk nm on dirs sels≠FragD.mk nm' on' dirs' sels':=by simp[e1]
  simp(disch:=first|omega|assumption) only[e1,go_sem]
  exact hQ _ _ _ _ nofun rfl (by simp[ze,zd,AV.strip,AV.strip1,zn hne])
 by_cases e2:on=on'
 case neg =>
  have hne:FragD.mk nm on dirs sels≠FragD.mk nm' on' dirs' sels':=by simp[e2]
  simp(disch:=first|omega|assumption) only[e1,e2,go_sem]
  exact hQ _ _ _ _ nofun rfl (by simp[ze,zd,AV.strip,AV.strip1,zn hne])
 simp(disch:=first|omega|assumption) only[e1,e2,go_sem]
 refine zc (zcm dirs dirs' (by omega)) ?_
 by_cases e3:dirs=dirs'
 case neg =>
  have hne:FragD.mk nm on dirs sels≠FragD.mk nm' on' dirs' sels':=by simp[e3]
  simp(disch:=first|omega|assumption) only[zn e3,go_sem]
  exact hQ _ _ _ _ nofun rfl (by simp[ze,zd,AV.strip,AV.strip1,zn hne])
 simp(disch:=first|omega|assumption) only[zN e3,go_sem]
 refine zc (zep sels sels' (by omega)) ?_
 by_cases e4:sels=sels'
 case neg =>
  have hne:FragD.mk nm on dirs sels≠FragD.mk nm' on' dirs' sels':=by simp[e4]
  simp(disch:=first|omega|assumption) only[zn e4,go_sem]
  exact hQ _ _ _ _ nofun rfl (by simp[ze,zd,AV.strip,AV.strip1,zn hne])
 have heq:FragD.mk nm on dirs sels=FragD.mk nm' on' dirs' sels':=by rw[e1,e2,e3,e4]
 simp(disch:=first|omega|assumption) only[zN e4,go_sem]
 exact hQ _ _ _ _ nofun rfl (by simp[ze,zd,AV.strip,AV.strip1,zN heq])
theorem zjH (a b:DocD) (ha:Yh a≤Lim):zo Tryz.prog 34 [.agg (ZN a),.agg (ZN b)] (.bool (eqd a b)):=by
 refine zo.go ir34 ck34 (Al4 _) fun KP Q hQ=>?_
 obtain⟨ops,frags⟩:=a
 obtain⟨ops',frags'⟩:=b
 simp only[Yh] at ha
 have h1:=YT ops
 have h2:=YT ops'
 have h3:=YP frags
 have h4:=YP frags'
 have hla:=zbx ops
 have hlb:=zbs frags
 have ha':=ha
 simp only[Lim] at ha'
 have ea:ZN ⟨ops,frags⟩=[.sl .no 5 (cOs ops),.sl .no 4 (cFs frags)]:=rfl
 have eb:ZN ⟨ops',frags'⟩=[.sl .no 5 (cOs ops'),.sl .no 4 (cFs frags')]:=rfl
 rw[ea,eb]
 by_cases hl:ops.length=ops'.length
 case neg =>
  have hl':¬ ((ops.length:Int)=ops'.length):=by omega
  have hne:DocD.mk ops frags≠DocD.mk ops' frags':=fun e=>hl (by rw[(DocD.mk.inj e).1])
  simp(disch:=first|omega|assumption) only[ir34,h1,h2,hl',go_sem]
  exact hQ _ _ _ _ nofun rfl (by simp[ze,zd,AV.strip,AV.strip1,zn hne])
 have hl':((ops.length:Int)=ops'.length)=True:=eq_true (by omega)
 by_cases hk:frags.length=frags'.length
 case neg =>
  have hk':¬ ((frags.length:Int)=frags'.length):=by omega
  have hne:DocD.mk ops frags≠DocD.mk ops' frags':=fun e=>hk (by rw[(DocD.mk.inj e).2])
  simp(disch:=first|omega|assumption) only[ir34,h1,h2,hl',h3,h4,hk',go_sem]
  exact hQ _ _ _ _ nofun rfl (by simp[ze,zd,AV.strip,AV.strip1,zn hne])
 have hk':((frags.length:Int)=frags'.length)=True:=eq_true (by omega)
 simp(disch:=first|omega|assumption) only[ir34,h1,h2,hl',h3,h4,hk',go_sem]
 refine zm ops 5 (fun _:Unit=>[]) (fun done rest n H=>ops'.take done.length=done) () (by simp(disch:=first|omega|assumption) only[go_sem]) rfl ?_ ?_
 ·rintro n H J hp hlt
  have e5:=Z3 hl hp
  simp(disch:=first|omega|assumption) only[h1,hlt,go_sem]
  refine zm frags 6 (fun _:Unit=>[]) (fun done rest n H=>frags'.take done.length=done) () (by simp(disch:=first|omega|assumption) only[go_sem]) rfl ?_ ?_
  ·rintro n H J hp hlt
   have e6:=Z3 hk hp
   have heq:DocD.mk ops frags=DocD.mk ops' frags':=by rw[e5,e6]
   simp(disch:=first|omega|assumption) only[h3,hlt,go_sem]
   exact hQ _ _ _ _ nofun rfl (by simp[ze,zd,AV.strip,AV.strip1,zN heq])
  ·rintro done x rest _ H J hd hlt _ hp hJ
   obtain⟨y,r,hb⟩:=ZX hd hk hp
   have g1:=zar hd
   have g2:=zar hb
   have hlt2:(done.length:Int)<frags'.length:=by omega
   have hbm:=zbp done x rest
   rw[← hd] at hbm
   have hst:=Zz hb
   have hne0:x≠y→frags≠frags':=YX hd hb
   have hne:x≠y→DocD.mk ops frags≠DocD.mk ops' frags':=fun e e2=>hne0 e (DocD.mk.inj e2).2
   have hS:=ziy x y (by simp only[Lim];omega)
   obtain⟨nm,on,dirs,sels⟩:=x
   obtain⟨nm',on',dirs',sels'⟩:=y
   have ex:cF ⟨nm,on,dirs,sels⟩=[.str nm,.str on,.sl .no 2 (cDs dirs),.sl .no 7 (cSs sels)]:=rfl
   have ey:cF ⟨nm',on',dirs',sels'⟩=[.str nm',.str on',.sl .no 2 (cDs dirs'),.sl .no 7 (cSs sels')]:=rfl
   rw[ex] at g1 hS
   rw[ey] at g2 hS
   simp(disch:=first|omega|assumption) only[h3,h4,hlt,hlt2,g1,g2,go_sem]
   refine zc hS ?_
   by_cases hv:FragD.mk nm on dirs sels=FragD.mk nm' on' dirs' sels'
   ·simp(disch:=first|omega|assumption) only[zN hv,go_sem]
    exact goJ (hJ () _ (by rw[hv];exact hst)) (by simp(disch:=first|omega|assumption) only[wrap64,go_sem])
   ·have:=hne hv
    simp(disch:=first|omega|assumption) only[zn hv,go_sem]
    exact hQ _ _ _ _ nofun rfl (by simp[ze,zd,AV.strip,AV.strip1,zn this])
 ·rintro done x rest _ H J hd hlt _ hp hJ
  obtain⟨y,r,hb⟩:=ZX hd hl hp
  have g1:=zaF hd
  have g2:=zaF hb
  have hlt2:(done.length:Int)<ops'.length:=by omega
  have hbm:=zbn done x rest
  rw[← hd] at hbm
  have hst:=Zz hb
  have hne0:x≠y→ops≠ops':=YX hd hb
  have hne:x≠y→DocD.mk ops frags≠DocD.mk ops' frags':=fun e e2=>hne0 e (DocD.mk.inj e2).1
  have hS:=zln x y (by simp only[Lim];omega)
  obtain⟨k,nm,vars,dirs,sels⟩:=x
  obtain⟨k',nm',vars',dirs',sels'⟩:=y
  have ex:cO ⟨k,nm,vars,dirs,sels⟩=[.int .i64 k,.str nm,.sl .no 10 (cWs vars),.sl .no 2 (cDs dirs),.sl .no 7 (cSs sels)]:=rfl
  have ey:cO ⟨k',nm',vars',dirs',sels'⟩=[.int .i64 k',.str nm',.sl .no 10 (cWs vars'),.sl .no 2 (cDs dirs'),.sl .no 7 (cSs sels')]:=rfl
  rw[ex] at g1 hS
  rw[ey] at g2 hS
  simp(disch:=first|omega|assumption) only[h1,h2,hlt,hlt2,g1,g2,go_sem]
  refine zc hS ?_
  by_cases hv:OpD.mk k nm vars dirs sels=OpD.mk k' nm' vars' dirs' sels'
  ·simp(disch:=first|omega|assumption) only[zN hv,go_sem]
   exact goJ (hJ () _ (by rw[hv];exact hst)) (by simp(disch:=first|omega|assumption) only[wrap64,go_sem])
  ·have:=hne hv
   simp(disch:=first|omega|assumption) only[zn hv,go_sem]
   exact hQ _ _ _ _ nofun rfl (by simp[ze,zd,AV.strip,AV.strip1,zn this])
def wfD (x:DirD):Prop:=zco x.args
def zf2 (l:List DirD):Prop:=∀ x∈l,wfD x
mutual
def wfS:SelD→Prop
 | .mk _ _ _ args dirs _ sels=>zco args∧zf2 dirs∧zb7 sels
def zb7:List SelD→Prop
 | []=>True
 | x::r=>wfS x∧zb7 r
end
theorem zfL:∀ {l:List SelD},(∀ v∈l,wfS v)→zb7 l
 | [],_=>trivial
 | v::r,h=>⟨h v (.head _),zfL fun x hx=>h x (.tail _ hx)⟩
def wfW (x:VarD):Prop:=inR x.t.lists∧inR x.t.musts∧wfV x.d
def wfO (x:OpD):Prop:=(∀ y∈x.vars,wfW y)∧zf2 x.dirs∧zb7 x.sels
def wfF (x:FragD):Prop:=zf2 x.dirs∧zb7 x.sels
def YR (d:DocD):Prop:=(∀ x∈d.ops,wfO x)∧∀ x∈d.frags,wfF x
def pk (s:List UInt8):Tok:=⟨1,s⟩
def wk (s:List UInt8):Tok:=⟨2,s⟩
def yo (dp:Int) (fixed:Bool) (v:Val):Bool:=ZE v&&(decide (dp+yG v≤16)&&(!fixed||decide ((ym v []).length=0)))
def ze2 (dp:Int) (fixed:Bool):Mem→Bool
 | .mk s v=>zJ s&&yo dp fixed v
def yK (dp:Int) (fixed:Bool) (l:List Mem):Bool:=l.all (ze2 dp fixed)
def zda (dp:Int) (fixed:Bool) (d:DirD):Bool:=zJ d.nm&&yK dp fixed d.args
def yf (dp:Int) (fixed:Bool) (l:List DirD):Bool:=l.all (zda dp fixed)
mutual
def zG (dp : Int) : SelD → Bool
  | .mk k al nm args dirs on sels => yf dp false dirs &&
    (if k = 0 then zJ nm && ((decide (al = []) || zJ al) && (decide (on = []) && (yK dp false args && (decide (sels.length = 0) || (decide (dp + 1 ≤ 16) && yx (dp + 1) sels)))))
     else if k = 1 then zJ nm && (decide (nm ≠ [111, 110]) && (decide (al = []) && (decide (on = []) && (decide (args.length = 0) && decide (sels.length = 0)))))
     else if k = 2 then decide (nm = []) && (decide (al = []) && (decide (args.length = 0) && ((decide (on = []) || zJ on) && (decide (sels.length ≠ 0) && (decide (dp + 1 ≤ 16) && yx (dp + 1) sels)))))
     else false)
def yx (dp:Int):List SelD→Bool
 | []=>true
 | x::r=>zG dp x&&yx dp r
end
def zI (dp:Int) (l:List SelD):Bool:=decide (l.length≠0)&&(decide (dp≤16)&&yx dp l)
def zT (t:TyD):Bool:=zJ t.nm&&(decide (0≤t.lists)&&(decide (t.lists≤4)&&(decide (0≤t.musts)&&decide (t.musts<2 ^ (t.lists.toNat+1)))))
noncomputable def Yq (has:Bool) (v:Val):Bool:=if has then yo 0 true v else eqd v zV
noncomputable def yk (x:VarD):Bool:=zJ x.nm&&(zT x.t&&Yq x.has x.d)
noncomputable def yi (o:OpD):Bool:=(decide (o.k=0)||decide (o.k=1))&&((decide (o.nm=[])||zJ o.nm)&&(o.vars.all yk&&(yf 0 true o.dirs&&zI 1 o.sels)))
def Zi (f:FragD):Bool:=decide (f.nm≠[111,110])&&(zJ f.nm&&(zJ f.on&&(yf 0 true f.dirs&&zI 1 f.sels)))
noncomputable def z1 (d:DocD):Bool:=decide (0<d.ops.length+d.frags.length)&&(d.ops.all yi&&d.frags.all Zi)
def YI (l:List Mem):List Tok:=if l.length=0 then [] else pk [40]::(yQ l++[pk [41]])
def tD (d:DirD):List Tok:=pk [64]::wk d.nm::YI d.args
def tDs (l:List DirD):List Tok:=l.flatMap tD
mutual
def tS:SelD→List Tok
 | .mk k al nm args dirs on sels=>(if k=0 then (if al=[] then [] else [wk al,pk [58]])++(wk nm::YI args) else if k=1 then [pk [46,46,46],wk nm] else pk [46,46,46]::(if on=[] then [] else [wk [111,110],wk on])) ++
  (tDs dirs++(if sels.length=0 then [] else pk [123]::(tSl sels++[pk [125]])))
def tSl:List SelD→List Tok
 | []=>[]
 | x::r=>tS x++tSl r
end
def tBl (l:List SelD):List Tok:=pk [123]::(tSl l++[pk [125]])
def zaN (m:Int) (i:Nat):Bool:=decide (m / 2 ^ i % 2=1)
def zgW (n:Nat) (m:Int) (i:Nat):List Tok:=(if i<n then [pk [93]] else [])++(if zaN m i then [pk [33]] else [])
def zjp (n:Nat) (m:Int):Nat→List Tok
 | 0=>zgW n m 0
 | i+1=>zgW n m (i+1)++zjp n m i
def tTy (t:TyD):List Tok:=List.replicate t.lists.toNat (pk [91])++(wk t.nm::zjp t.lists.toNat t.musts t.lists.toNat)
def tDf (has:Bool) (v:Val):List Tok:=if has then pk [61]::yD v else []
def tW (x:VarD):List Tok:=pk [36]::wk x.nm::pk [58]::(tTy x.t++tDf x.has x.d)
def tWs (l:List VarD):List Tok:=if l.length=0 then [] else pk [40]::(l.flatMap tW++[pk [41]])
def tO (o:OpD):List Tok:=wk (if o.k=0 then [113,117,101,114,121] else [109,117,116,97,116,105,111,110])::((if o.nm=[] then [] else [wk o.nm])++(tWs o.vars++(tDs o.dirs++tBl o.sels)))
def tF (f:FragD):List Tok:=wk [102,114,97,103,109,101,110,116]::wk f.nm::wk [111,110]::wk f.on::(tDs f.dirs++tBl f.sels)
def Y1 (d:DocD):List Tok:=d.ops.flatMap tO++d.frags.flatMap tF
theorem ze5:∀ a b,tSl (a++b)=tSl a++tSl b
 | [],b=>rfl
 | x::a,b=>by simp[tSl,ze5 a b]
theorem za3 (dp:Int):∀ a b,yx dp (a++b)=(yx dp a&&yx dp b)
 | [],b=>by simp[yx]
 | x::a,b=>by simp[yx,za3 dp a b,yM]
theorem zbk:∀ a b,yQ (a++b)=yQ a++yQ b
 | [],b=>rfl
 | x::a,b=>by simp[yQ,zbk a b]
open Go.Lib Go.RowKit Go.Sort
theorem zgL (s:List UInt8) (c:UInt8):zo Tryz.prog 209 [.str s,.str [c]] (.bool (decide (0≤Lib.indexByte s c))):=by
 refine zo.of_calls fun γ w vs ht hv=>?_
 obtain⟨hl,hr⟩:=hv
 match vs,hl with
 | [v,u],_ =>
  cases hr 0 _ _ rfl rfl
  cases hr 1 _ _ rfl rfl
  exact(Tryz.strings_Contains_one ⟨s.toArray⟩ c w).mono fun e w' ⟨he,hw⟩=>⟨hw,_,he,.bool _⟩
end Go.Proofs.YticbbfbpeimkbaaGreatDoor
namespace Go.Proofs.YticbbfbpeimkbaaGreatDoor
open Go.Ab
def hexL:List UInt8:=[48,49,50,51,52,53,54,55,56,57,97,98,99,100,101,102]
def YB (n:Nat):List UInt8 :=
 if n≤127 then [UInt8.ofNat n]
 else if n≤2047 then [UInt8.ofNat (192+n / 64),UInt8.ofNat (128+n % 64)]
 else if n≤65535 then [UInt8.ofNat (224+n / 4096),UInt8.ofNat (128+n / 64 % 64),UInt8.ofNat (128+n % 64)]
 else [UInt8.ofNat (240+n / 262144),UInt8.ofNat (128+n / 4096 % 64),UInt8.ofNat (128+n / 64 % 64),UInt8.ofNat (128+n % 64)]
def bk (c:UInt8):Bool:=decide (0≤Lib.indexByte [9,10,13,32] c)
theorem zgi (n:Nat):(YB n).length≤4∧(n≤65535→(YB n).length≤3):=by
 unfold YB
 split
 ·simp
 ·split
  ·simp
  ·split
   ·simp
   ·refine⟨by simp,fun h=>by omega⟩
theorem ZI (l:List UInt8):(bytesOf l).length=l.length:=by simp[bytesOf]
theorem zaS (a b:List UInt8):bytesOf a++bytesOf b=bytesOf (a++b):=by simp[bytesOf]
theorem zeh (l:List UInt8):(bytesOf l).map (·.map AV.strip1)=bytesOf l:=by simp[bytesOf,AV.strip1]
theorem zbw (l:List UInt8):zbc (bytesOf l)=some l:=by
 induction l with
 | nil=>rfl
 | cons c r ih =>
  have h:=c.toNat_lt
  simp only[bytesOf,List.map_cons] at ih ⊢
  simp only[zbc,ih,ZB]
  rw[if_pos ⟨by omega,by omega⟩]
  simp
theorem zcS (acc:List UInt8) (c:UInt8):bytesOf acc++[[.int .u8 c.toNat]]=bytesOf (acc++[c]):=zaS acc [c]
theorem zaO (acc:List UInt8) (c d:UInt8):bytesOf acc++[[.int .u8 c.toNat],[.int .u8 d.toNat]]=bytesOf (acc++[c,d]):=zaS acc [c,d]
theorem wr8 (n:Nat):IntKind.wrap .u8 (n:Int)=((n % 256:Nat):Int):=by
 have e:IntKind.wrap .u8 (n:Int)=(n:Int) % 256:=rfl
 rw[e];omega
def cU (l:List Nat):List (List AV):=l.map fun(n:Nat)=>[AV.int .i64 (n:Int)]
theorem zhj (l:List Nat):(cU l).length=l.length:=by simp[cU]
theorem zce (H:zh) (b:Nat) (x y:AObj):(H.upd b x).upd b y=H.upd b y:=by
 funext c;by_cases e:c=b<;>simp[zh.upd,e]
theorem own_ne {H:zh} {c b d n sz:Nat} {cs:List AV} (h:yB H (.tip b d) n sz) (hc:H c=some (.cells cs)):b≠c:=fun e=>by
 subst e
 have:H b=some (.tip (d+n) sz):=h
 rw[hc] at this;cases this
theorem Yc {H H':zh} {o:Own} {n sz c:Nat} {cs:List AV} (h:yB H o n sz) (hc:H c=some (.cells cs)) (hk:Kept H o H'):H' c=some (.cells cs) :=
 hk c _ hc fun d e=>by subst e;exact own_ne h hc rfl
theorem Ys {H:zh} {o:Own} {n sz c:Nat} {cs:List AV} {x:AObj} (h:yB H o n sz) (hc:H c=some (.cells cs)):yB (H.upd c x) o n sz:=by
 cases o with
 | tip b d=>have:=own_ne h hc;show (H.upd c x) b=_;rw[upd_ne this];exact h
 | no=>exact h
 | nil=>exact h
 | full=>exact h
open Go.Lib
end Go.Proofs.YticbbfbpeimkbaaGreatDoor
namespace Go.Proofs.YticbbfbpeimkbaaGreatDoor
open Go.Ab
end Go.Proofs.YticbbfbpeimkbaaGreatDoor
namespace Go.Proofs.YticbbfbpeimkbaaGreatDoor
open Go.Lib
end Go.Proofs.YticbbfbpeimkbaaGreatDoor
namespace Go.Proofs.YticbbfbpeimkbaaGreatDoor
open Go.Ab
theorem zcQ {c:UInt8} {n:Nat} (hn:n<256) (h:c≠UInt8.ofNat n):¬ ((c.toNat:Int)=n):=fun e=>by
 have h2:=zd3 c n hn
 rw[e] at h2
 simp at h2
 exact h h2
theorem zjV (s:List UInt8) (hs:s.length≤Lim):zo Tryz.prog 257 [.str s] (.tup [.int .i64 (Y0 s).1,.int .i64 (Y0 s).2]):=by
 refine zo.go ir257 ck257 (Al4 _) fun KP Q hQ=>?_
 have hs':=hs
 simp only[Lim] at hs
 simp(disch:=first|omega|assumption) only[ir257,go_sem]
 refine zau (fun i:Nat=>[(4,.int .i64 i)]) (fun i H=>(i=if s.head?=some 45 then 1 else 0)∧H=zh.emp) (fun J hJ=>?_) ?_
 ·cases s with
  | nil =>
   simp(disch:=first|omega|assumption) only[go_sem]
   exact goJ (hJ 0 _ ⟨rfl,rfl⟩) (by simp(disch:=first|omega|assumption) only[go_sem])
  | cons c t =>
   have hp:(0:Int)<((t.length+1:Nat):Int):=by omega
   by_cases h:c=45
   ·have h':(c.toNat:Int)=45:=by rw[h];rfl
    simp(disch:=first|omega|assumption) only[hp,h',go_sem]
    exact goJ (hJ 1 _ ⟨by rw[h];rfl,rfl⟩) (by simp(disch:=first|omega|assumption) only[wrap64,go_sem])
   ·have h':¬ (c.toNat:Int)=45:=zcQ (n:=45) (by omega) h
    simp(disch:=first|omega|assumption) only[hp,h',go_sem]
    exact goJ (hJ 0 _ ⟨by simp[h],rfl⟩) (by simp(disch:=first|omega|assumption) only[go_sem])
 rintro i H ⟨hi,rfl⟩
 have hil:i≤s.length:=by
  rw[hi];split
  ·rename_i h;cases s<;>simp_all
  ·omega
 have hw:yh s=if yj (s.drop i)=0 then 0 else i+Z7 (s.drop i):=by
  unfold yh
  rw[hi]
  split
  ·cases s<;>simp_all
  ·simp only[List.drop_zero,Nat.zero_add]
   split
   ·rename_i h;simp[Z7,h]
   ·rfl
 have hrl:=Zk (s.drop i)
 rw[zaL] at hrl
 simp(disch:=first|omega|assumption) only[go_sem]
 refine zc (zke s i (by omega) (by omega) hs') ?_
 rw[Int.toNat_natCast]
 by_cases h0:yj (s.drop i)=0
 ·have hw0:yh s=0:=by rw[hw,if_pos h0]
  simp(disch:=first|omega|assumption) only[h0,go_sem]
  exact hQ _ _ _ _ nofun rfl (by simp[ze,zd,AV.strip,AV.strip1,Y0,hw0])
 have h0':¬ ((yj (s.drop i):Int)=0):=by omega
 rw[if_neg h0] at hw
 simp(disch:=first|omega|assumption) only[h0',go_sem]
 have hlt:(i:Int)<s.length:=by omega
 refine zau (fun k:Nat=>[(5,.int .i64 k)]) (fun k H=>k=Z7 (s.drop i)∧H=zh.emp) (fun J hJ=>?_) ?_
 ·rcases ZG s i with ⟨e1,e2⟩|⟨e1,e2⟩
  ·rw[e1] at h0;exact absurd rfl h0
  have hg:(s.drop i).getD 0 0=s.getD i 0:=by rw[e2];rfl
  by_cases h:s.getD i 0=48
  ·have h':((s.getD i 0).toNat:Int)=48:=by rw[h];rfl
   simp(disch:=first|omega|assumption) only[hlt,h',go_sem]
   exact goJ (hJ 1 _ ⟨by unfold Z7;rw[if_neg h0,hg,if_pos h],rfl⟩) (by simp(disch:=first|omega|assumption) only[go_sem])
  ·have h':¬ ((s.getD i 0).toNat:Int)=48:=zcQ (n:=48) (by omega) h
   simp(disch:=first|omega|assumption) only[hlt,h',go_sem]
   exact goJ (hJ (yj (s.drop i)) _ ⟨by unfold Z7;rw[if_neg h0,hg,if_neg h],rfl⟩) (by simp(disch:=first|omega|assumption) only[go_sem])
 rintro k H ⟨hk,rfl⟩
 subst hk
 have hn0:yh s≠0:=by have:=zjl h0;omega
 have hwl:=zes s
 have hik:(i:Int)+(Z7 (s.drop i):Int)=yh s:=by omega
 have hnum:Y0 s=(yh s+y5 (s.drop (yh s))+Yr (s.drop (yh s+y5 (s.drop (yh s)))),if y5 (s.drop (yh s))=0∧Yr (s.drop (yh s+y5 (s.drop (yh s))))=0 then 3 else 4):=by
  unfold Y0;rw[if_neg hn0]
 generalize yh s=n at hn0 hwl hik hnum
 simp(disch:=first|omega|assumption) only[wrap64,hik,go_sem]
 refine zau (fun x:Nat×Int=>[(4,.int .i64 x.1),(6,.int .i64 x.2)]) (fun x H=>x=(n+y5 (s.drop n),if y5 (s.drop n)=0 then 3 else 4)∧H=zh.emp) (fun J hJ=>?_) ?_
 ·simp(disch:=first|omega|assumption) only[wrap64,hik,go_sem]
  rcases ZG s n with ⟨e1,e2⟩|⟨e1,e2⟩
  ·have hlt:¬ (n:Int)<s.length:=by omega
   have hf:y5 (s.drop n)=0:=by simp[y5,e1]
   simp(disch:=first|omega|assumption) only[hlt,go_sem]
   exact goJ (hJ (n,3) _ ⟨by simp[hf],rfl⟩) (by simp(disch:=first|omega|assumption) only[go_sem])
  ·have hlt:(n:Int)<s.length:=by omega
   by_cases h:s.getD n 0=46
   ·have hto:((n:Int)+1).toNat=n+1:=by omega
    have hv:((s.getD n 0).toNat:Int)=46:=by rw[h];rfl
    simp(disch:=first|omega|assumption) only[hlt,hv,wrap64,go_sem]
    refine zc (zke s (n+1) (by omega) (by omega) hs') ?_
    rw[hto]
    have hrl2:=Zk (s.drop (n+1))
    rw[zaL] at hrl2
    by_cases hr:0<yj (s.drop (n+1))
    ·have hf:y5 (s.drop n)=1+yj (s.drop (n+1)):=by rw[e2,h];simp only[y5,List.head?_cons,List.tail_cons,true_and];rw[if_pos hr]
     have hr':(0:Int)<yj (s.drop (n+1)):=by omega
     simp(disch:=first|omega|assumption) only[hr',wrap64,go_sem]
     refine zc (zke s (n+1) (by omega) (by omega) hs') ?_
     rw[hto]
     simp(disch:=first|omega|assumption) only[wrap64,go_sem]
     exact goJ (hJ (n+1+yj (s.drop (n+1)),4) _ ⟨by rw[hf];simp;omega,rfl⟩) (by simp(disch:=first|omega|assumption) only[Int.natCast_add,Int.natCast_one,go_sem])
    ·have hf:y5 (s.drop n)=0:=by rw[e2,h];simp only[y5,List.head?_cons,List.tail_cons,true_and];rw[if_neg hr]
     have hr':¬ (0:Int)<yj (s.drop (n+1)):=by omega
     simp(disch:=first|omega|assumption) only[hr',go_sem]
     exact goJ (hJ (n,3) _ ⟨by simp[hf],rfl⟩) (by simp(disch:=first|omega|assumption) only[go_sem])
   ·have h':¬ ((s.getD n 0).toNat:Int)=46:=zcQ (n:=46) (by omega) h
    have hf:y5 (s.drop n)=0:=by rw[e2];simp only[y5,List.head?_cons,Al1];rw[if_neg (fun e=>h e.1)]
    simp(disch:=first|omega|assumption) only[hlt,h',go_sem]
    exact goJ (hJ (n,3) _ ⟨by simp[hf],rfl⟩) (by simp(disch:=first|omega|assumption) only[go_sem])
 rintro⟨m,k⟩ H ⟨hx,rfl⟩
 simp only[Al8] at hx
 obtain⟨hm,hk⟩:=hx
 have hml:m≤s.length:=by
  have:=zkv (s.drop n)
  rw[zaL] at this
  omega
 rw[← hm] at hnum
 simp(disch:=first|omega|assumption) only[go_sem]
 refine zau (fun x:Nat×Int=>[(4,.int .i64 x.1),(6,.int .i64 x.2)]) (fun x H=>x=(m+Yr (s.drop m),if Yr (s.drop m)=0 then k else 4)∧H=zh.emp) (fun J hJ=>?_) ?_
 ·rcases ZG s m with ⟨e1,e2⟩|⟨e1,e2⟩
  ·have hlt:¬ (m:Int)<s.length:=by omega
   have hp:Yr (s.drop m)=0:=by rw[e1];rfl
   simp(disch:=first|omega|assumption) only[hlt,go_sem]
   exact goJ (hJ (m,k) _ ⟨by simp[hp],rfl⟩) (by simp(disch:=first|omega|assumption) only[go_sem])
  ·have hlt:(m:Int)<s.length:=by omega
   obtain⟨c,hc⟩:∃ c,s.getD m 0=c:=⟨_,rfl⟩
   rw[hc] at e2
   by_cases h:isE c=true
   ·have hE:c=101∨c=69:=by simpa[isE] using h
    have hp:Yr (s.drop m)=if yj (s.drop (m+1+sgN (s.drop (m+1))))=0 then 0 else 1+sgN (s.drop (m+1))+yj (s.drop (m+1+sgN (s.drop (m+1)))):=by
     rw[e2];simp only[Yr,h,if_true,List.drop_drop]
    have hto:((m:Int)+1).toNat=m+1:=by omega
    have hm1:(0:Int)≤(m:Int)+1:=by omega
    have hsg:=zgN (s.drop (m+1))
    rw[zaL] at hsg
    rcases hE with he|he
    case' inl =>
     have hv:(c.toNat:Int)=101:=by rw[he];rfl
     simp(disch:=first|omega|assumption) only[hlt,hc,hv,wrap64,go_sem]
    case' inr =>
     have hv:(c.toNat:Int)=69:=by rw[he];rfl
     have hv2:¬ (69:Int)=101:=by omega
     simp(disch:=first|omega|assumption) only[hlt,hc,hv,hv2,wrap64,go_sem]
    all_goals
     refine zau (fun q:Nat=>[(7,.int .i64 q)]) (fun q H=>q=m+1+sgN (s.drop (m+1))∧H=zh.emp) (fun J2 hJ2=>?_) ?_
     ·rcases ZG s (m+1) with ⟨f1,f2⟩|⟨f1,f2⟩
      ·have hq:¬ ((m:Int)+1<s.length):=by omega
       simp(disch:=first|omega|assumption) only[wrap64,hq,go_sem]
       exact goJ (hJ2 (m+1) _ ⟨by rw[f1];rfl,rfl⟩) (by simp(disch:=first|omega|assumption) only[Int.natCast_add,Int.natCast_one,go_sem])
      ·have hq:(m:Int)+1<s.length:=by omega
       obtain⟨d,hd⟩:∃ d,s.getD (m+1) 0=d:=⟨_,rfl⟩
       rw[hd] at f2
       by_cases d43:d=43
       ·have hv3:(d.toNat:Int)=43:=by rw[d43];rfl
        simp(disch:=first|omega|assumption) only[wrap64,hq,hto,hm1,hd,hv3,go_sem]
        exact goJ (hJ2 (m+1+1) _ ⟨by rw[f2,d43];rfl,rfl⟩) (by simp(disch:=first|omega|assumption) only[Int.natCast_add,Int.natCast_one,go_sem])
       ·have hv3:¬ (d.toNat:Int)=43:=zcQ (n:=43) (by omega) d43
        by_cases d45:d=45
        ·have hv4:(d.toNat:Int)=45:=by rw[d45];rfl
         have hv5:¬ (45:Int)=43:=by omega
         simp(disch:=first|omega|assumption) only[wrap64,hq,hto,hm1,hd,hv4,hv5,go_sem]
         exact goJ (hJ2 (m+1+1) _ ⟨by rw[f2,d45];rfl,rfl⟩) (by simp(disch:=first|omega|assumption) only[Int.natCast_add,Int.natCast_one,go_sem])
        ·have hv4:¬ (d.toNat:Int)=45:=zcQ (n:=45) (by omega) d45
         simp(disch:=first|omega|assumption) only[wrap64,hq,hto,hm1,hd,hv3,hv4,go_sem]
         exact goJ (hJ2 (m+1) _ ⟨by rw[f2];simp[sgN,d43,d45],rfl⟩) (by simp(disch:=first|omega|assumption) only[Int.natCast_add,Int.natCast_one,go_sem])
     rintro q H ⟨hq,rfl⟩
     rw[← hq] at hp
     have hql:q≤s.length:=by omega
     simp(disch:=first|omega|assumption) only[go_sem]
     refine zc (zke s q (by omega) (by omega) hs') ?_
     rw[Int.toNat_natCast]
     have hrl3:=Zk (s.drop q)
     rw[zaL] at hrl3
     by_cases hr:yj (s.drop q)=0
     ·have hr':¬ (0:Int)<yj (s.drop q):=by omega
      rw[if_pos hr] at hp
      simp(disch:=first|omega|assumption) only[hr',go_sem]
      exact goJ (hJ (m,k) _ ⟨by simp[hp],rfl⟩) (by simp(disch:=first|omega|assumption) only[go_sem])
     ·have hr':(0:Int)<yj (s.drop q):=by omega
      rw[if_neg hr] at hp
      simp(disch:=first|omega|assumption) only[hr',go_sem]
      refine zc (zke s q (by omega) (by omega) hs') ?_
      rw[Int.toNat_natCast]
      simp(disch:=first|omega|assumption) only[wrap64,go_sem]
      exact goJ (hJ (q+yj (s.drop q),4) _ ⟨by rw[hp];simp;omega,rfl⟩) (by simp(disch:=first|omega|assumption) only[Int.natCast_add,go_sem])
   ·have h1:c≠101:=fun e=>h (by simp[isE,e])
    have h2:c≠69:=fun e=>h (by simp[isE,e])
    have hp:Yr (s.drop m)=0:=by rw[e2];simp[Yr,h]
    have h1':¬ (c.toNat:Int)=101:=zcQ (n:=101) (by omega) h1
    have h2':¬ (c.toNat:Int)=69:=zcQ (n:=69) (by omega) h2
    simp(disch:=first|omega|assumption) only[hlt,hc,h1',h2',go_sem]
    exact goJ (hJ (m,k) _ ⟨by simp[hp],rfl⟩) (by simp(disch:=first|omega|assumption) only[go_sem])
 rintro⟨m2,k2⟩ H ⟨hx,rfl⟩
 simp only[Al8] at hx
 obtain⟨hm2,hk2⟩:=hx
 have hfin:Y0 s=(m2,k2):=by
  rw[hnum,hm2,hk2,hk]
  by_cases a:y5 (s.drop n)=0<;>by_cases b:Yr (s.drop m)=0<;>simp[a,b]
 simp(disch:=first|omega|assumption) only[go_sem]
 exact hQ _ _ _ _ nofun rfl (by simp[ze,zd,AV.strip,AV.strip1,hfin])
theorem zdf (s:List UInt8) (hs:s.length≤Lim):zo Tryz.prog 240 [.str s] (.int .i64 (ZR s)):=by
 refine zo.go ir240 ck240 (Al4 _) fun KP Q hQ=>?_
 simp(disch:=first|omega|assumption) only[ir240,go_sem]
 refine zc (zjV s hs) ?_
 by_cases h:(Y0 s).1=s.length
 ·have h':((Y0 s).1:Int)=s.length:=by omega
  simp(disch:=first|omega|assumption) only[h',go_sem]
  exact hQ _ _ _ _ nofun rfl (by simp[ze,zd,AV.strip,AV.strip1,ZR,h])
 ·have h':¬ ((Y0 s).1:Int)=s.length:=by omega
  simp(disch:=first|omega|assumption) only[h',go_sem]
  exact hQ _ _ _ _ nofun rfl (by simp[ze,zd,AV.strip,AV.strip1,ZR,h])
def dg (c:UInt8):Int:=IntKind.u8.wrap ((c.toNat:Int)-48)
theorem znu (c:UInt8):0≤dg c∧dg c≤255:=by
 unfold dg IntKind.wrap
 simp[IntKind.signed,IntKind.bits]
 omega
theorem zjg {c:UInt8} (h:isD c=true):dg c=(c.toNat:Int)-48:=by
 simp only[isD,Al0,yv] at h
 unfold dg IntKind.wrap
 simp[IntKind.signed,IntKind.bits]
 omega
def zbR:List UInt8→Int→Option Int
 | [],a=>some a
 | c::r,a=>if a<Int.tdiv (-9223372036854775808+dg c) 10 then none else zbR r (10*a-dg c)
theorem step_ok {a d:Int} (h0:0≤d) (h1:d≤255) (ha:-9223372036854775808≤a) (ha2:a≤0) (h:¬ a<Int.tdiv (-9223372036854775808+d) 10):-9223372036854775808≤10*a-d∧10*a-d≤0:=by
 have e:Int.tdiv (-9223372036854775808+d) 10=-((9223372036854775808-d) / 10):=by
  rw[show (-9223372036854775808+d)=-(9223372036854775808-d) by omega,Int.neg_tdiv,Int.tdiv_eq_ediv_of_nonneg (by omega)]
 rw[e] at h
 omega
def zef (s:List UInt8):Int×Bool :=
 if s.head?=some 45 then (match zbR s.tail 0 with|some a=>(a,true)|none=>(0,false))
 else (match zbR s 0 with|some a=>if a=-9223372036854775808 then (0,false) else (-a,true)|none=>(0,false))
theorem zml (s:List UInt8) (hs:s.length≤Lim):zo Tryz.prog 184 [.str s] (.tup [.int .i64 (zef s).1,.bool (zef s).2]):=by
 refine zo.go ir184 ck184 (Al4 _) fun KP Q hQ=>?_
 simp only[Lim] at hs
 simp(disch:=first|omega|assumption) only[ir184,go_sem]
 refine zau (fun x:Nat×Bool=>[(4,.int .i64 x.1),(5,.bool x.2)]) (fun x H=>x=(if s.head?=some 45 then (1,true) else (0,false))∧H=zh.emp) (fun J hJ=>?_) ?_
 ·cases s with
  | nil =>
   simp(disch:=first|omega|assumption) only[go_sem]
   exact goJ (hJ (0,false) _ ⟨rfl,rfl⟩) (by simp(disch:=first|omega|assumption) only[go_sem])
  | cons c t =>
   have hp:(0:Int)<((t.length+1:Nat):Int):=by omega
   by_cases h:c=45
   ·have h':(c.toNat:Int)=45:=by rw[h];rfl
    simp(disch:=first|omega|assumption) only[hp,h',go_sem]
    exact goJ (hJ (1,true) _ ⟨by rw[h];rfl,rfl⟩) (by simp(disch:=first|omega|assumption) only[go_sem])
   ·have h':¬ (c.toNat:Int)=45:=zcQ (n:=45) (by omega) h
    simp(disch:=first|omega|assumption) only[hp,h',go_sem]
    exact goJ (hJ (0,false) _ ⟨by simp[h],rfl⟩) (by simp(disch:=first|omega|assumption) only[go_sem])
 rintro⟨n0,neg⟩ H ⟨hx,rfl⟩
 have hn0:n0≤s.length:=by
  split at hx
  ·rename_i h
   cases s with
   | nil=>simp at h
   | cons c t=>cases hx;simp
  ·cases hx;omega
 have hR:zef s=if neg then (match zbR (s.drop n0) 0 with|some a=>(a,true)|none=>(0,false)) else (match zbR (s.drop n0) 0 with|some a=>if a=-9223372036854775808 then (0,false) else (-a,true)|none=>(0,false)):=by
  unfold zef
  split at hx
  ·rename_i h
   cases hx
   rw[if_pos h]
   simp
  ·rename_i h
   cases hx
   rw[if_neg h]
   simp
 simp(disch:=first|omega|assumption) only[go_sem]
 refine yO (fun x:Nat×Int=>[(4,.int .i64 x.1),(6,.int .i64 x.2)]) (fun x H=>zbR (s.drop x.1) x.2=zbR (s.drop n0) 0∧x.1≤s.length∧(-9223372036854775808≤x.2∧x.2≤0)) (fun x=>s.length-x.1) (n0,0) (by simp(disch:=first|omega|assumption) only[go_sem]) ⟨rfl,hn0,by omega,by omega⟩ ?_
 rintro⟨n,a⟩ H J ⟨hn,hle,ha1,ha2⟩ hJ
 simp only at hn hle ha1 ha2
 rcases ZG s n with ⟨e1,e2⟩|⟨e1,e2⟩
 ·have hlt:¬ (n:Int)<s.length:=by omega
  rw[e1] at hn
  simp only[zbR] at hn
  rw[← hn] at hR
  cases neg with
  | true =>
   simp(disch:=first|omega|assumption) only[hlt,go_sem]
   exact hQ _ _ _ _ nofun rfl (by simp[ze,zd,AV.strip,AV.strip1,hR])
  | false =>
   by_cases hm:a=-9223372036854775808
   ·simp(disch:=first|omega|assumption) only[hlt,hm,go_sem]
    exact hQ _ _ _ _ nofun rfl (by simp[ze,zd,AV.strip,AV.strip1,hR,hm])
   ·simp(disch:=first|omega|assumption) only[hlt,hm,wrap64,go_sem]
    exact hQ _ _ _ _ nofun rfl (by simp[ze,zd,AV.strip,AV.strip1,hR,hm])
 ·have hlt:(n:Int)<s.length:=by omega
  obtain⟨c,hc⟩:∃ c,s.getD n 0=c:=⟨_,rfl⟩
  rw[hc] at e2
  rw[e2] at hn
  simp only[zbR] at hn
  have hd:=znu c
  have hdg:IntKind.u8.wrap ((c.toNat:Int)-48)=dg c:=rfl
  have he:Int.tdiv (-9223372036854775808+dg c) 10=-((9223372036854775808-dg c) / 10):=by
   rw[show (-9223372036854775808+dg c)=-(9223372036854775808-dg c) by omega,Int.neg_tdiv,Int.tdiv_eq_ediv_of_nonneg (by omega)]
  by_cases hb:a<Int.tdiv (-9223372036854775808+dg c) 10
  ·rw[if_pos hb] at hn
   rw[← hn] at hR
   simp(disch:=first|omega|assumption) only[hlt,hc,hdg,wrap64,hb,go_sem]
   cases neg with
   | true=>exact hQ _ _ _ _ nofun rfl (by simp[ze,zd,AV.strip,AV.strip1,hR])
   | false=>exact hQ _ _ _ _ nofun rfl (by simp[ze,zd,AV.strip,AV.strip1,hR])
  ·have hst:=step_ok hd.1 hd.2 ha1 ha2 hb
   rw[if_neg hb] at hn
   simp(disch:=first|omega|assumption) only[hlt,hc,hdg,wrap64,hb,go_sem]
   exact goJ (hJ (n+1,10*a-dg c) _ (by simp only;omega) ⟨hn,by simp only;omega,hst⟩) (by simp(disch:=first|omega|assumption) only[Int.natCast_add,Int.natCast_one,go_sem])
def zc8 (acc:Nat) (l:List UInt8):Nat:=l.foldl (fun a c=>a*10+(c.toNat-48)) acc
theorem zdV (acc:Nat):zc8 acc []=acc:=by unfold zc8;rw[List.foldl_nil]
theorem zcu (acc:Nat) (c:UInt8) (r:List UInt8):zc8 acc (c::r)=zc8 (acc*10+(c.toNat-48)) r:=by unfold zc8;rw[List.foldl_cons]
theorem ziP (c:UInt8) (r:List UInt8) (a:Int):zbR (c::r) a=if a<Int.tdiv (-9223372036854775808+dg c) 10 then none else zbR r (10*a-dg c):=by rw[zbR]
theorem ze3:∀(r:List UInt8) (acc:Nat),acc≤zc8 acc r
 | [],acc=>by rw[zdV];exact Al4 _
 | c::r,acc=>by have:=ze3 r (acc*10+(c.toNat-48));rw[zcu];omega
theorem zbd:∀(r:List UInt8) (acc:Nat),(∀ c∈r,isD c=true)→acc≤9223372036854775808→zbR r (-(acc:Int))=if zc8 acc r≤9223372036854775808 then some (-(zc8 acc r:Int)) else none
 | [],acc,_,h=>by rw[zdV,if_pos h];rfl
 | c::r,acc,hd,h=>by
  have hc:=hd c (by simp)
  have hv:=zjg hc
  simp only[isD,Al0,yv] at hc
  have he:Int.tdiv (-9223372036854775808+dg c) 10=-((9223372036854775808-dg c) / 10):=by
   rw[show (-9223372036854775808+dg c)=-(9223372036854775808-dg c) by omega,Int.neg_tdiv,Int.tdiv_eq_ediv_of_nonneg (by omega)]
  have hg:=ze3 r (acc*10+(c.toNat-48))
  rw[ziP,zcu]
  by_cases hb:-(acc:Int)<Int.tdiv (-9223372036854775808+dg c) 10
  ·rw[if_pos hb,if_neg (by omega)]
  ·rw[if_neg hb]
   have e:10*-(acc:Int)-dg c=-((acc*10+(c.toNat-48):Nat):Int):=by omega
   rw[e]
   exact zbd r _ (fun x hx=>hd x (by simp[hx])) (by omega)
theorem zay:∀(r:List UInt8) (acc:Nat),(∀ c∈r,isD c=true)→acc<18446744073709551616→Lib.parseUint10 acc r=if zc8 acc r<18446744073709551616 then .ok (zc8 acc r) else .range
 | [],acc,_,h=>by rw[zdV,if_pos h];rfl
 | c::r,acc,hd,h=>by
  have hc:=hd c (by simp)
  simp only[isD,Al0,yv] at hc
  have hg:=ze3 r (acc*10+(c.toNat-48))
  rw[zcu]
  simp only[Lib.parseUint10]
  rw[if_pos hc]
  by_cases h1:1844674407370955162≤acc
  ·rw[if_pos h1,if_neg (by omega)]
  ·rw[if_neg h1]
   by_cases h2:18446744073709551616≤acc*10+(c.toNat-48)
   ·rw[if_pos h2,if_neg (by omega)]
   ·rw[if_neg h2]
    exact zay r _ (fun x hx=>hd x (by simp[hx])) (by omega)
theorem zcr:∀ l:List UInt8,yj l=l.length→∀ c∈l,isD c=true
 | [],_,c,hc=>by cases hc
 | x::r,h,c,hc=>by
  simp only[yj,Al2] at h
  split at h
  ·rename_i hx
   rcases List.mem_cons.1 hc with e|e
   ·subst e;exact hx
   ·exact zcr r (by omega) c e
  ·omega
theorem zeS {l:List UInt8} (h:Z7 l=l.length) (h0:yj l≠0):∀ c∈l,isD c=true:=by
 unfold Z7 at h
 rw[if_neg h0] at h
 split at h
 ·apply zcr
  have:=Zk l
  omega
 ·exact zcr l h
theorem zgR (t:List UInt8):yh (45::t)=if yj t=0 then 0 else 1+Z7 t:=by
 unfold yh;exact if_pos rfl
theorem zgQ {s:List UInt8} (h:¬ s.head?=some 45):yh s=Z7 s:=by
 unfold yh;exact if_neg h
theorem znR {s:List UInt8} (h:ZR s=3):(∃ t,s=45::t∧t≠[]∧∀ c∈t,isD c=true)∨(∃ c t,s=c::t∧∀ x∈s,isD x=true):=by
 unfold ZR at h
 split at h
 ·rename_i hl
  unfold Y0 at h hl
  split at h
  ·simp at h
  ·rename_i hw
   rw[if_neg hw] at hl
   simp only at h hl
   split at h
   ·rename_i hfp
    rw[hfp.2,hfp.1] at hl
    simp only[Nat.add_zero] at hl
    by_cases h45:s.head?=some 45
    ·cases s with
     | nil=>simp at h45
     | cons c t =>
      have hc:c=45:=by simpa using h45
      subst hc
      rw[zgR] at hl hw
      by_cases h0:yj t=0
      ·rw[if_pos h0] at hw;omega
      ·rw[if_neg h0] at hl
       refine .inl ⟨t,rfl,?_,zeS (by simp only[Al2] at hl;omega) h0⟩
       intro e;subst e;exact h0 rfl
    ·rw[zgQ h45] at hl hw
     have h0:yj s≠0:=fun e=>hw (by simp[Z7,e])
     cases s with
     | nil=>exact absurd rfl h0
     | cons c t=>exact .inr ⟨c,t,rfl,zeS hl h0⟩
   ·omega
 ·omega
theorem zjR (t:List UInt8):zef (45::t)=match zbR t 0 with|some a=>(a,true)|none=>(0,false):=by
 unfold zef;exact if_pos rfl
theorem zkr {c:UInt8} (t:List UInt8) (h:c≠45):zef (c::t)=match zbR (c::t) 0 with|some a=>if a=-9223372036854775808 then (0,false) else (-a,true)|none=>(0,false):=by
 unfold zef;exact if_neg (fun e=>h (by simpa using e))
theorem zmE {s:List UInt8} (h:ZR s=3):(zef s).2=okI (Lib.parseIntB 64 s):=by
 rw[Lib.parseIntB_64]
 rcases znR h with ⟨t,rfl,hne,hd⟩|⟨c,t,rfl,hd⟩
 ·have h1:=zbd t 0 hd (by omega)
  have h2:=zay t 0 hd (by omega)
  simp only[Int.natCast_zero,Int.neg_zero] at h1
  rw[Lib.atoiAll_minus,zjR,h1]
  unfold Lib.parseMag
  rw[if_neg hne,h2]
  generalize zc8 0 t=V
  by_cases a:V≤9223372036854775808
  ·rw[if_pos a,if_pos (by omega)]
   simp only[Lib.signed]
   rw[if_neg (by omega)]
   rfl
  ·rw[if_neg a]
   by_cases b:V<18446744073709551616
   ·rw[if_pos b]
    simp only[Lib.signed]
    rw[if_pos (by omega)]
    rfl
   ·rw[if_neg b]
    rfl
 ·have h1:=zbd (c::t) 0 hd (by omega)
  have h2:=zay (c::t) 0 hd (by omega)
  have hc:=hd c (by simp)
  simp only[isD,Al0,yv] at hc
  have h45:c≠45:=fun e=>by subst e;simp at hc
  simp only[Int.natCast_zero,Int.neg_zero] at h1
  rw[Lib.atoiAll_plain c t (by omega) (by omega),zkr t h45,h1]
  unfold Lib.parseMag
  rw[if_neg (List.cons_ne_nil c t),h2]
  generalize zc8 0 (c::t)=V
  by_cases a:V≤9223372036854775808
  ·rw[if_pos a,if_pos (by omega)]
   simp only[Lib.signless]
   by_cases b:V=9223372036854775808
   ·rw[if_pos (by omega),if_pos (by omega)];rfl
   ·rw[if_neg (by omega),if_neg (by omega)];rfl
  ·rw[if_neg a]
   by_cases b:V<18446744073709551616
   ·rw[if_pos b]
    simp only[Lib.signless]
    rw[if_pos (by omega)]
    rfl
   ·rw[if_neg b]
    rfl
theorem zgT (s:List UInt8):(decide (s≠[])&&(decide (ZR s≠0)&&(decide (ZR s=4)||!(zef s).2)))=zf8 s:=by
 unfold zf8 zcs
 by_cases h4:ZR s=4
 ·have hs:s≠[]:=fun e=>by subst e;revert h4;decide
  simp[h4,hs]
 ·by_cases h3:ZR s=3
  ·have hs:s≠[]:=fun e=>by subst e;revert h3;decide
   simp[h3,hs,zmE h3]
  ·have h0:ZR s=0:=by
    unfold ZR at *
    unfold Y0 at *
    by_cases a:yh s=0
    ·simp[a]
    ·simp only[a,if_false] at *
     split
     ·rename_i e
      rw[if_pos e] at h3 h4
      split at h3<;>simp_all
     ·rfl
   simp[h3,h4,h0]
open Go.Lib
end Go.Proofs.YticbbfbpeimkbaaGreatDoor
namespace Go.Proofs.YticbbfbpeimkbaaGreatDoor
open Go.Ab
theorem Z4 {n:Nat} (h:n<18446744073709551616):(BitVec.ofInt 64 (n:Int)).toNat=n:=by
 rw[BitVec.toNat_ofInt];omega
theorem za4 {n:Nat} (h:n<9223372036854775808):IntKind.wrap .i64 (n:Int)=n:=wrap64 (by omega) (by omega)
theorem ze8 {n:Nat} (j:Nat) (h:n<9223372036854775808) (hj:2 ^ j-1<9223372036854775808):IntKind.wrap .i64 ((BitVec.ofInt IntKind.i64.bits (n:Int) &&& BitVec.ofInt IntKind.i64.bits ((2 ^ j-1:Nat):Int)).toNat:Int)=((n % 2 ^ j:Nat):Int):=by
 have e:(BitVec.ofInt IntKind.i64.bits (n:Int) &&& BitVec.ofInt IntKind.i64.bits ((2 ^ j-1:Nat):Int)).toNat=n % 2 ^ j:=by
  rw[BitVec.toNat_and]
  show (BitVec.ofInt 64 (n:Int)).toNat &&& (BitVec.ofInt 64 ((2 ^ j-1:Nat):Int)).toNat=_
  rw[Z4 (by omega),Z4 (by omega),Nat.and_two_pow_sub_one_eq_mod]
 rw[e]
 exact za4 (Nat.lt_of_le_of_lt (Nat.mod_le _ _) h)
theorem znk {n:Nat} (h:n<9223372036854775808):IntKind.wrap .i64 ((BitVec.ofInt IntKind.i64.bits (n:Int) &&& BitVec.ofInt IntKind.i64.bits 31).toNat:Int)=((n % 32:Nat):Int):=ze8 5 h (by decide)
theorem zlQ {n:Nat} (h:n<9223372036854775808):IntKind.wrap .i64 ((BitVec.ofInt IntKind.i64.bits (n:Int) &&& BitVec.ofInt IntKind.i64.bits 15).toNat:Int)=((n % 16:Nat):Int):=ze8 4 h (by decide)
theorem and7 {n:Nat} (h:n<9223372036854775808):IntKind.wrap .i64 ((BitVec.ofInt IntKind.i64.bits (n:Int) &&& BitVec.ofInt IntKind.i64.bits 7).toNat:Int)=((n % 8:Nat):Int):=ze8 3 h (by decide)
theorem zhN {n:Nat} (h:n<9223372036854775808):IntKind.wrap .i64 ((BitVec.ofInt IntKind.i64.bits (n:Int) &&& BitVec.ofInt IntKind.i64.bits 63).toNat:Int)=((n % 64:Nat):Int):=ze8 6 h (by decide)
theorem znT {a b:Nat} (ha:a<16777216) (hb:b<64):IntKind.wrap .i64 ((BitVec.ofInt IntKind.i64.bits ((a*64:Nat):Int) ||| BitVec.ofInt IntKind.i64.bits (b:Int)).toNat:Int)=((a*64+b:Nat):Int):=by
 have e:(BitVec.ofInt IntKind.i64.bits ((a*64:Nat):Int) ||| BitVec.ofInt IntKind.i64.bits (b:Int)).toNat=a*64+b:=by
  rw[BitVec.toNat_or]
  show (BitVec.ofInt 64 ((a*64:Nat):Int)).toNat ||| (BitVec.ofInt 64 (b:Int)).toNat=_
  rw[Z4 (by omega),Z4 (by omega)]
  have:=Nat.two_pow_add_eq_or_of_lt (i:=6) (b:=b) (by omega) a
  rw[show (2:Nat) ^ 6=64 by rfl] at this
  rw[Nat.mul_comm a 64,this]
 rw[e]
 exact za4 (by omega)
def zP (l:List UInt8):Nat×Nat:=if l=[] then (0,0) else if Lib.decodeL l=(65533,1) then (0,0) else Lib.decodeL l
abbrev bt (s:List UInt8) (i k:Nat):Nat:=(s.getD (i+k) 0).toNat
theorem zlK (s:List UInt8) (i k:Nat):bt s i k<256:=(s.getD (i+k) 0).toNat_lt
theorem zix (s:List UInt8) (i k:Nat):(s.drop i).getD k 0=s.getD (i+k) 0:=by simp[List.getElem?_drop]
theorem zkg {s:List UInt8} {i:Nat} (h:i<s.length):zP (s.drop i)=if Lib.decodeN (s.length-i) (bt s i 0) (bt s i 1) (bt s i 2) (bt s i 3)=(65533,1) then (0,0) else Lib.decodeN (s.length-i) (bt s i 0) (bt s i 1) (bt s i 2) (bt s i 3):=by
 have hne:s.drop i≠[]:=fun e=>by have:=congrArg List.length e;simp at this;omega
 unfold zP
 rw[if_neg hne,Lib.decodeL_N,zaL]
 simp only[zix]
def cv (v0:Nat) (b:Nat→Nat):Nat→Nat
 | 0=>v0
 | j+1=>cv v0 b j*64+b (j+1) % 64
def zk7 (b0 w lo v:Nat):Prop:=(194≤b0∧b0<224∧w=2∧lo=128∧v=b0 % 32)∨(224≤b0∧b0<240∧w=3∧lo=2048∧v=b0 % 16)∨(240≤b0∧b0<245∧w=4∧lo=65536∧v=b0 % 8)
theorem zim {n b0 b1 b2 b3 w lo v:Nat} (h:zk7 b0 w lo v) (hn:n<w):Lib.decodeN n b0 b1 b2 b3=(65533,1):=by
 unfold Lib.decodeN
 rcases h with ⟨h1,h2,rfl,_,_⟩|⟨h1,h2,rfl,_,_⟩|⟨h1,h2,rfl,_,_⟩<;>(repeat' split)<;>first|rfl|(exfalso;omega)
theorem zfB {n w lo v j:Nat} {b:Nat→Nat} (h:zk7 (b 0) w lo v) (h1:1≤j) (hj:j<w) (hc:b j<128∨191<b j):Lib.decodeN n (b 0) (b 1) (b 2) (b 3)=(65533,1):=by
 have hj4:j=1∨j=2∨j=3:=by rcases h with h|h|h<;>omega
 unfold Lib.decodeN
 rcases h with ⟨h2,h3,rfl,_,_⟩|⟨h2,h3,rfl,_,_⟩|⟨h2,h3,rfl,_,_⟩<;>rcases hj4 with rfl|rfl|rfl<;>(repeat' split)<;>first|rfl|(exfalso;omega)
theorem zi1 {n w lo v:Nat} {b:Nat→Nat} (h:zk7 (b 0) w lo v) (hn:w≤n) (hc:∀ j,1≤j→j<w→128≤b j∧b j≤191) :
  (if Lib.decodeN n (b 0) (b 1) (b 2) (b 3)=(65533,1) then (0,0) else Lib.decodeN n (b 0) (b 1) (b 2) (b 3))=if cv v b (w-1)<lo∨1114111<cv v b (w-1)∨(55296≤cv v b (w-1)∧cv v b (w-1)<57344) then (0,0) else (cv v b (w-1),w):=by
 rcases h with ⟨h2,h3,rfl,rfl,rfl⟩|⟨h2,h3,rfl,rfl,rfl⟩|⟨h2,h3,rfl,rfl,rfl⟩
 ·have c1:=hc 1 (by omega) (by omega)
  have e:Lib.decodeN n (b 0) (b 1) (b 2) (b 3)=(b 0 % 32*64+b 1 % 64,2):=by
   unfold Lib.decodeN
   rw[if_neg (by omega),if_pos (by omega),if_pos (by omega)]
  have e2:cv (b 0 % 32) b (2-1)=b 0 % 32*64+b 1 % 64:=rfl
  rw[e,e2,if_neg (by simp),if_neg (by omega)]
 ·have c1:=hc 1 (by omega) (by omega)
  have c2:=hc 2 (by omega) (by omega)
  have e2:cv (b 0 % 16) b (3-1)=b 0 % 16*4096+b 1 % 64*64+b 2 % 64:=by
   show (b 0 % 16*64+b 1 % 64)*64+b 2 % 64=_
   omega
  rw[e2]
  by_cases g:b 0 % 16*4096+b 1 % 64*64+b 2 % 64≥2048∧(b 0 % 16*4096+b 1 % 64*64+b 2 % 64<55296∨(57344≤b 0 % 16*4096+b 1 % 64*64+b 2 % 64∧b 0 % 16*4096+b 1 % 64*64+b 2 % 64≤1114111))
  ·have e:Lib.decodeN n (b 0) (b 1) (b 2) (b 3)=(b 0 % 16*4096+b 1 % 64*64+b 2 % 64,3):=by
    unfold Lib.decodeN
    rw[if_neg (by omega),if_neg (by omega),if_pos (by omega),if_pos g]
   rw[e,if_neg (by simp),if_neg (by omega)]
  ·have e:Lib.decodeN n (b 0) (b 1) (b 2) (b 3)=(65533,1):=by
    unfold Lib.decodeN
    rw[if_neg (by omega),if_neg (by omega),if_pos (by omega),if_neg g]
   rw[e,if_pos rfl,if_pos (by omega)]
 ·have c1:=hc 1 (by omega) (by omega)
  have c2:=hc 2 (by omega) (by omega)
  have c3:=hc 3 (by omega) (by omega)
  have e2:cv (b 0 % 8) b (4-1)=b 0 % 8*262144+b 1 % 64*4096+b 2 % 64*64+b 3 % 64:=by
   show ((b 0 % 8*64+b 1 % 64)*64+b 2 % 64)*64+b 3 % 64=_
   omega
  rw[e2]
  by_cases g:b 0 % 8*262144+b 1 % 64*4096+b 2 % 64*64+b 3 % 64≥65536∧(b 0 % 8*262144+b 1 % 64*4096+b 2 % 64*64+b 3 % 64<55296∨(57344≤b 0 % 8*262144+b 1 % 64*4096+b 2 % 64*64+b 3 % 64∧b 0 % 8*262144+b 1 % 64*4096+b 2 % 64*64+b 3 % 64≤1114111))
  ·have e:Lib.decodeN n (b 0) (b 1) (b 2) (b 3)=(b 0 % 8*262144+b 1 % 64*4096+b 2 % 64*64+b 3 % 64,4):=by
    unfold Lib.decodeN
    rw[if_neg (by omega),if_neg (by omega),if_neg (by omega),if_pos (by omega),if_pos g]
   rw[e,if_neg (by simp),if_neg (by omega)]
  ·have e:Lib.decodeN n (b 0) (b 1) (b 2) (b 3)=(65533,1):=by
    unfold Lib.decodeN
    rw[if_neg (by omega),if_neg (by omega),if_neg (by omega),if_pos (by omega),if_neg g]
   rw[e,if_pos rfl,if_pos (by omega)]
theorem zm8 (s:List UInt8) (i:Nat) (hi:i<s.length) (hs:s.length≤Lim):zo Tryz.prog 301 [.str s,.int .i64 i] (.tup [.int .i64 (zP (s.drop i)).1,.int .i64 (zP (s.drop i)).2]):=by
 refine zo.go ir301 ck301 (Al4 _) fun KP Q hQ=>?_
 simp only[Lim] at hs
 have hlt:(i:Int)<s.length:=by omega
 have h0:¬ (i:Int)<0:=by omega
 have hge:¬ (s.length:Int)≤i:=by omega
 rw[zkg hi] at hQ
 have hb0:=zlK s i 0
 obtain⟨c,hc⟩:∃ c,s.getD i 0=c:=⟨_,rfl⟩
 have hcb:c.toNat=bt s i 0:=by rw[← hc];rfl
 have hcb':(c.toNat:Int)=(bt s i 0:Nat):=by rw[hcb]
 have hw0:IntKind.wrap .i64 ((bt s i 0:Nat):Int)=(bt s i 0:Nat):=za4 (by omega)
 generalize hB:(fun k=>bt s i k)=b at *
 have b0e:bt s i 0=b 0:=by rw[← hB]
 have bk:∀ k,bt s i k=b k:=fun k=>by rw[← hB]
 have hbl:∀ k,b k<256:=fun k=>by rw[← bk];exact zlK s i k
 simp only[bk] at hQ hb0 hcb hcb' hw0
 by_cases a:(b 0:Int)<128
 ·simp(disch:=first|omega|assumption) only[ir301,h0,hlt,hge,hc,hcb',hw0,a,steps,st2,pev,rev,oev,zL,zQ,zX,zY,bound,zx,mm2,mk,zr,AV.cells,AV.boxable,AV.one,AV.strip1,zy,zw,Nat.reduceEqDiff,reduceCtorEq,↓reduceIte,Nat.reduceAdd,Int.reduceNeg,Nat.reduceLeDiff,Int.reduceToNat,Int.reduceEq,Int.reduceLT,Int.reduceLE,Int.reduceAdd,Io,Im,If,Il,Jt,Jf,AC.rg,Jm,Jl,Ja,Fm,Fl,Fa,Imv,Imb,Iai,Iei,Igi,Isi,Ipf,Ipt,Ilb,Iia,Ilt,Iap,Ink,Iln,Ils,Iad,Iex,Ibx,Ing]
  have e:Lib.decodeN (s.length-i) (b 0) (b 1) (b 2) (b 3)=(b 0,1):=by unfold Lib.decodeN;rw[if_pos (by omega)]
  rw[e,if_neg (by simp;omega)] at hQ
  exact hQ _ _ _ _ nofun rfl (by simp[ze,zd,AV.strip,AV.strip1])
 simp(disch:=first|omega|assumption) only[ir301,h0,hlt,hge,hc,hcb',hw0,a,steps,st2,pev,rev,oev,zL,zQ,zX,zY,bound,zx,mm2,mk,zr,AV.cells,AV.boxable,AV.one,AV.strip1,zy,zw,Nat.reduceEqDiff,reduceCtorEq,↓reduceIte,Nat.reduceAdd,Int.reduceNeg,Nat.reduceLeDiff,Int.reduceToNat,Int.reduceEq,Int.reduceLT,Int.reduceLE,Int.reduceAdd,Io,Im,If,Il,Jt,Jf,AC.rg,Jm,Jl,Ja,Fm,Fl,Fa,Imv,Imb,Iai,Iei,Igi,Isi,Ipf,Ipt,Ilb,Iia,Ilt,Iap,Ink,Iln,Ils,Iad,Iex,Ibx,Ing]
 refine zau (fun x:Nat×Nat×Nat=>[(6,.int .i64 x.2.2),(7,.int .i64 x.1),(8,.int .i64 x.2.1)]) (fun x H=>zk7 (b 0) x.1 x.2.1 x.2.2∧H=zh.emp) (fun J hJ=>?_) ?_
 ·simp(disch:=first|omega|assumption) only[steps,st2,pev,rev,oev,zL,zQ,zX,zY,bound,zx,mm2,mk,zr,AV.cells,AV.boxable,AV.one,AV.strip1,zy,zw,Nat.reduceEqDiff,reduceCtorEq,↓reduceIte,Nat.reduceAdd,Int.reduceNeg,Nat.reduceLeDiff,Int.reduceToNat,Int.reduceEq,Int.reduceLT,Int.reduceLE,Int.reduceAdd]
  by_cases a1:(194:Int)≤b 0
  ·by_cases a2:(b 0:Int)<224
   ·have e:=znk (n:=b 0) (by omega)
    simp(disch:=first|omega|assumption) only[a1,a2,e,steps,st2,pev,rev,oev,zL,zQ,zX,zY,bound,zx,mm2,mk,zr,AV.cells,AV.boxable,AV.one,AV.strip1,zy,zw,Nat.reduceEqDiff,reduceCtorEq,↓reduceIte,Nat.reduceAdd,Int.reduceNeg,Nat.reduceLeDiff,Int.reduceToNat,Int.reduceEq,Int.reduceLT,Int.reduceLE,Int.reduceAdd]
    exact goJ (hJ (2,128,b 0 % 32) _ ⟨.inl ⟨by omega,by omega,rfl,rfl,rfl⟩,rfl⟩) (by simp(disch:=first|omega|assumption) only[steps,st2,pev,rev,oev,zL,zQ,zX,zY,bound,zx,mm2,mk,zr,AV.cells,AV.boxable,AV.one,AV.strip1,zy,zw,Nat.reduceEqDiff,reduceCtorEq,↓reduceIte,Nat.reduceAdd,Int.reduceNeg,Nat.reduceLeDiff,Int.reduceToNat,Int.reduceEq,Int.reduceLT,Int.reduceLE,Int.reduceAdd])
   ·by_cases a3:(b 0:Int)<240
    ·have a4:(224:Int)≤b 0:=by omega
     have e:=zlQ (n:=b 0) (by omega)
     simp(disch:=first|omega|assumption) only[a1,a2,a3,a4,e,steps,st2,pev,rev,oev,zL,zQ,zX,zY,bound,zx,mm2,mk,zr,AV.cells,AV.boxable,AV.one,AV.strip1,zy,zw,Nat.reduceEqDiff,reduceCtorEq,↓reduceIte,Nat.reduceAdd,Int.reduceNeg,Nat.reduceLeDiff,Int.reduceToNat,Int.reduceEq,Int.reduceLT,Int.reduceLE,Int.reduceAdd]
     exact goJ (hJ (3,2048,b 0 % 16) _ ⟨.inr (.inl ⟨by omega,by omega,rfl,rfl,rfl⟩),rfl⟩) (by simp(disch:=first|omega|assumption) only[steps,st2,pev,rev,oev,zL,zQ,zX,zY,bound,zx,mm2,mk,zr,AV.cells,AV.boxable,AV.one,AV.strip1,zy,zw,Nat.reduceEqDiff,reduceCtorEq,↓reduceIte,Nat.reduceAdd,Int.reduceNeg,Nat.reduceLeDiff,Int.reduceToNat,Int.reduceEq,Int.reduceLT,Int.reduceLE,Int.reduceAdd])
    ·have a4:(224:Int)≤b 0:=by omega
     have a5:(240:Int)≤b 0:=by omega
     by_cases a6:(b 0:Int)<245
     ·have e:=and7 (n:=b 0) (by omega)
      simp(disch:=first|omega|assumption) only[a1,a2,a3,a4,a5,a6,e,steps,st2,pev,rev,oev,zL,zQ,zX,zY,bound,zx,mm2,mk,zr,AV.cells,AV.boxable,AV.one,AV.strip1,zy,zw,Nat.reduceEqDiff,reduceCtorEq,↓reduceIte,Nat.reduceAdd,Int.reduceNeg,Nat.reduceLeDiff,Int.reduceToNat,Int.reduceEq,Int.reduceLT,Int.reduceLE,Int.reduceAdd]
      exact goJ (hJ (4,65536,b 0 % 8) _ ⟨.inr (.inr ⟨by omega,by omega,rfl,rfl,rfl⟩),rfl⟩) (by simp(disch:=first|omega|assumption) only[steps,st2,pev,rev,oev,zL,zQ,zX,zY,bound,zx,mm2,mk,zr,AV.cells,AV.boxable,AV.one,AV.strip1,zy,zw,Nat.reduceEqDiff,reduceCtorEq,↓reduceIte,Nat.reduceAdd,Int.reduceNeg,Nat.reduceLeDiff,Int.reduceToNat,Int.reduceEq,Int.reduceLT,Int.reduceLE,Int.reduceAdd])
     ·rw[Lib.decodeN_bad _ _ _ _ _ (.inr ⟨by omega,hbl 0⟩),if_pos rfl] at hQ
      simp(disch:=first|omega|assumption) only[a1,a2,a3,a4,a5,a6,steps,st2,pev,rev,oev,zL,zQ,zX,zY,bound,zx,mm2,mk,zr,AV.cells,AV.boxable,AV.one,AV.strip1,zy,zw,Nat.reduceEqDiff,reduceCtorEq,↓reduceIte,Nat.reduceAdd,Int.reduceNeg,Nat.reduceLeDiff,Int.reduceToNat,Int.reduceEq,Int.reduceLT,Int.reduceLE,Int.reduceAdd]
      exact hQ _ _ _ _ nofun rfl (by simp[ze,zd,AV.strip,AV.strip1])
  ·have a2:¬ (224:Int)≤b 0:=by omega
   have a3:¬ (240:Int)≤b 0:=by omega
   rw[Lib.decodeN_bad _ _ _ _ _ (.inl ⟨by omega,by omega⟩),if_pos rfl] at hQ
   simp(disch:=first|omega|assumption) only[a1,a2,a3,steps,st2,pev,rev,oev,zL,zQ,zX,zY,bound,zx,mm2,mk,zr,AV.cells,AV.boxable,AV.one,AV.strip1,zy,zw,Nat.reduceEqDiff,reduceCtorEq,↓reduceIte,Nat.reduceAdd,Int.reduceNeg,Nat.reduceLeDiff,Int.reduceToNat,Int.reduceEq,Int.reduceLT,Int.reduceLE,Int.reduceAdd]
   exact hQ _ _ _ _ nofun rfl (by simp[ze,zd,AV.strip,AV.strip1])
 rintro⟨w,lo,v⟩ H ⟨hL,rfl⟩
 simp only at hL
 have hv:v<32∧2≤w∧w≤4∧lo≤65536:=by rcases hL with h|h|h<;>omega
 by_cases g:w≤s.length-i
 case neg =>
  have g':(s.length:Int)-i<w:=by omega
  rw[zim hL (by omega),if_pos rfl] at hQ
  simp(disch:=first|omega|assumption) only[wrap64,g',steps,st2,pev,rev,oev,zL,zQ,zX,zY,bound,zx,mm2,mk,zr,AV.cells,AV.boxable,AV.one,AV.strip1,zy,zw,Nat.reduceEqDiff,reduceCtorEq,↓reduceIte,Nat.reduceAdd,Int.reduceNeg,Nat.reduceLeDiff,Int.reduceToNat,Int.reduceEq,Int.reduceLT,Int.reduceLE,Int.reduceAdd]
  exact hQ _ _ _ _ nofun rfl (by simp[ze,zd,AV.strip,AV.strip1])
 have g':¬ (s.length:Int)-i<w:=by omega
 simp(disch:=first|omega|assumption) only[wrap64,g',steps,st2,pev,rev,oev,zL,zQ,zX,zY,bound,zx,mm2,mk,zr,AV.cells,AV.boxable,AV.one,AV.strip1,zy,zw,Nat.reduceEqDiff,reduceCtorEq,↓reduceIte,Nat.reduceAdd,Int.reduceNeg,Nat.reduceLeDiff,Int.reduceToNat,Int.reduceEq,Int.reduceLT,Int.reduceLE,Int.reduceAdd]
 refine yO (fun j:Nat=>[(6,.int .i64 (cv v b j)),(9,.int .i64 (j+1:Nat))]) (fun j H=>j+1≤w∧(∀ k,1≤k→k<j+1→128≤b k∧b k≤191)∧cv v b j<32*64 ^ j) (fun j=>w-j) 0 (by simp(disch:=first|omega|assumption) only[cv,steps,st2,pev,rev,oev,zL,zQ,zX,zY,bound,zx,mm2,mk,zr,AV.cells,AV.boxable,AV.one,AV.strip1,zy,zw,Nat.reduceEqDiff,reduceCtorEq,↓reduceIte,Nat.reduceAdd,Int.reduceNeg,Nat.reduceLeDiff,Int.reduceToNat,Int.reduceEq,Int.reduceLT,Int.reduceLE,Int.reduceAdd]) ⟨by omega,fun k h1 h2=>by omega,by simp[cv];omega⟩ ?_
 rintro j H J ⟨hj,hcont,hcv⟩ hJ
 have hcv2:cv v b j<8388608:=by
  have:j=0∨j=1∨j=2∨j=3:=by omega
  rcases this with rfl|rfl|rfl|rfl<;>omega
 by_cases hjw:j+1<w
 ·have hjw':((j+1:Nat):Int)<w:=by omega
  have hto:((i:Int)+((j+1:Nat):Int)).toNat=i+(j+1):=by omega
  have hi1:(0:Int)≤(i:Int)+((j+1:Nat):Int):=by omega
  have hi2:(i:Int)+((j+1:Nat):Int)<s.length:=by omega
  obtain⟨d,hd⟩:∃ d,s.getD (i+(j+1)) 0=d:=⟨_,rfl⟩
  have hdb:(d.toNat:Int)=(b (j+1):Nat):=by rw[← hd,← bk]
  have hb1:=hbl (j+1)
  have hw1:IntKind.wrap .i64 ((b (j+1):Nat):Int)=(b (j+1):Nat):=za4 (by omega)
  simp(disch:=first|omega|assumption) only[hjw',wrap64,hto,hi1,hi2,hd,hdb,hw1,steps,st2,pev,rev,oev,zL,zQ,zX,zY,bound,zx,mm2,mk,zr,AV.cells,AV.boxable,AV.one,AV.strip1,zy,zw,Nat.reduceEqDiff,reduceCtorEq,↓reduceIte,Nat.reduceAdd,Int.reduceNeg,Nat.reduceLeDiff,Int.reduceToNat,Int.reduceEq,Int.reduceLT,Int.reduceLE,Int.reduceAdd]
  by_cases a1:((b (j+1):Nat):Int)<128
  ·rw[zfB hL (by omega) hjw (.inl (by omega)),if_pos rfl] at hQ
   simp(disch:=first|omega|assumption) only[a1,steps,st2,pev,rev,oev,zL,zQ,zX,zY,bound,zx,mm2,mk,zr,AV.cells,AV.boxable,AV.one,AV.strip1,zy,zw,Nat.reduceEqDiff,reduceCtorEq,↓reduceIte,Nat.reduceAdd,Int.reduceNeg,Nat.reduceLeDiff,Int.reduceToNat,Int.reduceEq,Int.reduceLT,Int.reduceLE,Int.reduceAdd]
   exact hQ _ _ _ _ nofun rfl (by simp[ze,zd,AV.strip,AV.strip1])
  by_cases a2:(191:Int)<((b (j+1):Nat):Int)
  ·rw[zfB hL (by omega) hjw (.inr (by omega)),if_pos rfl] at hQ
   simp(disch:=first|omega|assumption) only[a1,a2,steps,st2,pev,rev,oev,zL,zQ,zX,zY,bound,zx,mm2,mk,zr,AV.cells,AV.boxable,AV.one,AV.strip1,zy,zw,Nat.reduceEqDiff,reduceCtorEq,↓reduceIte,Nat.reduceAdd,Int.reduceNeg,Nat.reduceLeDiff,Int.reduceToNat,Int.reduceEq,Int.reduceLT,Int.reduceLE,Int.reduceAdd]
   exact hQ _ _ _ _ nofun rfl (by simp[ze,zd,AV.strip,AV.strip1])
  have e1:=zhN (n:=b (j+1)) (by omega)
  have e2:IntKind.wrap .i64 ((cv v b j:Int)*2 ^ (min 6 IntKind.i64.bits))=((cv v b j*64:Nat):Int):=by
   have e3:(2:Int) ^ (min 6 IntKind.i64.bits)=64:=by decide
   rw[e3,wrap64 (by omega) (by omega)];omega
  have e4:=znT (a:=cv v b j) (b:=b (j+1) % 64) (by omega) (Nat.mod_lt _ (by omega))
  simp(disch:=first|omega|assumption) only[a1,a2,e1,e2,e4,steps,st2,pev,rev,oev,zL,zQ,zX,zY,bound,zx,mm2,mk,zr,AV.cells,AV.boxable,AV.one,AV.strip1,zy,zw,Nat.reduceEqDiff,reduceCtorEq,↓reduceIte,Nat.reduceAdd,Int.reduceNeg,Nat.reduceLeDiff,Int.reduceToNat,Int.reduceEq,Int.reduceLT,Int.reduceLE,Int.reduceAdd]
  have hpow:32*64 ^ (j+1)=64*(32*64 ^ j):=by rw[Nat.pow_succ];omega
  exact goJ (hJ (j+1) _ (by omega) ⟨by omega,fun k h1 h2=>by
   rcases Nat.lt_or_ge k (j+1) with h3|h3
   ·exact hcont k h1 h3
   ·have:k=j+1:=by omega
    subst this
    omega,by simp only[cv];omega⟩) (by simp(disch:=first|omega|assumption) only[wrap64,cv,Int.natCast_add,Int.natCast_one,steps,st2,pev,rev,oev,zL,zQ,zX,zY,bound,zx,mm2,mk,zr,AV.cells,AV.boxable,AV.one,AV.strip1,zy,zw,Nat.reduceEqDiff,reduceCtorEq,↓reduceIte,Nat.reduceAdd,Int.reduceNeg,Nat.reduceLeDiff,Int.reduceToNat,Int.reduceEq,Int.reduceLT,Int.reduceLE,Int.reduceAdd])
 ·have hjw':¬ ((j+1:Nat):Int)<w:=by omega
  have hjw2:j=w-1:=by omega
  subst hjw2
  rw[zi1 hL g (fun k h1 h2=>hcont k h1 (by omega))] at hQ
  have hcvB:(IntKind.wrap .i64 ((cv v b (w-1):Nat):Int))=(cv v b (w-1):Nat):=za4 (by omega)
  by_cases x1:((cv v b (w-1):Nat):Int)<lo
  ·rw[if_pos (.inl (by omega))] at hQ
   simp(disch:=first|omega|assumption) only[hjw',x1,steps,st2,pev,rev,oev,zL,zQ,zX,zY,bound,zx,mm2,mk,zr,AV.cells,AV.boxable,AV.one,AV.strip1,zy,zw,Nat.reduceEqDiff,reduceCtorEq,↓reduceIte,Nat.reduceAdd,Int.reduceNeg,Nat.reduceLeDiff,Int.reduceToNat,Int.reduceEq,Int.reduceLT,Int.reduceLE,Int.reduceAdd]
   exact hQ _ _ _ _ nofun rfl (by simp[ze,zd,AV.strip,AV.strip1])
  by_cases x2:(1114111:Int)<((cv v b (w-1):Nat):Int)
  ·rw[if_pos (.inr (.inl (by omega)))] at hQ
   simp(disch:=first|omega|assumption) only[hjw',x1,x2,steps,st2,pev,rev,oev,zL,zQ,zX,zY,bound,zx,mm2,mk,zr,AV.cells,AV.boxable,AV.one,AV.strip1,zy,zw,Nat.reduceEqDiff,reduceCtorEq,↓reduceIte,Nat.reduceAdd,Int.reduceNeg,Nat.reduceLeDiff,Int.reduceToNat,Int.reduceEq,Int.reduceLT,Int.reduceLE,Int.reduceAdd]
   exact hQ _ _ _ _ nofun rfl (by simp[ze,zd,AV.strip,AV.strip1])
  by_cases x3:(55296:Int)≤((cv v b (w-1):Nat):Int)
  ·by_cases x4:((cv v b (w-1):Nat):Int)<57344
   ·rw[if_pos (.inr (.inr ⟨by omega,by omega⟩))] at hQ
    simp(disch:=first|omega|assumption) only[hjw',x1,x2,x3,x4,steps,st2,pev,rev,oev,zL,zQ,zX,zY,bound,zx,mm2,mk,zr,AV.cells,AV.boxable,AV.one,AV.strip1,zy,zw,Nat.reduceEqDiff,reduceCtorEq,↓reduceIte,Nat.reduceAdd,Int.reduceNeg,Nat.reduceLeDiff,Int.reduceToNat,Int.reduceEq,Int.reduceLT,Int.reduceLE,Int.reduceAdd]
    exact hQ _ _ _ _ nofun rfl (by simp[ze,zd,AV.strip,AV.strip1])
   ·rw[if_neg (by omega)] at hQ
    simp(disch:=first|omega|assumption) only[hjw',x1,x2,x3,x4,steps,st2,pev,rev,oev,zL,zQ,zX,zY,bound,zx,mm2,mk,zr,AV.cells,AV.boxable,AV.one,AV.strip1,zy,zw,Nat.reduceEqDiff,reduceCtorEq,↓reduceIte,Nat.reduceAdd,Int.reduceNeg,Nat.reduceLeDiff,Int.reduceToNat,Int.reduceEq,Int.reduceLT,Int.reduceLE,Int.reduceAdd]
    exact hQ _ _ _ _ nofun rfl (by simp[ze,zd,AV.strip,AV.strip1])
  ·rw[if_neg (by omega)] at hQ
   simp(disch:=first|omega|assumption) only[hjw',x1,x2,x3,steps,st2,pev,rev,oev,zL,zQ,zX,zY,bound,zx,mm2,mk,zr,AV.cells,AV.boxable,AV.one,AV.strip1,zy,zw,Nat.reduceEqDiff,reduceCtorEq,↓reduceIte,Nat.reduceAdd,Int.reduceNeg,Nat.reduceLeDiff,Int.reduceToNat,Int.reduceEq,Int.reduceLT,Int.reduceLE,Int.reduceAdd]
   exact hQ _ _ _ _ nofun rfl (by simp[ze,zd,AV.strip,AV.strip1])
def cZ (l:List Int):List (List AV):=l.map fun n=>[.int .i64 n]
theorem zmL (l:List Int):(cZ l).length=l.length:=by simp[cZ]
def zaC:Nat→List UInt8→List Int
 | 0,_=>[]
 | k+1,l=>if l=[] then [] else ((zP l).1:Int)::zaC k (l.drop (zP l).2)
theorem zgB (k:Nat):zaC k []=[]:=by cases k<;>simp[zaC]
def zdF (s:List UInt8):List Int:=if Lib.validD s then zaC s.length s else []
theorem zij {l:List UInt8} (hne:l≠[]) (h:(zP l).2=0):Lib.validD l=false:=by
 have hw:=Lib.decodeL_width l
 unfold zP at h
 rw[if_neg hne] at h
 split at h
 ·rename_i e
  rw[Lib.validD_step l hne,e];simp
 ·omega
theorem zdw {l:List UInt8} (hne:l≠[]) (h:(zP l).2≠0):Lib.validD l=Lib.validD (l.drop (zP l).2)∧(zP l).2≤l.length:=by
 unfold zP at h ⊢
 rw[if_neg hne] at h ⊢
 split at h
 ·simp at h
 ·rename_i e
  rw[if_neg e]
  refine⟨?_,Lib.decodeL_le l hne⟩
  rw[Lib.validD_step l hne,if_neg]
  rintro⟨a,b⟩
  exact e (Prod.ext a b)
theorem ziW (s:List UInt8) (hs:s.length≤Lim):zo Tryz.prog 252 [.str s] (.tup [.sl .no 1 (cZ (zdF s)),.bool (Lib.validD s)]):=by
 refine zo.go ir252 ck252 (Al4 _) fun KP Q hQ=>?_
 have hs':=hs
 simp only[Lim] at hs
 simp(disch:=first|omega|assumption) only[ir252,go_sem]
 refine yO (fun x:Own×List Int×Nat=>[(4,.sl x.1 1 (cZ x.2.1)),(5,.int .i64 x.2.2)])
  (fun x H=>x.2.2≤s.length∧x.2.1.length≤x.2.2∧zaC s.length s=x.2.1++zaC (s.length-x.2.1.length) (s.drop x.2.2)∧Lib.validD s=Lib.validD (s.drop x.2.2)∧OwnS zh.emp .nil H x.1 x.2.1.length 1) (fun x=>s.length-x.2.2) (.nil,[],0) (by simp(disch:=first|omega|assumption) only[cZ,go_sem]) ⟨by simp,by simp,by simp,by simp,OwnS.refl rfl⟩ ?_
 rintro⟨o,acc,i⟩ H J ⟨hi,hai,hc,hv,hs1⟩ hJ
 simp only at hi hai hc hv hs1
 by_cases hlt:i<s.length
 case neg =>
  have hlt':¬ (i:Int)<s.length:=by omega
  rw[List.drop_of_length_le (by omega)] at hc hv
  rw[zgB,List.append_nil] at hc
  rw[Lib.validD_nil] at hv
  simp(disch:=first|omega|assumption) only[hlt',go_sem]
  exact hQ _ _ _ _ nofun rfl (by simp[ze,zd,AV.strip,AV.strip1,zdF,hv,hc])
 have hlt':(i:Int)<s.length:=by omega
 have hne:s.drop i≠[]:=fun e=>by have:=congrArg List.length e;simp at this;omega
 have hcl:=zmL acc
 simp(disch:=first|omega|assumption) only[hlt',go_sem]
 refine zc (zo.low (zm8 s i hlt hs')) ?_
 by_cases h0:(zP (s.drop i)).2=0
 ·rw[zij hne h0] at hv
  have h0':((zP (s.drop i)).2:Int)=0:=by omega
  simp(disch:=first|omega|assumption) only[h0',go_sem]
  exact hQ _ _ _ _ nofun rfl (by simp[ze,zd,AV.strip,AV.strip1,zdF,hv,cZ])
 ·obtain⟨g1,g2⟩:=zdw hne h0
  rw[zaL] at g2
  rw[List.drop_drop] at g1
  have h0':¬ ((zP (s.drop i)).2:Int)=0:=by omega
  simp(disch:=first|omega|assumption) only[h0',go_sem]
  refine zF (by rw[hcl];exact hs1.own) ?_ ?_ fun o' H' hs2=>?_
  ·simp only[hcl,Al2,Al3];omega
  ·simp only[hcl,Al2,Al3,maxLen];omega
  simp(disch:=first|omega|assumption) only[wrap64,go_sem]
  refine goJ (hJ (o',acc++[((zP (s.drop i)).1:Int)],i+(zP (s.drop i)).2) H' (by simp only;omega) ⟨by simp only;omega,by simp only[Al5,Al2,Al3];omega,?_,by rw[hv,g1],hs1.trans (by simpa[hcl] using hs2)⟩) (by simp(disch:=first|omega|assumption) only[cZ,List.map_append,Int.natCast_add,go_sem])
  rw[hc]
  obtain⟨k,hk⟩:∃ k,s.length-acc.length=k+1:=⟨s.length-acc.length-1,by omega⟩
  have hk2:s.length-(acc++[((zP (s.drop i)).1:Int)]).length=k:=by simp only[Al5,Al2,Al3];omega
  simp only[hk,hk2,zaC]
  rw[if_neg hne,List.drop_drop]
  simp
theorem zjT (s:List UInt8) (hs:s.length≤Lim):zo Tryz.prog 296 [.str s] (.bool (Lib.validD s)):=by
 refine zo.go ir296 ck296 (Al4 _) fun KP Q hQ=>?_
 simp(disch:=first|omega|assumption) only[ir296,go_sem]
 refine zc (ziW s hs) ?_
 simp(disch:=first|omega|assumption) only[go_sem]
 exact hQ _ _ _ _ nofun rfl (by simp[ze,zd,AV.strip,AV.strip1])
open Go.Lib
theorem zm0 (n:Nat):(n:Int).fdiv (2 ^ min 6 IntKind.i64.bits)=((n / 64:Nat):Int):=by
 show (n:Int).fdiv 64=_
 rw[Int.fdiv_eq_ediv_of_nonneg _ (by omega)];omega
theorem zlX (n:Nat):(n:Int).fdiv (2 ^ min 12 IntKind.i64.bits)=((n / 4096:Nat):Int):=by
 show (n:Int).fdiv 4096=_
 rw[Int.fdiv_eq_ediv_of_nonneg _ (by omega)];omega
theorem znA (n:Nat):(n:Int).fdiv (2 ^ min 18 IntKind.i64.bits)=((n / 262144:Nat):Int):=by
 show (n:Int).fdiv 262144=_
 rw[Int.fdiv_eq_ediv_of_nonneg _ (by omega)];omega
theorem orT:∀ x:Fin 64,(∀(b:Nat),b=128∨(b=192∧x.val<32)∨(b=224∧x.val<16)∨(b=240∧x.val<8)→IntKind.wrap .u8 (IntKind.wrap .i64 ((BitVec.ofInt IntKind.i64.bits (b:Int) ||| BitVec.ofInt IntKind.i64.bits ((x.val:Nat):Int)).toNat:Int))=((UInt8.ofNat (b+x.val)).toNat:Int)):=by
 intro x b hb
 have h1:∀ x:Fin 64,IntKind.wrap .u8 (IntKind.wrap .i64 ((BitVec.ofInt IntKind.i64.bits 128 ||| BitVec.ofInt IntKind.i64.bits ((x.val:Nat):Int)).toNat:Int))=((UInt8.ofNat (128+x.val)).toNat:Int):=by decide +kernel
 have h2:∀ x:Fin 32,IntKind.wrap .u8 (IntKind.wrap .i64 ((BitVec.ofInt IntKind.i64.bits 192 ||| BitVec.ofInt IntKind.i64.bits ((x.val:Nat):Int)).toNat:Int))=((UInt8.ofNat (192+x.val)).toNat:Int):=by decide +kernel
 have h3:∀ x:Fin 16,IntKind.wrap .u8 (IntKind.wrap .i64 ((BitVec.ofInt IntKind.i64.bits 224 ||| BitVec.ofInt IntKind.i64.bits ((x.val:Nat):Int)).toNat:Int))=((UInt8.ofNat (224+x.val)).toNat:Int):=by decide +kernel
 have h4:∀ x:Fin 8,IntKind.wrap .u8 (IntKind.wrap .i64 ((BitVec.ofInt IntKind.i64.bits 240 ||| BitVec.ofInt IntKind.i64.bits ((x.val:Nat):Int)).toNat:Int))=((UInt8.ofNat (240+x.val)).toNat:Int):=by decide +kernel
 rcases hb with rfl|⟨rfl,h⟩|⟨rfl,h⟩|⟨rfl,h⟩
 ·exact h1 x
 ·exact h2 ⟨x.val,h⟩
 ·exact h3 ⟨x.val,h⟩
 ·exact h4 ⟨x.val,h⟩
theorem zhZ {m:Nat} (h:m<64):IntKind.wrap .u8 (IntKind.wrap .i64 ((BitVec.ofInt IntKind.i64.bits 128 ||| BitVec.ofInt IntKind.i64.bits (m:Int)).toNat:Int))=((UInt8.ofNat (128+m)).toNat:Int):=orT ⟨m,h⟩ 128 (.inl rfl)
theorem znC {m:Nat} (h:m<32):IntKind.wrap .u8 (IntKind.wrap .i64 ((BitVec.ofInt IntKind.i64.bits 192 ||| BitVec.ofInt IntKind.i64.bits (m:Int)).toNat:Int))=((UInt8.ofNat (192+m)).toNat:Int):=orT ⟨m,by omega⟩ 192 (.inr (.inl ⟨rfl,h⟩))
theorem znc {m:Nat} (h:m<16):IntKind.wrap .u8 (IntKind.wrap .i64 ((BitVec.ofInt IntKind.i64.bits 224 ||| BitVec.ofInt IntKind.i64.bits (m:Int)).toNat:Int))=((UInt8.ofNat (224+m)).toNat:Int):=orT ⟨m,by omega⟩ 224 (.inr (.inr (.inl ⟨rfl,h⟩)))
theorem znp {m:Nat} (h:m<8):IntKind.wrap .u8 (IntKind.wrap .i64 ((BitVec.ofInt IntKind.i64.bits 240 ||| BitVec.ofInt IntKind.i64.bits (m:Int)).toNat:Int))=((UInt8.ofNat (240+m)).toNat:Int):=orT ⟨m,by omega⟩ 240 (.inr (.inr (.inr ⟨rfl,h⟩)))
theorem zn1 (n:Nat) (h:n≤1114111):zo Tryz.prog 298 [.int .i64 n] (.str (YB n)):=by
 refine zo.go ir298 ck298 (Al4 _) fun KP Q hQ=>?_
 by_cases h1:n<128
 ·have h1':((n:Int)<128)=True:=eq_true (by omega)
  have e:IntKind.wrap .u8 (n:Int)=((UInt8.ofNat n).toNat:Int):=by rw[wr8,UInt8.toNat_ofNat']
  have e2:zbc [[.int .u8 (UInt8.ofNat n).toNat]]=some [UInt8.ofNat n]:=zbw [_]
  simp(disch:=first|omega|assumption) only[ir298,h1',e,e2,steps,st2,pev,rev,oev,zL,zQ,zX,zY,bound,zx,mm2,mk,zr,AV.cells,AV.boxable,AV.one,AV.strip1,zy,zw,Nat.reduceEqDiff,reduceCtorEq,↓reduceIte,Nat.reduceAdd,Int.reduceNeg,Nat.reduceLeDiff,Int.reduceToNat,Int.reduceEq,Int.reduceLT,Int.reduceLE,Int.reduceAdd,Io,Im,If,Il,Jt,Jf,AC.rg,Jm,Jl,Ja,Fm,Fl,Fa,Imv,Imb,Iai,Iei,Igi,Isi,Ipf,Ipt,Ilb,Iia,Ilt,Iap,Ink,Iln,Ils,Iad,Iex,Ibx,Ing]
  exact hQ _ _ _ _ nofun rfl (by simp[ze,zd,AV.strip,AV.strip1,YB,show n≤127 by omega])
 have h1':¬ ((n:Int)<128):=by omega
 have a0:=zhN (n:=n) (by omega)
 by_cases h2:n<2048
 ·have h2':((n:Int)<2048)=True:=eq_true (by omega)
  have e2:zbc [[.int .u8 (UInt8.ofNat (192+n / 64)).toNat],[.int .u8 (UInt8.ofNat (128+n % 64)).toNat]]=some [UInt8.ofNat (192+n / 64),UInt8.ofNat (128+n % 64)]:=zbw [_,_]
  have o1:=znC (m:=n / 64) (by omega)
  have o2:=zhZ (m:=n % 64) (by omega)
  simp(disch:=first|omega|assumption) only[ir298,h1',h2',zm0,a0,o1,o2,e2,steps,st2,pev,rev,oev,zL,zQ,zX,zY,bound,zx,mm2,mk,zr,AV.cells,AV.boxable,AV.one,AV.strip1,zy,zw,Nat.reduceEqDiff,reduceCtorEq,↓reduceIte,Nat.reduceAdd,Int.reduceNeg,Nat.reduceLeDiff,Int.reduceToNat,Int.reduceEq,Int.reduceLT,Int.reduceLE,Int.reduceAdd,Io,Im,If,Il,Jt,Jf,AC.rg,Jm,Jl,Ja,Fm,Fl,Fa,Imv,Imb,Iai,Iei,Igi,Isi,Ipf,Ipt,Ilb,Iia,Ilt,Iap,Ink,Iln,Ils,Iad,Iex,Ibx,Ing]
  exact hQ _ _ _ _ nofun rfl (by simp[ze,zd,AV.strip,AV.strip1,YB,show ¬ n≤127 by omega,show n≤2047 by omega])
 have h2':¬ ((n:Int)<2048):=by omega
 have a1:=zhN (n:=n / 64) (by omega)
 have o2:=zhZ (m:=n % 64) (by omega)
 have o3:=zhZ (m:=n / 64 % 64) (by omega)
 by_cases h3:n<65536
 ·have h3':((n:Int)<65536)=True:=eq_true (by omega)
  have e2:zbc [[.int .u8 (UInt8.ofNat (224+n / 4096)).toNat],[.int .u8 (UInt8.ofNat (128+n / 64 % 64)).toNat],[.int .u8 (UInt8.ofNat (128+n % 64)).toNat]]=some [UInt8.ofNat (224+n / 4096),UInt8.ofNat (128+n / 64 % 64),UInt8.ofNat (128+n % 64)]:=zbw [_,_,_]
  have o1:=znc (m:=n / 4096) (by omega)
  simp(disch:=first|omega|assumption) only[ir298,h1',h2',h3',zm0,zlX,a0,a1,o1,o2,o3,e2,steps,st2,pev,rev,oev,zL,zQ,zX,zY,bound,zx,mm2,mk,zr,AV.cells,AV.boxable,AV.one,AV.strip1,zy,zw,Nat.reduceEqDiff,reduceCtorEq,↓reduceIte,Nat.reduceAdd,Int.reduceNeg,Nat.reduceLeDiff,Int.reduceToNat,Int.reduceEq,Int.reduceLT,Int.reduceLE,Int.reduceAdd,Io,Im,If,Il,Jt,Jf,AC.rg,Jm,Jl,Ja,Fm,Fl,Fa,Imv,Imb,Iai,Iei,Igi,Isi,Ipf,Ipt,Ilb,Iia,Ilt,Iap,Ink,Iln,Ils,Iad,Iex,Ibx,Ing]
  exact hQ _ _ _ _ nofun rfl (by simp[ze,zd,AV.strip,AV.strip1,YB,show ¬ n≤127 by omega,show ¬ n≤2047 by omega,show n≤65535 by omega])
 have h3':¬ ((n:Int)<65536):=by omega
 have a2:=zhN (n:=n / 4096) (by omega)
 have o4:=zhZ (m:=n / 4096 % 64) (by omega)
 have o1:=znp (m:=n / 262144) (by omega)
 have e2:zbc [[.int .u8 (UInt8.ofNat (240+n / 262144)).toNat],[.int .u8 (UInt8.ofNat (128+n / 4096 % 64)).toNat],[.int .u8 (UInt8.ofNat (128+n / 64 % 64)).toNat],[.int .u8 (UInt8.ofNat (128+n % 64)).toNat]]=some [UInt8.ofNat (240+n / 262144),UInt8.ofNat (128+n / 4096 % 64),UInt8.ofNat (128+n / 64 % 64),UInt8.ofNat (128+n % 64)]:=zbw [_,_,_,_]
 simp(disch:=first|omega|assumption) only[ir298,h1',h2',h3',zm0,zlX,znA,a0,a1,a2,o1,o2,o3,o4,e2,steps,st2,pev,rev,oev,zL,zQ,zX,zY,bound,zx,mm2,mk,zr,AV.cells,AV.boxable,AV.one,AV.strip1,zy,zw,Nat.reduceEqDiff,reduceCtorEq,↓reduceIte,Nat.reduceAdd,Int.reduceNeg,Nat.reduceLeDiff,Int.reduceToNat,Int.reduceEq,Int.reduceLT,Int.reduceLE,Int.reduceAdd,Io,Im,If,Il,Jt,Jf,AC.rg,Jm,Jl,Ja,Fm,Fl,Fa,Imv,Imb,Iai,Iei,Igi,Isi,Ipf,Ipt,Ilb,Iia,Ilt,Iap,Ink,Iln,Ils,Iad,Iex,Ibx,Ing]
 exact hQ _ _ _ _ nofun rfl (by simp[ze,zd,AV.strip,AV.strip1,YB,show ¬ n≤127 by omega,show ¬ n≤2047 by omega,show ¬ n≤65535 by omega])
end Go.Proofs.YticbbfbpeimkbaaGreatDoor
namespace Go.Proofs.YticbbfbpeimkbaaGreatDoor
open Go.Ab
theorem wrap_u8 {x:Int} (h0:0≤x) (h1:x<256):IntKind.wrap .u8 x=x:=by
 unfold IntKind.wrap
 simp[IntKind.signed,IntKind.bits]
 omega
theorem zjE {d:Nat} (h:d<10):zbc [[.int .u8 (IntKind.wrap .u8 (48+(d:Int)))]]=some [UInt8.ofNat (48+d)]:=by
 rw[wrap_u8 (by omega) (by omega)]
 simp only[zbc,ZB]
 rw[if_pos (by omega)]
 congr 2
theorem zfX (n:Int):Lib.itoa n=if n<0 then 45::Lib.decDigits n.natAbs else Lib.decDigits n.natAbs:=by
 unfold Lib.itoa
 split
 ·rfl
 ·congr 1;omega
theorem zkQ {u:Nat} (h:u≤9223372036854775808):(Lib.decDigits u).length≤21:=by
 have:=Lib.itoa_length_le (-(u:Int)) (by omega) (by omega)
 rw[zfX] at this
 by_cases h0:u=0
 ·subst h0;rw[Lib.decDigits];simp
 ·rw[if_pos (by omega)] at this
  simp only[Int.natAbs_neg,Int.natAbs_natCast,Al2] at this
  omega
theorem zjW (n : Int) (h0 : -9223372036854775808 ≤ n) (h1 : n ≤ 9223372036854775807) : zo Tryz.prog 239 [.int .i64 n] (.str (Lib.itoa n)) := by
  refine zo.go ir239 ck239 (Al4 _) fun KP Q hQ => ?_
  by_cases n0 : n = 0
  · simp (disch := first | omega | assumption) only [ir239, n0, go_sem]
    have e : Lib.itoa n = [48] := by subst n0; unfold Lib.itoa; rw [if_neg (by omega)]; unfold Lib.decDigits; rfl
    exact hQ _ _ _ _ nofun rfl (by simp [ze, zd, AV.strip, AV.strip1, e])
  have hlen := zkQ (u := n.natAbs) (by omega)
  rw [zfX] at hQ
  generalize hD : Lib.decDigits n.natAbs = D at hlen hQ
  simp (disch := first | omega | assumption) only [ir239, n0, go_sem]
  refine yO (fun x : Nat × List UInt8 => [(3, .str x.2), (4, .int .i64 (if n < 0 then -(x.1 : Int) else x.1))]) (fun x H => x.1 ≤ n.natAbs ∧ D = (if x.1 = 0 then x.2 else Lib.decDigits x.1 ++ x.2)) (fun x => x.1) (n.natAbs, [])
    (by have e : (if n < 0 then -(n.natAbs : Int) else n.natAbs) = n := by split <;> omega
        simp (disch := first | omega | assumption) only [e, go_sem]) ⟨Al4 _, by rw [if_neg (by omega), List.append_nil, hD]⟩ ?_
  rintro ⟨u, t⟩ H J ⟨hu, ht⟩ hJ
  simp only at hu ht
  have htl : t.length ≤ 21 := by
    have : t.length ≤ D.length := by
      rw [ht]; split
      · exact Al4 _
      · simp
    omega
  by_cases u0 : u = 0
  · have e : (if n < 0 then -(u : Int) else u) = 0 := by split <;> omega
    rw [if_pos u0] at ht
    subst u0
    by_cases hn : n < 0
    · simp (disch := first | omega | assumption) only [hn, Int.neg_zero, go_sem]
      rw [if_pos hn] at hQ
      exact hQ _ _ _ _ nofun rfl (by simp [ze, zd, AV.strip, AV.strip1, ht])
    · simp (disch := first | omega | assumption) only [hn, Int.neg_zero, go_sem]
      rw [if_neg hn] at hQ
      exact hQ _ _ _ _ nofun rfl (by simp [ze, zd, AV.strip, AV.strip1, ht])
  · rw [if_neg u0] at ht
    have hm : u % 10 < 10 := Nat.mod_lt _ (by omega)
    have hstep : D = (if u / 10 = 0 then UInt8.ofNat (48 + u % 10) :: t else Lib.decDigits (u / 10) ++ UInt8.ofNat (48 + u % 10) :: t) := by
      rw [ht, Lib.decDigits]
      by_cases h10 : u < 10
      · have e1 : u / 10 = 0 := by omega
        have e2 : u % 10 = u := by omega
        rw [dif_pos h10, if_pos e1, e2]; rfl
      · have e1 : ¬ u / 10 = 0 := by omega
        rw [dif_neg h10, if_neg e1, zd9]; rfl
    have hby := zjE hm
    by_cases hn : n < 0
    · have e : (if n < 0 then -(u : Int) else u) = -(u : Int) := if_pos hn
      have e' : (if n < 0 then -((u / 10 : Nat) : Int) else ((u / 10 : Nat) : Int)) = -((u / 10 : Nat) : Int) := if_pos hn
      have hne : ¬ (-(u : Int) = 0) := by omega
      have hmod : Int.tmod (-(u : Int)) 10 = -((u % 10 : Nat) : Int) := by rw [Int.neg_tmod, Int.tmod_eq_emod_of_nonneg (by omega)]; omega
      have hdiv : Int.tdiv (-(u : Int)) 10 = -((u / 10 : Nat) : Int) := by rw [Int.neg_tdiv, Int.tdiv_eq_ediv_of_nonneg (by omega)]; omega
      have hw1 : IntKind.wrap .i64 (48 + ((u % 10 : Nat) : Int)) = 48 + ((u % 10 : Nat) : Int) := wrap64 (by omega) (by omega)
      by_cases z : u % 10 = 0
      · have hz : -((u % 10 : Nat) : Int) = ((u % 10 : Nat) : Int) := by omega
        have hz2 : ¬ ((u % 10 : Nat) : Int) < 0 := by omega
        simp (disch := first | omega | assumption) only [e, hne, hmod, hdiv, hby, wrap64, hz, hz2, hw1, go_sem]
        exact goJ (hJ (u / 10, UInt8.ofNat (48 + u % 10) :: t) _ (by simp only; omega) ⟨by simp only; omega, hstep⟩) (by simp (disch := first | omega | assumption) only [e', wrap64, go_sem])
      · have hz2 : -((u % 10 : Nat) : Int) < 0 := by omega
        have hneg : 0 - -((u % 10 : Nat) : Int) = ((u % 10 : Nat) : Int) := by omega
        simp (disch := first | omega | assumption) only [e, hne, hmod, hdiv, hby, wrap64, hz2, hw1, hneg, go_sem]
        exact goJ (hJ (u / 10, UInt8.ofNat (48 + u % 10) :: t) _ (by simp only; omega) ⟨by simp only; omega, hstep⟩) (by simp (disch := first | omega | assumption) only [e', wrap64, go_sem])
    · have e : (if n < 0 then -(u : Int) else u) = (u : Int) := if_neg hn
      have e' : (if n < 0 then -((u / 10 : Nat) : Int) else ((u / 10 : Nat) : Int)) = ((u / 10 : Nat) : Int) := if_neg hn
      have hne : ¬ ((u : Int) = 0) := by omega
      have hmod : Int.tmod (u : Int) 10 = ((u % 10 : Nat) : Int) := by rw [Int.tmod_eq_emod_of_nonneg (by omega)]; omega
      have hdiv : Int.tdiv (u : Int) 10 = ((u / 10 : Nat) : Int) := by rw [Int.tdiv_eq_ediv_of_nonneg (by omega)]; omega
      have hw1 : IntKind.wrap .i64 (48 + ((u % 10 : Nat) : Int)) = 48 + ((u % 10 : Nat) : Int) := wrap64 (by omega) (by omega)
      have hz2 : ¬ ((u % 10 : Nat) : Int) < 0 := by omega
      simp (disch := first | omega | assumption) only [e, hne, hmod, hdiv, hby, wrap64, hz2, hw1, go_sem]
      exact goJ (hJ (u / 10, UInt8.ofNat (48 + u % 10) :: t) _ (by simp only; omega) ⟨by simp only; omega, hstep⟩) (by simp (disch := first | omega | assumption) only [e', wrap64, go_sem])
open Go.Lib
theorem zmD (s:List UInt8) (c:UInt8) (hs:s.length≤Lim):zo Tryz.prog 254 [.str s,.int .u8 c.toNat] (.int .i64 (Lib.indexByte s c)):=by
 refine zo.go ir254 ck254 (Al4 _) fun KP Q hQ=>?_
 simp only[Lim] at hs
 have none:∀ l:List UInt8,c ∉ l→Lib.indexByte l c=-1:=fun l=>by
  induction l with
  | nil=>intro _;rfl
  | cons b l ih =>
   intro h
   have h1:¬ b=c:=fun e=>h (by simp[e])
   have h2:=ih fun e=>h (by simp[e])
   simp[Lib.indexByte,h1,h2]
 have at':∀(l r:List UInt8),c ∉ l→Lib.indexByte (l++c::r) c=l.length:=fun l=>by
  induction l with
  | nil=>intro r _;simp[Lib.indexByte]
  | cons b l ih =>
   intro r h
   have h1:¬ b=c:=fun e=>h (by simp[e])
   have h2:=ih r fun e=>h (by simp[e])
   simp only[Al6,Lib.indexByte,h2]
   simp[h1]
   try omega
 simp(disch:=first|omega|assumption) only[ir254,go_sem]
 refine zm s 5 (fun _:Unit=>[]) (fun done rest _ H'=>c ∉ done) () (by simp(disch:=first|omega|assumption) only[go_sem]) (by simp) ?_ ?_
 ·rintro _ H2 J hn hlt
  simp(disch:=first|omega|assumption) only[hlt,go_sem]
  exact hQ _ _ _ _ nofun rfl (by simp[ze,zd,AV.strip,AV.strip1,none s hn])
 ·rintro done x rest _ H2 J hd hlt hlt2 hn hJ
  have hg:=zfc hd
  by_cases hx:x=c
  ·subst hx
   have e:=at' done rest hn
   rw[← hd] at e
   simp(disch:=first|omega|assumption) only[hlt,hg,go_sem]
   exact hQ _ _ _ _ nofun rfl (by simp[ze,zd,AV.strip,AV.strip1,e])
  ·have hx':¬ ((x.toNat:Int)=c.toNat):=by rw[zm2];exact hx
   have nx:=hJ () H2 (by simp only[List.mem_append,List.mem_singleton,not_or];exact⟨hn,fun e=>hx e.symm⟩)
   simp(disch:=first|omega|assumption) only[hlt,hg,hx',wrap64,go_sem]
   exact goJ nx (by simp(disch:=first|omega|assumption) only[go_sem])
structure DecOk (l:List UInt8) (c k:Nat):Prop where
 enc:YB c=l.take k
 le:c≤1114111
 pos:1≤k
 len:k≤l.length
 one:k=1→c=(l.getD 0 0).toNat∧(l.getD 0 0).toNat<128
 high:k≠1→∀ x∈l.take k,128≤x.toNat
theorem Y3 {n:Nat} {b:UInt8} (h:n=b.toNat):UInt8.ofNat n=b:=UInt8.toNat_inj.1 (by rw[UInt8.toNat_ofNat',h];have:=b.toNat_lt;omega)
theorem zll {b0 b1:UInt8} {t:List UInt8} (h0:b0.toNat / 32=6) (h1:b1.toNat / 64=2) (hc:128≤b0.toNat % 32*64+b1.toNat % 64):DecOk (b0::b1::t) (b0.toNat % 32*64+b1.toNat % 64) 2:=by
 refine⟨?_,by omega,by omega,by simp,fun h=>by omega,fun _ x hx=>?_⟩
 ·unfold YB
  rw[if_neg (by omega),if_pos (by omega)]
  simp only[zgb,List.take_zero,List.cons.injEq,and_true]
  exact⟨Y3 (by omega),Y3 (by omega)⟩
 ·simp only[zgb,List.take_zero,List.mem_cons,List.not_mem_nil,or_false] at hx
  rcases hx with rfl|rfl<;>omega
theorem ziN {b0 b1 b2:UInt8} {t:List UInt8} (h0:b0.toNat / 16=14) (h1:b1.toNat / 64=2) (h2:b2.toNat / 64=2) (hc:2048≤b0.toNat % 16*4096+b1.toNat % 64*64+b2.toNat % 64) :
  DecOk (b0::b1::b2::t) (b0.toNat % 16*4096+b1.toNat % 64*64+b2.toNat % 64) 3:=by
 refine⟨?_,by omega,by omega,by simp,fun h=>by omega,fun _ x hx=>?_⟩
 ·unfold YB
  rw[if_neg (by omega),if_neg (by omega),if_pos (by omega)]
  simp only[zgb,List.take_zero,List.cons.injEq,and_true]
  exact⟨Y3 (by omega),Y3 (by omega),Y3 (by omega)⟩
 ·simp only[zgb,List.take_zero,List.mem_cons,List.not_mem_nil,or_false] at hx
  rcases hx with rfl|rfl|rfl<;>omega
theorem zi6 {b0 b1 b2 b3:UInt8} {t:List UInt8} (h0:b0.toNat / 8=30) (h1:b1.toNat / 64=2) (h2:b2.toNat / 64=2) (h3:b3.toNat / 64=2)
  (hc:65536≤b0.toNat % 8*262144+b1.toNat % 64*4096+b2.toNat % 64*64+b3.toNat % 64) (hd:b0.toNat % 8*262144+b1.toNat % 64*4096+b2.toNat % 64*64+b3.toNat % 64≤1114111) :
  DecOk (b0::b1::b2::b3::t) (b0.toNat % 8*262144+b1.toNat % 64*4096+b2.toNat % 64*64+b3.toNat % 64) 4:=by
 refine⟨?_,by omega,by omega,by simp,fun h=>by omega,fun _ x hx=>?_⟩
 ·unfold YB
  rw[if_neg (by omega),if_neg (by omega),if_neg (by omega)]
  simp only[zgb,List.take_zero,List.cons.injEq,and_true]
  exact⟨Y3 (by omega),Y3 (by omega),Y3 (by omega),Y3 (by omega)⟩
 ·simp only[zgb,List.take_zero,List.mem_cons,List.not_mem_nil,or_false] at hx
  rcases hx with rfl|rfl|rfl|rfl<;>omega
theorem zmG {l:List UInt8} (hne:l≠[]) (h:decodeL l≠(65533,1)):DecOk l (decodeL l).1 (decodeL l).2:=by
 rw[decodeL_N] at h ⊢
 obtain⟨b0,t,rfl⟩:∃ b0 t,l=b0::t:=by cases l with|nil=>exact absurd rfl hne|cons a b=>exact⟨a,b,rfl⟩
 simp only[List.getD_cons_zero,List.getD_cons_succ] at h ⊢
 unfold decodeN at h ⊢
 split at h
 ·rename_i h0
  rw[if_pos h0]
  refine⟨?_,by simp only;omega,by simp,by simp,fun _=>⟨by simp,by simpa using h0⟩,fun h=>absurd rfl h⟩
  simp only
  unfold YB
  rw[if_pos (by omega)]
  simp only[zgb,List.take_zero,List.cons.injEq,and_true]
  exact Y3 rfl
 ·rename_i h0
  rw[if_neg h0]
  split at h
  ·rename_i h1
   rw[if_pos h1]
   split at h
   ·rename_i h2
    rw[if_pos h2]
    obtain⟨b1,t,rfl⟩:∃ b1 r,t=b1::r:=by cases t with|nil=>simp at h1|cons a b=>exact⟨a,b,rfl⟩
    exact zll h1.1 (by simpa using h1.2.2) (by simpa using h2)
   ·exact absurd rfl h
  ·rename_i h1
   rw[if_neg h1]
   split at h
   ·rename_i h2
    rw[if_pos h2]
    split at h
    ·rename_i h3
     rw[if_pos h3]
     obtain⟨b1,t,rfl⟩:∃ b1 r,t=b1::r:=by cases t with|nil=>simp at h2|cons a b=>exact⟨a,b,rfl⟩
     obtain⟨b2,t,rfl⟩:∃ b2 r,t=b2::r:=by cases t with|nil=>simp at h2|cons a b=>exact⟨a,b,rfl⟩
     exact ziN h2.1 (by simpa using h2.2.1.2) (by simpa using h2.2.2.2) (by simpa using h3.1)
    ·exact absurd rfl h
   ·rename_i h2
    rw[if_neg h2]
    split at h
    ·rename_i h3
     rw[if_pos h3]
     split at h
     ·rename_i h4
      rw[if_pos h4]
      obtain⟨b1,t,rfl⟩:∃ b1 r,t=b1::r:=by cases t with|nil=>simp at h3|cons a b=>exact⟨a,b,rfl⟩
      obtain⟨b2,t,rfl⟩:∃ b2 r,t=b2::r:=by cases t with|nil=>simp at h3|cons a b=>exact⟨a,b,rfl⟩
      obtain⟨b3,t,rfl⟩:∃ b3 r,t=b3::r:=by cases t with|nil=>simp at h3|cons a b=>exact⟨a,b,rfl⟩
      exact zi6 h3.1 (by simpa using h3.2.1.2) (by simpa using h3.2.2.1.2) (by simpa using h3.2.2.2.2) (by simpa using h4.1) (by have:=h4.2;simp at this ⊢;omega)
     ·exact absurd rfl h
    ·exact absurd rfl h
theorem YU {l:List UInt8} (hne:l≠[]) (hv:validD l=true):DecOk l (zP l).1 (zP l).2∧validD (l.drop (zP l).2)=true:=by
 rw[validD_step l hne] at hv
 split at hv
 ·cases hv
 ·rename_i h
  have h':decodeL l≠(65533,1):=fun e=>h ⟨by rw[e],by rw[e]⟩
  have e:zP l=decodeL l:=by unfold zP;rw[if_neg hne,if_neg h']
  rw[e]
  exact⟨zmG hne h',hv⟩
def zdY:List UInt8:=[46,46,46]
def zg5:List UInt8:=[33,36,38,40,41,58,61,64,91,93,123,124,125]
def zfe:List UInt8→Bool
 | [c]=>decide (0≤Lib.indexByte zg5 c)
 | _=>false
def yr (t:Tok):Bool:=if t.k=1 then decide (t.s=zdY)||zfe t.s else if t.k=2 then zJ t.s else if t.k=3∨t.k=4 then decide (ZR t.s=t.k) else if t.k=5 then validD t.s else false
def yY (u:Nat):List UInt8:=[92,117,hexL.getD (u / 4096 % 16) 0,hexL.getD (u / 256 % 16) 0,hexL.getD (u / 16 % 16) 0,hexL.getD (u % 16) 0]
def yR (c:Nat) (bs:List UInt8):List UInt8 :=
 if c=34∨c=92 then [92,UInt8.ofNat c] else if c=10 then [92,110] else if c<32 then yY c
 else if 65536≤c then yY (55296+(c-65536) / 1024)++yY (56320+(c-65536) % 1024) else bs
def Z8:Nat→List UInt8→List UInt8
 | 0,_=>[]
 | n+1,l=>if l=[] then [] else yR (zP l).1 (l.take (zP l).2)++Z8 n (l.drop (zP l).2)
def zct (s:List UInt8):List UInt8:=34::(Z8 s.length s++[34])
def zaa (t:Tok):List UInt8:=if t.k=5 then zct t.s else t.s
def YV (l:List Tok):List UInt8:=Lib.join (l.map zaa) [32]
def yF (l:List Tok):List UInt8×Bool:=if l.all yr then (YV l,true) else ([],false)
theorem znh (s:List UInt8):decodeGo ⟨s.toArray⟩=if s=[] then (65533,0) else decodeL s:=by
 unfold decodeGo
 cases s with
 | nil=>rfl
 | cons c r=>rw[if_neg (by simp[ByteArray.size]),if_neg (by simp)];rfl
theorem zkH (s:List UInt8):zo Tryz.prog 272 [.str s] (.tup [.int .i32 ((if s=[] then (65533,0) else decodeL s:Nat×Nat).1),.int .i64 ((if s=[] then (65533,0) else decodeL s:Nat×Nat).2)]):=by
 refine zo.of_below fun γ w vs ht hv=>?_
 rw[zic hv]
 have h:=Tryz.utf8_DecodeRuneInString ⟨s.toArray⟩ w (zfM ht)
 rw[znh] at h
 exact Calls.mono h fun e w' ⟨he,hb⟩=>⟨hb,_,he,zdj (.int _ _) (.int _ _)⟩
theorem zhO:Go.Proofs.Builder.Extra Tryz.prog Tryz.lays156_ren where
 sizeBuilder:=by kernel_rfl
 liesBuilder:=by kernel_rfl
 t5:=Tryz.underlying5
 a5:=Tryz.isAgg5
 z5:=Tryz.sizeOf5
 v5:=Tryz.zeroValue5
 infoByte:=by kernel_rfl
 cellsByte:=by kernel_rfl
 sizeByte:=by kernel_rfl
 neB5:=by decide
theorem zkk (l:List (List UInt8)) (sep:List UInt8) (hl:(Lib.join l sep).length≤140737488355328) (hn:l.length≤140737488355328):zo Tryz.prog 121 [.sl .no 1 (cT l),.str sep] (.str (Lib.join l sep)):=by
 refine zo.of_below fun γ w vs ht hv=>?_
 obtain⟨hlv,hr⟩:=hv
 match vs,hlv with
 | [v,u],_ =>
  have h0:=hr 0 _ _ rfl rfl
  cases hr 1 _ _ rfl rfl
  generalize hx:cT l=xs at h0
  cases h0 with
  | slnil _ _ ho =>
   have:l=[]:=by cases l with|nil=>rfl|cons a b=>simp[cT] at hx
   subst this
   exact(Any.strings_Join_none Tryz.lays156 zhO none 0 ⟨sep.toArray⟩ w).mono fun e w' ⟨he,hw⟩=>⟨by rw[hw];exact RowKit.Below.refl _ _,_,he,.str _⟩
  | sl0 _ _ a ho =>
   have:l=[]:=by cases l with|nil=>rfl|cons a b=>simp[cT] at hx
   subst this
   exact(Any.strings_Join_none Tryz.lays156 zhO (some a) 0 ⟨sep.toArray⟩ w).mono fun e w' ⟨he,hw⟩=>⟨by rw[hw];exact RowKit.Below.refl _ _,_,he,.str _⟩
  | sl _ _ _ b off cap cv hc hm hu hcell hrr ho =>
   subst hx
   have hcl:=y0 l
   cases hl0:l with
   | nil =>
    subst hl0
    exact(Any.strings_Join_none Tryz.lays156 zhO (some ⟨b,off,none⟩) cap ⟨sep.toArray⟩ w).mono fun e w' ⟨he,hw⟩=>⟨by rw[hw];exact RowKit.Below.refl _ _,_,he,.str _⟩
   | cons x0 r0 =>
    have hcells:∀(j:Nat) x,(l.map fun s=>(⟨s.toArray⟩:ByteArray))[j]?=some x→w.cell? ⟨b,off+j,none⟩=some (.string x):=fun j x hj=>by
     rw[ZA,Y5] at hj
     obtain⟨s,h1,rfl⟩:=hj
     have g1:(cT l)[j]?=some [.str s]:=by simp[cT,h1]
     have h2:=hcell j _ g1 0 (by decide)
     have h3:=hrr j _ g1 0 (.str s) rfl
     have e:off+(j*1+0)=off+j:=by omega
     rw[e] at h2
     generalize cv j 0=y at h2 h3
     cases h3
     exact h2.1
    have hbk:b<w.heap.size:=by
     have:=hcells 0 ⟨x0.toArray⟩ (by rw[hl0];rfl)
     exact World.block_lt_of_cell? w _ this
    have hmap:(l.map fun s=>(⟨s.toArray⟩:ByteArray)).map (·.data.toList)=l:=by
     rw[List.map_map];exact(List.map_congr_left (g:=id) fun s _=>by simp).trans (List.map_id l)
    have h:=Any.strings_Join Tryz.lays156 zhO b off cap (l.map fun s=>(⟨s.toArray⟩:ByteArray)) ⟨sep.toArray⟩ w hcells hbk (by simpa using hn) (by rw[List.length_map];omega) (by rw[hmap];exact hl)
    rw[List.length_map,hmap] at h
    rw[← hl0,hcl]
    exact h.mono fun e w' ⟨he,hb⟩=>⟨hb,_,he,.str _⟩
theorem zl1 (s:List UInt8) (i:Nat) (hi:i<s.length) (hs:s.length≤Lim):zo Tryz.prog 210 [.str s,.int .i64 i] (.tup [.int .i64 (zP (s.drop i)).1,.int .i64 (zP (s.drop i)).2]):=by
 refine zo.go ir210 ck210 (Al4 _) fun KP Q hQ=>?_
 simp only[Lim] at hs
 have hne:s.drop i≠[]:=fun e=>by have:=congrArg List.length e;simp at this;omega
 have h1:¬ ((i:Int)<0):=by omega
 have h2:¬ ((s.length:Int)≤i):=by omega
 have h3:((i:Int)≤s.length)=True:=eq_true (by omega)
 simp(disch:=first|omega|assumption) only[ir210,h1,h2,h3,go_sem]
 refine zc (zkH (s.drop i)) ?_
 have hw:=decodeL_width (s.drop i)
 have hr:=decodeL_rune (s.drop i)
 unfold zP at hQ
 simp only[hne,if_false] at hQ ⊢
 generalize decodeL (s.drop i)=x at *
 obtain⟨c,k⟩:=x
 simp only at hw hr hQ
 have e:IntKind.wrap .i64 (c:Int)=c:=wrap64 (by omega) (by omega)
 by_cases hc:c=65533
 ·have g1:((c:Int)=65533)=True:=eq_true (by omega)
  by_cases hk:k<2
  ·have g2:((k:Int)<2)=True:=eq_true (by omega)
   have e1:(c,k)=(65533,1):=by rw[hc];congr 1;omega
   rw[if_pos e1] at hQ
   simp(disch:=first|omega|assumption) only[g1,g2,go_sem]
   exact hQ _ _ _ _ nofun rfl (by simp[ze,zd,AV.strip,AV.strip1])
  ·have g2:¬ ((k:Int)<2):=by omega
   have e1:¬ ((c,k)=(65533,1)):=fun h=>by cases h;omega
   rw[if_neg e1] at hQ
   simp(disch:=first|omega|assumption) only[g1,g2,e,go_sem]
   exact hQ _ _ _ _ nofun rfl (by simp[ze,zd,AV.strip,AV.strip1])
 ·have g1:¬ ((c:Int)=65533):=by omega
  have e1:¬ ((c,k)=(65533,1)):=fun h=>by cases h;omega
  rw[if_neg e1] at hQ
  simp(disch:=first|omega|assumption) only[g1,e,go_sem]
  exact hQ _ _ _ _ nofun rfl (by simp[ze,zd,AV.strip,AV.strip1])
def Zw:Nat→List UInt8→List Nat
 | 0,_=>[]
 | n+1,l=>if l=[] then [] else (if 65536≤(zP l).1 then [55296+((zP l).1-65536) / 1024,56320+((zP l).1-65536) % 1024] else [(zP l).1])++Zw n (l.drop (zP l).2)
theorem Zm (n:Nat):Zw n []=[]:=by cases n<;>simp[Zw]
theorem zcE:∀(n m:Nat) (l:List UInt8),l.length≤n→l.length≤m→validD l=true→Zw n l=Zw m l
 | 0,m,l,h,_,_=>by rw[za7.1 (by omega:l.length=0),Zm,Zm]
 | n,0,l,_,h,_=>by rw[za7.1 (by omega:l.length=0),Zm,Zm]
 | n+1,m+1,l,h1,h2,hv=>by
  by_cases hne:l=[]
  ·subst hne;rw[Zm,Zm]
  ·obtain⟨hd,hv2⟩:=YU hne hv
   have:=hd.pos
   have:=hd.len
   simp only[Zw,hne,if_false]
   rw[zcE n m _ (by simp;omega) (by simp;omega) hv2]
theorem zdy (n:Nat):((n:Int)).tdiv 1024=((n / 1024:Nat):Int):=by rw[Int.tdiv_eq_ediv_of_nonneg (by omega)];omega
theorem zd5 (n:Nat):((n:Int)).tmod 1024=((n % 1024:Nat):Int):=by rw[Int.tmod_eq_emod_of_nonneg (by omega)];omega
theorem zmO (s:List UInt8) (hv:validD s=true) (hs:s.length≤Lim):zo Tryz.prog 211 [.str s] (.tup [.sl .no 1 (cU (Zw s.length s)),.bool true]):=by
 refine zo.go ir211 ck211 (Al4 _) fun KP Q hQ=>?_
 have hs':=hs
 simp only[Lim] at hs
 simp(disch:=first|omega|assumption) only[ir211,go_sem]
 refine yO (fun x:Own×List Nat×Nat=>[(4,.sl x.1 1 (cU x.2.1)),(5,.int .i64 x.2.2)])
  (fun x H=>x.2.2≤s.length∧x.2.1.length≤2*x.2.2∧Zw s.length s=x.2.1++Zw (s.drop x.2.2).length (s.drop x.2.2)∧validD (s.drop x.2.2)=true∧OwnS zh.emp .nil H x.1 x.2.1.length 1) (fun x=>s.length-x.2.2) (.nil,[],0) (by simp(disch:=first|omega|assumption) only[cU,go_sem]) ⟨by simp,by simp,by simp,by simpa using hv,OwnS.refl rfl⟩ ?_
 rintro⟨o,acc,i⟩ H J ⟨hi,hai,hc,hv,hs1⟩ hJ
 simp only at hi hai hc hv hs1
 by_cases hlt:i<s.length
 case neg =>
  have hlt':¬ (i:Int)<s.length:=by omega
  rw[List.drop_of_length_le (by omega)] at hc
  rw[Zm,List.append_nil] at hc
  simp(disch:=first|omega|assumption) only[hlt',go_sem]
  exact hQ _ _ _ _ nofun rfl (by simp[ze,zd,AV.strip,AV.strip1,hc])
 have hlt':(i:Int)<s.length:=by omega
 have hne:s.drop i≠[]:=fun e=>by have:=congrArg List.length e;simp at this;omega
 have hcl:=zhj acc
 obtain⟨hd,hv2⟩:=YU hne hv
 have hp:=hd.pos
 have hle:=hd.len
 have hmax:=hd.le
 have hst:Zw (s.drop i).length (s.drop i)=(if 65536≤(zP (s.drop i)).1 then [55296+((zP (s.drop i)).1-65536) / 1024,56320+((zP (s.drop i)).1-65536) % 1024] else [(zP (s.drop i)).1])++Zw ((s.drop i).drop (zP (s.drop i)).2).length ((s.drop i).drop (zP (s.drop i)).2):=by
  obtain⟨n,hn⟩:∃ n,(s.drop i).length=n+1:=⟨(s.drop i).length-1,by omega⟩
  rw[hn,Zw,if_neg hne,zcE n _ _ (by simp at hn ⊢;omega) (Al4 _) hv2]
 simp(disch:=first|omega|assumption) only[hlt',go_sem]
 refine zc (zl1 s i hlt hs') ?_
 rw[hst] at hc
 rw[List.drop_drop] at hc hv2
 rw[zaL] at hle
 generalize (zP (s.drop i)).1=c at *
 generalize (zP (s.drop i)).2=k at *
 have h0':¬ ((k:Int)=0):=by omega
 by_cases hc6:65536≤c
 ·have g:((65536:Int)≤c)=True:=eq_true (by omega)
  have w1:IntKind.wrap .i64 ((c:Int)-65536)=((c-65536:Nat):Int):=by rw[wrap64 (by omega) (by omega)];omega
  have w2:IntKind.wrap .i64 (((c-65536) / 1024:Nat):Int)=(((c-65536) / 1024:Nat):Int):=wrap64 (by omega) (by omega)
  have w3:IntKind.wrap .i64 (55296+(((c-65536) / 1024:Nat):Int))=((55296+(c-65536) / 1024:Nat):Int):=by rw[wrap64 (by omega) (by omega)];omega
  have w4:IntKind.wrap .i64 (56320+(((c-65536) % 1024:Nat):Int))=((56320+(c-65536) % 1024:Nat):Int):=by rw[wrap64 (by omega) (by omega)];omega
  rw[if_pos hc6] at hc
  simp(disch:=first|omega|assumption) only[h0',g,w1,zdy,zd5,w2,w3,w4,go_sem]
  refine zF (by rw[hcl];exact hs1.own) (by simp only[hcl,Al2,Al3];omega) (by simp only[hcl,Al2,Al3,maxLen];omega) fun o' H' hs2=>?_
  simp(disch:=first|omega|assumption) only[wrap64,go_sem]
  exact goJ (hJ (o',acc++[55296+(c-65536) / 1024,56320+(c-65536) % 1024],i+k) H' (by simp only;omega) ⟨by simp only;omega,by simp;omega,by rw[hc];simp,hv2,hs1.trans (by simpa[hcl] using hs2)⟩) (by simp(disch:=first|omega|assumption) only[cU,List.map_append,Int.natCast_add,go_sem])
 ·have g:¬ ((65536:Int)≤c):=by omega
  rw[if_neg hc6] at hc
  simp(disch:=first|omega|assumption) only[h0',g,go_sem]
  refine zF (by rw[hcl];exact hs1.own) (by simp only[hcl,Al2,Al3];omega) (by simp only[hcl,Al2,Al3,maxLen];omega) fun o' H' hs2=>?_
  simp(disch:=first|omega|assumption) only[wrap64,go_sem]
  exact goJ (hJ (o',acc++[c],i+k) H' (by simp only;omega) ⟨by simp only;omega,by simp;omega,by rw[hc];simp,hv2,hs1.trans (by simpa[hcl] using hs2)⟩) (by simp(disch:=first|omega|assumption) only[cU,List.map_append,Int.natCast_add,go_sem])
theorem ziK {n n' b0 b1 b2 b3 c1 c2 c3 c k:Nat} (h:decodeN n b0 b1 b2 b3=(c,k)) (hv:(c,k)≠(65533,1)) (hn:k≤n') (h1:1<k→c1=b1) (h2:2<k→c2=b2) (h3:3<k→c3=b3):decodeN n' b0 c1 c2 c3=(c,k):=by
 unfold decodeN at h
 split at h
 ·rename_i h0
  unfold decodeN
  rw[if_pos h0,h]
 rename_i h0
 split at h
 ·rename_i hA
  split at h
  ·rename_i hB
   cases h
   unfold decodeN
   rw[if_neg h0,h1 (by decide),if_pos ⟨hA.1,by omega,hA.2.2⟩,if_pos hB]
  ·exact absurd h.symm hv
 rename_i hA
 split at h
 ·rename_i hB
  split at h
  ·rename_i hC
   cases h
   unfold decodeN
   rw[if_neg h0,h1 (by decide),h2 (by decide),if_neg (by omega),if_pos ⟨hB.1,⟨by omega,hB.2.1.2⟩,by omega,hB.2.2.2⟩,if_pos hC]
  ·exact absurd h.symm hv
 rename_i hB
 split at h
 ·rename_i hC
  split at h
  ·rename_i hD
   cases h
   unfold decodeN
   rw[if_neg h0,h1 (by decide),h2 (by decide),h3 (by decide),if_neg (by omega),if_neg (by omega),if_pos ⟨hC.1,⟨by omega,hC.2.1.2⟩,⟨by omega,hC.2.2.1.2⟩,by omega,hC.2.2.2.2⟩,if_pos hD]
  ·exact absurd h.symm hv
 ·exact absurd h.symm hv
theorem ziw {l:List UInt8} (hne:l≠[]) (h:(zP l).2≠0):zP l=decodeL l∧decodeL l≠(65533,1):=by
 unfold zP at h ⊢
 rw[if_neg hne] at h ⊢
 split at h
 ·exact absurd rfl h
 ·rename_i h2;rw[if_neg h2];exact⟨rfl,h2⟩
theorem zgE {l:List UInt8} (hne:l≠[]) (h:(zP l).2≠0) (t:List UInt8):zP (l.take (zP l).2++t)=zP l:=by
 obtain⟨e,hv⟩:=ziw hne h
 have hk:=decodeL_le l hne
 rw[e]
 generalize hd:decodeL l=x at *
 obtain⟨c,k⟩:=x
 simp only at *
 have h2:decodeL (l.take k++t)=(c,k):=by
  rw[decodeL_N] at hd ⊢
  have hg:∀ j,j<k→(l.take k++t).getD j 0=l.getD j 0:=fun j hj=>by
   simp only[List.getD_eq_getElem?_getD]
   rw[zbz (by simp;omega),List.getElem?_take_of_lt hj]
  have hk1:1≤k:=by rw[← show (decodeL l).2=k by rw[decodeL_N,hd]];exact decodeL_width l
  rw[hg 0 (by omega)]
  exact ziK hd hv (by simp;omega) (fun hj=>by rw[hg 1 hj]) (fun hj=>by rw[hg 2 hj]) fun hj=>by rw[hg 3 hj]
 have hne2:l.take k++t≠[]:=fun e=>by
  have h3:=congrArg List.length e
  have hk1:1≤k:=by rw[← show (decodeL l).2=k by rw[hd]];exact decodeL_width l
  have hl:0<l.length:=List.length_pos_iff.2 hne
  simp only[Al5,List.length_take,Al3] at h3;omega
 unfold zP
 rw[if_neg hne2,h2,if_neg hv]
theorem zjn {l:List UInt8} {c k:Nat} (h:DecOk l c k) (hc:c<128):k=1∧l.take k=[UInt8.ofNat c]∧(l.getD 0 0).toNat=c:=by
 have e:=h.enc
 have hl:(YB c).length=1:=by unfold YB;rw[if_pos (by omega)];rfl
 have hk:k=1:=by
  rw[e] at hl
  have:=h.len
  simp at hl;omega
 refine⟨hk,by rw[← e];unfold YB;rw[if_pos (by omega)],(h.one hk).1.symm⟩
theorem Zr (u:Nat):(yY u).length=6:=rfl
theorem zdS {l:List UInt8} {c k:Nat} (h:DecOk l c k):(yR c (l.take k)).length≤6*k:=by
 have hp:=h.pos
 have hl:=h.len
 have he:=h.enc
 unfold yR
 split
 ·simp;omega
 split
 ·simp;omega
 split
 ·rw[Zr];omega
 split
 ·have:k=4:=by
   have e:=congrArg List.length he
   unfold YB at e
   rw[if_neg (by omega),if_neg (by omega),if_neg (by omega)] at e
   simp at e;omega
  simp only[Al5,Zr];omega
 ·simp;omega
theorem Yx (n:Nat):Z8 n []=[]:=by cases n<;>simp[Z8]
theorem zdG:∀(n m:Nat) (l:List UInt8),l.length≤n→l.length≤m→validD l=true→Z8 n l=Z8 m l
 | 0,m,l,h,_,_=>by rw[za7.1 (by omega:l.length=0),Yx,Yx]
 | n,0,l,_,h,_=>by rw[za7.1 (by omega:l.length=0),Yx,Yx]
 | n+1,m+1,l,h1,h2,hv=>by
  by_cases hne:l=[]
  ·subst hne;rw[Yx,Yx]
  ·obtain⟨hd,hv2⟩:=YU hne hv
   have:=hd.pos
   have:=hd.len
   simp only[Z8,hne,if_false]
   rw[zdG n m _ (by simp;omega) (by simp;omega) hv2]
theorem zeB:∀(n:Nat) (l:List UInt8),validD l=true→(Z8 n l).length≤6*l.length
 | 0,l,_=>by simp[Z8]
 | n+1,l,hv=>by
  by_cases hne:l=[]
  ·subst hne;simp[Z8]
  ·obtain⟨hd,hv2⟩:=YU hne hv
   have h1:=zdS hd
   have h2:=zeB n _ hv2
   have h3:=hd.len
   simp only[Z8,hne,if_false,Al5]
   simp only[zaL] at h2
   omega
def zer (l:List UInt8):List UInt8:=Z8 l.length l
theorem zha {l:List UInt8} (hne:l≠[]) (hv:validD l=true):zer l=yR (zP l).1 (l.take (zP l).2)++zer (l.drop (zP l).2):=by
 obtain⟨hd,hv2⟩:=YU hne hv
 have:=hd.pos
 have:=hd.len
 unfold zer
 obtain⟨n,hn⟩:∃ n,l.length=n+1:=⟨l.length-1,by omega⟩
 rw[hn,Z8,if_neg hne,zdG n _ _ (by simp;omega) (Al4 _) hv2]
theorem zjO (s:List UInt8) (hv:validD s=true):(zct s).length≤6*s.length+2:=by
 have:=zeB s.length s hv
 simp only[zct,Al2,Al5,Al3];omega
theorem zf7 {t:Tok} (h:yr t=true):(zaa t).length≤6*t.s.length+2:=by
 unfold zaa
 split
 ·rename_i h5
  unfold yr at h
  rw[h5] at h
  exact zjO _ (by simpa using h)
 ·omega
theorem fdN (u k:Nat) (hk:k≤64):(u:Int).fdiv (2 ^ min k IntKind.i64.bits)=((u / 2 ^ k:Nat):Int):=by
 have e:min k IntKind.i64.bits=k:=by show min k 64=k;omega
 rw[e,Int.fdiv_eq_ediv_of_nonneg _ (by exact_mod_cast Nat.zero_le _)]
 norm_cast
theorem zmo (n:Nat):((n:Int)).tmod 16=((n % 16:Nat):Int):=by rw[Int.tmod_eq_emod_of_nonneg (by omega)];omega
theorem zmN (u:Nat) (hu:u<65536) (acc:List UInt8) (H:zh) (o:Own) (ho:yB H o acc.length 1) (hb:acc.length≤Lim) :
  zgq Tryz.prog 212 [.sl o 1 (bytesOf acc),.int .i64 u] H o 1 (bytesOf (acc++yY u)):=by
 refine zC.goO ir212 ck212 (Al4 _) fun KP Q hQ hP=>?_
 have hal:=ZI acc
 simp only[Lim] at hb
 simp(disch:=first|omega|assumption) only[ir212,steps,st2,pev,rev,oev,zL,zQ,zX,zY,bound,zx,mm2,mk,zr,AV.cells,AV.boxable,AV.one,AV.strip1,zy,zw,Nat.reduceEqDiff,reduceCtorEq,↓reduceIte,Nat.reduceAdd,Int.reduceNeg,Nat.reduceLeDiff,Int.reduceToNat,Int.reduceEq,Int.reduceLT,Int.reduceLE,Int.reduceAdd,Io,Im,If,Il,Jt,Jf,AC.rg,Jm,Jl,Ja,Fm,Fl,Fa,Imv,Imb,Iai,Iei,Igi,Isi,Ipf,Ipt,Ilb,Iia,Ilt,Iap,Ink,Iln,Ils,Iad,Iex,Ibx,Ing]
 refine zF (by rw[hal];exact ho) (by simp[hal];omega) (by simp[hal,maxLen];omega) fun o1 H1 hs1=>?_
 have hs1':OwnS H o H1 o1 (acc++[92,117]).length 1:=by simpa[hal] using hs1
 have e1:bytesOf acc++[[AV.int .u8 92],[AV.int .u8 117]]=bytesOf (acc++[92,117]):=zaO acc 92 117
 simp(disch:=first|omega|assumption) only[e1,steps,st2,pev,rev,oev,zL,zQ,zX,zY,bound,zx,mm2,mk,zr,AV.cells,AV.boxable,AV.one,AV.strip1,zy,zw,Nat.reduceEqDiff,reduceCtorEq,↓reduceIte,Nat.reduceAdd,Int.reduceNeg,Nat.reduceLeDiff,Int.reduceToNat,Int.reduceEq,Int.reduceLT,Int.reduceLE,Int.reduceAdd]
 refine yO (fun x:Nat×Own=>[(0,.sl x.2 1 (bytesOf (acc++(yY u).take (6-x.1)))),(5,.int .i64 ((x.1:Int)-1))]) (fun x H'=>x.1≤4∧OwnS H o H' x.2 (acc++(yY u).take (6-x.1)).length 1) (fun x=>x.1) (4,o1) (by simp(disch:=first|omega|assumption) only[yY,Int.reduceSub,steps,st2,pev,rev,oev,zL,zQ,zX,zY,bound,zx,mm2,mk,zr,AV.cells,AV.boxable,AV.one,AV.strip1,zy,zw,Nat.reduceEqDiff,reduceCtorEq,↓reduceIte,Nat.reduceAdd,Int.reduceNeg,Nat.reduceLeDiff,Int.reduceToNat,Int.reduceEq,Int.reduceLT,Int.reduceLE,Int.reduceAdd]) ⟨by simp,by simpa[yY] using hs1'⟩ ?_
 rintro⟨k,o2⟩ H2 J ⟨hk,hs⟩ hJ
 simp only at hk hs
 cases k with
 | zero =>
  have h0:¬ ((0:Int)≤-1):=by omega
  have e:(yY u).take (6-0)=yY u:=rfl
  rw[e] at hs
  simp(disch:=first|omega|assumption) only[h0,e,Int.reduceSub,steps,st2,pev,rev,oev,zL,zQ,zX,zY,bound,zx,mm2,mk,zr,AV.cells,AV.boxable,AV.one,AV.strip1,zy,zw,Nat.reduceEqDiff,reduceCtorEq,↓reduceIte,Nat.reduceAdd,Int.reduceNeg,Nat.reduceLeDiff,Int.reduceToNat,Int.reduceEq,Int.reduceLT,Int.reduceLE,Int.reduceAdd]
  exact hQ _ _ H2 H2 [_] nofun rfl (Low.refl _) ⟨o2,rfl,by rw[ZI];exact hs⟩
 | succ j =>
  have e0:((j+1:Nat):Int)-1=(j:Int):=by omega
  have h0:((0:Int)≤j)=True:=eq_true (by omega)
  have w1:IntKind.wrap .i64 (4*(j:Int))=((4*j:Nat):Int):=by rw[wrap64 (by omega) (by omega)];omega
  have w2:=fdN u (4*j) (by omega)
  have hlt:(((u / 2 ^ (4*j) % 16:Nat):Int)<16)=True:=eq_true (by omega)
  have w0:(((4*j:Nat):Int)<0)=False:=eq_false (by omega)
  have hm:((yY u).take (6-(j+1)))++[hexL.getD (u / 2 ^ (4*j) % 16) 0]=(yY u).take (6-j):=by
   have:j=0∨j=1∨j=2∨j=3:=by omega
   rcases this with rfl|rfl|rfl|rfl<;>simp[yY]
  have hl2:=ZI (acc++(yY u).take (6-(j+1)))
  have hl3:(acc++(yY u).take (6-(j+1))).length≤acc.length+6:=by simp[Zr];omega
  have e3:=zcS (acc++(yY u).take (6-(j+1))) (hexL.getD (u / 2 ^ (4*j) % 16) 0)
  rw[zd9,hm] at e3
  have hg:([48,49,50,51,52,53,54,55,56,57,97,98,99,100,101,102]:List UInt8).getD (u / 2 ^ (4*j) % 16) 0=hexL.getD (u / 2 ^ (4*j) % 16) 0:=rfl
  simp(disch:=first|omega|assumption) only[e0,h0,w1,w2,w0,zmo,hlt,hg,steps,st2,pev,rev,oev,zL,zQ,zX,zY,bound,zx,mm2,mk,zr,AV.cells,AV.boxable,AV.one,AV.strip1,zy,zw,Nat.reduceEqDiff,reduceCtorEq,↓reduceIte,Nat.reduceAdd,Int.reduceNeg,Nat.reduceLeDiff,Int.reduceToNat,Int.reduceEq,Int.reduceLT,Int.reduceLE,Int.reduceAdd]
  refine zF (by rw[hl2];exact hs.own) (by simp only[hl2,Al2,Al3];omega) (by simp only[hl2,Al2,Al3,maxLen];omega) fun o3 H3 hs3=>?_
  have hs4:OwnS H o H3 o3 (acc++(yY u).take (6-j)).length 1:=by
   have e:(acc++(yY u).take (6-j)).length=(bytesOf (acc++(yY u).take (6-(j+1)))).length+1:=by
    rw[hl2,← hm,← zd9];simp only[Al5,Al2,Al3]
   rw[e];exact hs.trans hs3
  simp(disch:=first|omega|assumption) only[e3,wrap64,steps,st2,pev,rev,oev,zL,zQ,zX,zY,bound,zx,mm2,mk,zr,AV.cells,AV.boxable,AV.one,AV.strip1,zy,zw,Nat.reduceEqDiff,reduceCtorEq,↓reduceIte,Nat.reduceAdd,Int.reduceNeg,Nat.reduceLeDiff,Int.reduceToNat,Int.reduceEq,Int.reduceLT,Int.reduceLE,Int.reduceAdd]
  exact goJ (hJ (j,o3) H3 (Nat.lt_succ_self j) ⟨by simp only;omega,hs4⟩) (by simp(disch:=first|omega|assumption) only[steps,st2,pev,rev,oev,zL,zQ,zX,zY,bound,zx,mm2,mk,zr,AV.cells,AV.boxable,AV.one,AV.strip1,zy,zw,Nat.reduceEqDiff,reduceCtorEq,↓reduceIte,Nat.reduceAdd,Int.reduceNeg,Nat.reduceLeDiff,Int.reduceToNat,Int.reduceEq,Int.reduceLT,Int.reduceLE,Int.reduceAdd])
theorem zg2 {l:List UInt8} {c k:Nat} (hne:l≠[]) (hv:validD l=true) (hc:(zP l).1=c) (hk:(zP l).2=k) :
  validD (l.take k)=true∧(l.take k).length=k∧Zw (l.take k).length (l.take k)=if 65536≤c then [55296+(c-65536) / 1024,56320+(c-65536) % 1024] else [c]:=by
 obtain⟨hd,hv2⟩:=YU hne hv
 subst hc;subst hk
 have hp:=hd.pos
 have hle:=hd.len
 have hlen:(l.take (zP l).2).length=(zP l).2:=by simp;omega
 have hne2:l.take (zP l).2≠[]:=fun e=>by rw[e] at hlen;simp at hlen;omega
 have hcode:=zgE hne (by omega:(zP l).2≠0) []
 rw[List.append_nil] at hcode
 have hdrop:(l.take (zP l).2).drop (zP l).2=[]:=by apply List.drop_eq_nil_of_le;omega
 refine⟨?_,hlen,?_⟩
 ·have:=(zdw hne2 (by rw[hcode];omega)).1
  rw[this,hcode,hdrop];rfl
 ·rw[hlen]
  obtain⟨n,hn⟩:∃ n,(zP l).2=n+1:=⟨(zP l).2-1,by omega⟩
  conv=>lhs;rw[show Zw (zP l).2=Zw (n+1) by rw[hn]]
  rw[Zw,if_neg hne2,hcode,hdrop,Zm,List.append_nil]
theorem zn3 {n:Nat} (h:n<256):IntKind.wrap .u8 (n:Int)=((UInt8.ofNat n).toNat:Int):=by
 rw[wr8];simp
set_option maxHeartbeats 1000000 in
theorem zk0 (s:List UInt8) (hv:validD s=true) (hs:6*s.length+2≤Lim):zo Tryz.prog 120 [.str s] (.str (zct s)):=by
 refine zo.go ir120 ck120 (Al4 _) fun KP Q hQ=>?_
 have hs':s.length≤Lim:=by simp only[Lim] at hs ⊢;omega
 simp only[Lim] at hs
 simp(disch:=first|omega|assumption) only[ir120,go_sem]
 have e34:([[AV.int .u8 34]]:List (List AV))=bytesOf [34]:=rfl
 simp(disch:=first|omega|assumption) only[e34,go_sem]
 refine yO (fun x:Own×List UInt8×Nat=>[(3,.sl x.1 1 (bytesOf x.2.1)),(4,.int .i64 x.2.2)])
  (fun x H=>x.2.2≤s.length∧x.2.1.length≤6*x.2.2+1∧34::zer s=x.2.1++zer (s.drop x.2.2)∧validD (s.drop x.2.2)=true∧yB H x.1 x.2.1.length 1) (fun x=>s.length-x.2.2) (.full,[34],0) (by simp(disch:=first|omega|assumption) only[go_sem]) ⟨by simp,by simp,by simp,by simpa using hv,yB.full _ _ _⟩ ?_
 rintro⟨o,acc,i⟩ H J ⟨hi,hai,hc,hv,hs1⟩ hJ
 simp only at hi hai hc hv hs1
 have hal:=ZI acc
 by_cases hlt:i<s.length
 case neg =>
  have hlt':¬ (i:Int)<s.length:=by omega
  rw[List.drop_of_length_le (by omega)] at hc
  have e0:zer []=[]:=rfl
  rw[e0,List.append_nil] at hc
  have e3:bytesOf acc++[[AV.int .u8 34]]=bytesOf (acc++[34]):=zcS acc 34
  simp(disch:=first|omega|assumption) only[hlt',go_sem]
  refine zF (by rw[hal];exact hs1) (by simp only[hal,Al2,Al3];omega) (by simp only[hal,Al2,Al3,maxLen];omega) fun o3 H3 hs3=>?_
  simp(disch:=first|omega|assumption) only[e3,zbw,go_sem]
  have e4:zct s=acc++[34]:=by rw[← hc];rfl
  exact hQ _ _ _ _ nofun rfl (by simp[ze,zd,AV.strip,AV.strip1,e4])
 have hlt':(i:Int)<s.length:=by omega
 have hne:s.drop i≠[]:=fun e=>by have:=congrArg List.length e;simp at this;omega
 obtain⟨hd,hv2⟩:=YU hne hv
 have hst:=zha hne hv
 have hone:=zg2 hne hv rfl rfl
 have hpl:=zdS hd
 have hp:=hd.pos
 have hle:=hd.len
 have hmax:=hd.le
 have h1b:=@zjn _ _ _ hd
 rw[zaL] at hle
 simp(disch:=first|omega|assumption) only[hlt',go_sem]
 refine zc (zl1 s i hlt hs') ?_
 rw[hst] at hc
 rw[List.drop_drop] at hc hv2
 generalize (zP (s.drop i)).1=c at *
 generalize (zP (s.drop i)).2=k at *
 have hmax1:((1:Int) > (k:Int))=False:=eq_false (by omega)
 have wk:IntKind.wrap .i64 ((i:Int)+(k:Int))=((i+k:Nat):Int):=by rw[wrap64 (by omega) (by omega)];omega
 have hsub:(s.take (i+k)).drop i=(s.drop i).take k:=by rw[List.drop_take];congr 1;omega
 have hle2:(((i+k:Nat):Int)≤s.length)=True:=eq_true (by omega)
 have hle3:((i:Int)≤((i+k:Nat):Int))=True:=eq_true (by omega)
 have step:∀ o3 H3 (bs:List UInt8),bs=yR c ((s.drop i).take k)→yB H3 o3 (acc++bs).length 1→J ((Ze _ [(3,.sl o3 1 (bytesOf (acc++bs))),(4,.int .i64 ((i+k:Nat):Int))]).keep [0,3,4]) H3:=fun o3 H3 bs hbs ho3 =>
  hJ (o3,acc++bs,i+k) H3 (by simp only;omega) ⟨by simp only;omega,by simp only[Al5,hbs];omega,by rw[hc,hbs];simp,hv2,ho3⟩
 by_cases c1:c=34∨c=92
 ·have g:((c:Int)=34∨(c:Int)=92):=by omega
  have e3:bytesOf acc++[[AV.int .u8 92],[AV.int .u8 (UInt8.ofNat c).toNat]]=bytesOf (acc++[92,UInt8.ofNat c]):=zaO acc 92 _
  have ep:[92,UInt8.ofNat c]=yR c ((s.drop i).take k):=by unfold yR;rw[if_pos c1]
  rcases c1 with c1|c1
  all_goals
   have w8:IntKind.wrap .u8 (c:Int)=((UInt8.ofNat c).toNat:Int):=zn3 (by omega)
   subst c1
   have gg:=w8
   simp only[Int.cast_ofNat_Int] at w8
   simp(disch:=first|omega|assumption) only[w8,go_sem]
   refine zF (by rw[hal];exact hs1) (by simp only[hal,Al2,Al3];omega) (by simp only[hal,Al2,Al3,maxLen];omega) fun o3 H3 hs3=>?_
   simp(disch:=first|omega|assumption) only[e3,hmax1,wk,go_sem]
   exact goJ (step o3 H3 _ ep (by simpa[hal] using hs3.own)) (by simp(disch:=first|omega|assumption) only[go_sem])
 have g34:¬ ((c:Int)=34):=by omega
 have g92:¬ ((c:Int)=92):=by omega
 by_cases c2:c=10
 ·subst c2
  have e3:bytesOf acc++[[AV.int .u8 92],[AV.int .u8 110]]=bytesOf (acc++[92,110]):=zaO acc 92 110
  have ep:[92,110]=yR 10 ((s.drop i).take k):=by unfold yR;rw[if_neg (by decide),if_pos rfl]
  simp(disch:=first|omega|assumption) only[go_sem]
  refine zF (by rw[hal];exact hs1) (by simp only[hal,Al2,Al3];omega) (by simp only[hal,Al2,Al3,maxLen];omega) fun o3 H3 hs3=>?_
  simp(disch:=first|omega|assumption) only[e3,hmax1,wk,go_sem]
  exact goJ (step o3 H3 _ ep (by simpa[hal] using hs3.own)) (by simp(disch:=first|omega|assumption) only[go_sem])
 have g10:¬ ((c:Int)=10):=by omega
 by_cases c3:c<32∨65536≤c
 ·have hus:=hone.2.2
  have hvt:=hone.1
  have htl:=hone.2.1
  have hlim:((s.drop i).take k).length≤Lim:=by rw[htl];simp only[Lim];omega
  have loop:∀(ρ:Env) (us:List Nat),us=(if 65536≤c then [55296+(c-65536) / 1024,56320+(c-65536) % 1024] else [c])→(∀ u∈us,u<65536)∧us.flatMap yY=yR c ((s.drop i).take k):=fun ρ us hu=>by
   subst hu
   by_cases h6:65536≤c
   ·rw[if_pos h6]
    refine⟨fun u hu=>by simp at hu;omega,?_⟩
    unfold yR;rw[if_neg c1,if_neg c2,if_neg (by omega),if_pos h6];simp
   ·rw[if_neg h6]
    refine⟨fun u hu=>by simp at hu;omega,?_⟩
    unfold yR;rw[if_neg c1,if_neg c2,if_pos (by omega)];simp
  obtain⟨us,hus2⟩:∃ us,us=(if 65536≤c then [55296+(c-65536) / 1024,56320+(c-65536) % 1024] else [c]):=⟨_,rfl⟩
  rw[← hus2] at hus
  obtain⟨hu1,hu2⟩:=loop (fun _=>.any) us hus2
  have hul:us.length≤2:=by rw[hus2];split<;>simp
  have hcl:=zhj us
  by_cases c4:c<32
  case' pos =>
   have g32:((c:Int)<32)=True:=eq_true (by omega)
   simp(disch:=first|omega|assumption) only[g34,g92,g10,g32,wk,hle2,hle3,hsub,go_sem]
  case' neg =>
   have g32:¬ ((c:Int)<32):=by omega
   have g6:((65536:Int)≤c)=True:=eq_true (by omega)
   simp(disch:=first|omega|assumption) only[g34,g92,g10,g32,g6,wk,hle2,hle3,hsub,go_sem]
  all_goals
   refine zc (zmO _ hvt hlim) ?_
   rw[hus]
   simp(disch:=first|omega|assumption) only[hcl,go_sem]
   refine zm us 67 (fun x:Own×List UInt8=>[(3,.sl x.1 1 (bytesOf x.2))]) (fun done rest x H'=>x.2++rest.flatMap yY=acc++yR c ((s.drop i).take k)∧x.2.length≤acc.length+6*done.length∧yB H' x.1 x.2.length 1) (o,acc) (by simp(disch:=first|omega|assumption) only[go_sem]) ⟨by simp only;rw[hu2],by simp,hs1⟩ ?_ ?_
   ·rintro⟨o2,a⟩ H2 J2 ⟨hn,hle,hs2⟩ hlt
    simp only[List.flatMap_nil,List.append_nil] at hn hle hs2
    simp(disch:=first|omega|assumption) only[hcl,hlt,hmax1,wk,go_sem]
    subst hn
    exact goJ (step o2 H2 _ rfl hs2) (by simp(disch:=first|omega|assumption) only[go_sem])
   ·rintro done x rest ⟨o2,a⟩ H2 J2 hdn hlt hlt2 ⟨hn,hle,hs2⟩ hJ2
    simp only[List.flatMap_cons] at hn hle hs2
    have hg:(cU us).getD done.length []=[AV.int .i64 (x:Int)]:=yW hdn
    simp(disch:=first|omega|assumption) only[hcl,hlt,hg,go_sem]
    refine Zh (zmN x (hu1 x (by rw[hdn];simp)) a _ o2 hs2 (by simp only[Lim];omega)) fun o3 H3 hs3=>?_
    rw[ZI] at hs3
    simp(disch:=first|omega|assumption) only[wrap64,go_sem]
    exact goJ (hJ2 (o3,a++yY x) H3 ⟨by rw[← hn];simp,by simp only[Al5,Zr,Al2,Al3];omega,hs3.own⟩) (by simp(disch:=first|omega|assumption) only[go_sem])
 ·have g32:¬ ((c:Int)<32):=by omega
  have g6:¬ ((65536:Int)≤c):=by omega
  have ep:(s.drop i).take k=yR c ((s.drop i).take k):=by unfold yR;rw[if_neg c1,if_neg c2,if_neg (by omega),if_neg (by omega)]
  have htl:=hone.2.1
  have hbl:=ZI ((s.drop i).take k)
  simp(disch:=first|omega|assumption) only[g34,g92,g10,g32,g6,wk,hle2,hle3,hsub,go_sem]
  refine zF (by rw[hal];exact hs1) (by rw[hal,hbl,htl];omega) (by rw[hal,hbl,htl];simp only[maxLen];omega) fun o3 H3 hs3=>?_
  simp(disch:=first|omega|assumption) only[zeh,zaS,hmax1,wk,go_sem]
  exact goJ (step o3 H3 _ ep (by have:=hs3.own;rw[hal,hbl] at this;simpa using this)) (by simp(disch:=first|omega|assumption) only[go_sem])
end Go.Proofs.YticbbfbpeimkbaaGreatDoor
namespace Go.Proofs.YticbbfbpeimkbaaGreatDoor
open Go.Ab
abbrev TS:=List Tok
def wK (t:Tok):Nat:=t.s.length+4
def wT (l:TS):Nat:=(l.map wK).sum
theorem yU (x:Tok) (l:TS):wT (x::l)=wK x+wT l:=by simp[wT]
def b0 {α:Type} (_:α):Nat:=0
open Go.Lib
theorem zeO {s:List UInt8} (h:s.length≠1):zfe s=false:=by
 match s,h with
 | [],_=>rfl
 | [_],h=>exact absurd rfl h
 | _::_::_,_=>rfl
theorem zli (t:Tok) (ht:t.s.length≤Lim):zo Tryz.prog 119 [.agg (cK t)] (.bool (yr t)):=by
 refine zo.go ir119 ck119 (Al4 _) fun KP Q hQ=>?_
 obtain⟨k,s⟩:=t
 simp only at ht
 by_cases k1:k=1
 ·subst k1
  by_cases hd:s=[46,46,46]
  ·simp(disch:=first|omega|assumption) only[ir119,cK,hd,go_sem]
   exact hQ _ _ _ _ nofun rfl (by simp[ze,zd,AV.strip,AV.strip1,yr,hd,zdY])
  by_cases hl:s.length=1
  ·obtain⟨c,rfl⟩:=List.length_eq_one_iff.1 hl
   simp(disch:=first|omega|assumption) only[ir119,cK,hd,go_sem]
   have e:yr ⟨1,[c]⟩=decide (0≤Lib.indexByte zg5 c):=by simp[yr,zdY,zfe]
   refine zc (zgL _ c) ?_
   simp(disch:=first|omega|assumption) only[go_sem]
   exact hQ _ _ _ [_] nofun rfl (by rw[e];rfl)
  ·have hl':¬ ((s.length:Int)=1):=by omega
   simp(disch:=first|omega|assumption) only[ir119,cK,hd,hl',go_sem]
   exact hQ _ _ _ _ nofun rfl (by simp[ze,zd,AV.strip,AV.strip1,yr,hd,zdY,zeO hl])
 by_cases k2:k=2
 ·subst k2
  simp(disch:=first|omega|assumption) only[ir119,cK,go_sem]
  refine zc (zeH s ht) ?_
  simp(disch:=first|omega|assumption) only[go_sem]
  exact hQ _ _ _ _ nofun rfl (by simp[ze,zd,AV.strip,AV.strip1,yr])
 by_cases k3:k=3
 ·subst k3
  simp(disch:=first|omega|assumption) only[ir119,cK,go_sem]
  refine zc (zb2 s ht) ?_
  simp(disch:=first|omega|assumption) only[go_sem]
  exact hQ _ _ _ _ nofun rfl (by simp[ze,zd,AV.strip,AV.strip1,yr])
 by_cases k4:k=4
 ·subst k4
  simp(disch:=first|omega|assumption) only[ir119,cK,go_sem]
  refine zc (zb2 s ht) ?_
  simp(disch:=first|omega|assumption) only[go_sem]
  exact hQ _ _ _ _ nofun rfl (by simp[ze,zd,AV.strip,AV.strip1,yr])
 by_cases k5:k=5
 ·subst k5
  simp(disch:=first|omega|assumption) only[ir119,cK,go_sem]
  refine zc (zlR s ht) ?_
  simp(disch:=first|omega|assumption) only[go_sem]
  exact hQ _ _ _ _ nofun rfl (by simp[ze,zd,AV.strip,AV.strip1,yr])
 ·simp(disch:=first|omega|assumption) only[ir119,cK,k1,k2,k3,k4,k5,go_sem]
  exact hQ _ _ _ _ nofun rfl (by simp[ze,zd,AV.strip,AV.strip1,yr,k1,k2,k3,k4,k5])
theorem zld (t:Tok) (ht:t.s.length≤Lim):zo Tryz.prog 245 [.agg (cK t)] (.bool (yr t)):=by
 refine zo.go ir245 ck245 (Al4 _) fun KP Q hQ=>?_
 obtain⟨k,s⟩:=t
 simp only at ht
 by_cases k1:k=1
 ·subst k1
  by_cases hd:s=[46,46,46]
  ·simp(disch:=first|omega|assumption) only[ir245,cK,hd,go_sem]
   exact hQ _ _ _ _ nofun rfl (by simp[ze,zd,AV.strip,AV.strip1,yr,hd,zdY])
  by_cases hl:s.length=1
  ·obtain⟨c,rfl⟩:=List.length_eq_one_iff.1 hl
   simp(disch:=first|omega|assumption) only[ir245,cK,hd,go_sem]
   have e:yr ⟨1,[c]⟩=decide (0≤Lib.indexByte zg5 c):=by simp[yr,zdY,zfe]
   refine zc (zmD _ c (by simp[Lim])) ?_
   simp(disch:=first|omega|assumption) only[go_sem]
   exact hQ _ _ _ [_] nofun rfl (by rw[e];rfl)
  ·have hl':¬ ((s.length:Int)=1):=by omega
   simp(disch:=first|omega|assumption) only[ir245,cK,hd,hl',go_sem]
   exact hQ _ _ _ _ nofun rfl (by simp[ze,zd,AV.strip,AV.strip1,yr,hd,zdY,zeO hl])
 by_cases k2:k=2
 ·subst k2
  simp(disch:=first|omega|assumption) only[ir245,cK,go_sem]
  refine zc (ZC s ht) ?_
  simp(disch:=first|omega|assumption) only[go_sem]
  exact hQ _ _ _ _ nofun rfl (by simp[ze,zd,AV.strip,AV.strip1,yr])
 by_cases k3:k=3
 ·subst k3
  by_cases hs:s=[]
  ·subst hs
   have h0:ZR []=0:=by decide
   simp(disch:=first|omega|assumption) only[ir245,cK,go_sem]
   exact hQ _ _ _ _ nofun rfl (by simp[ze,zd,AV.strip,AV.strip1,yr,h0])
  ·simp(disch:=first|omega|assumption) only[ir245,cK,hs,go_sem]
   refine zc (zdf s ht) ?_
   simp(disch:=first|omega|assumption) only[go_sem]
   exact hQ _ _ _ _ nofun rfl (by simp[ze,zd,AV.strip,AV.strip1,yr])
 by_cases k4:k=4
 ·subst k4
  by_cases hs:s=[]
  ·subst hs
   have h0:ZR []=0:=by decide
   simp(disch:=first|omega|assumption) only[ir245,cK,go_sem]
   exact hQ _ _ _ _ nofun rfl (by simp[ze,zd,AV.strip,AV.strip1,yr,h0])
  ·simp(disch:=first|omega|assumption) only[ir245,cK,hs,go_sem]
   refine zc (zdf s ht) ?_
   simp(disch:=first|omega|assumption) only[go_sem]
   exact hQ _ _ _ _ nofun rfl (by simp[ze,zd,AV.strip,AV.strip1,yr])
 by_cases k5:k=5
 ·subst k5
  simp(disch:=first|omega|assumption) only[ir245,cK,go_sem]
  refine zc (zjT s ht) ?_
  simp(disch:=first|omega|assumption) only[go_sem]
  exact hQ _ _ _ _ nofun rfl (by simp[ze,zd,AV.strip,AV.strip1,yr])
 ·simp(disch:=first|omega|assumption) only[ir245,cK,k1,k2,k3,k4,k5,go_sem]
  exact hQ _ _ _ _ nofun rfl (by simp[ze,zd,AV.strip,AV.strip1,yr,k1,k2,k3,k4,k5])
theorem zkz:∀ l:List (List UInt8),(Lib.join l [32]).length≤(l.map fun s=>s.length+1).sum
 | []=>by simp[Lib.join_nil]
 | x::r=>by
  rw[Lib.join_length]
  have:∀ l:List (List UInt8),lens l+l.length=(l.map fun s=>s.length+1).sum:=fun l=>by
   induction l with
   | nil=>rfl
   | cons y l ih=>simp only[lens,List.map_cons,List.sum_cons,Al2] at ih ⊢;omega
  have h:=this (x::r)
  simp only[Al2,Al3] at h ⊢
  omega
theorem zgs (l:List Tok) (h:l.all yr=true):(YV l).length≤6*wT l:=by
 refine Nat.le_trans (zkz _) ?_
 induction l with
 | nil=>simp[wT]
 | cons t l ih =>
  simp only[List.all_cons,Al0] at h
  have h1:=zf7 h.1
  have h2:=ih h.2
  rw[yU]
  simp only[List.map_cons,List.sum_cons,wK] at h2 ⊢
  omega
theorem zhg (l:List Tok) (x:Tok) (h:l≠[]):YV (l++[x])=YV l++32::zaa x:=by
 cases l with
 | nil=>exact absurd rfl h
 | cons y l =>
  unfold YV
  simp only[Al6,List.map_cons,List.map_append,List.map_nil,Lib.join_cons,joinTail,List.flatten_append,List.flatten_cons,List.flatten_nil]
  simp
theorem zjk {l:List Tok} {t:Tok} (h:t∈l):t.s.length+4≤wT l:=by
 induction l with
 | nil=>cases h
 | cons y l ih =>
  rw[yU]
  rcases List.mem_cons.1 h with rfl|h
  ·unfold wK;omega
  ·have:=ih h;omega
theorem zgJ (l:List Tok):4*l.length≤wT l:=by
 induction l with
 | nil=>simp
 | cons y l ih=>rw[yU];simp only[Al2,wK];omega
theorem zmU (a:List Tok) (x:Tok) (b:List Tok):wT (a++x::b)=wT a+wK x+wT b:=by simp[wT];omega
theorem zkA (L:List Tok) (hb:8*wT L≤Lim):zo Tryz.prog 56 [.sl .no 2 (cKs L)] (.tup [.str (yF L).1,.bool (yF L).2]):=by
 refine zo.go ir56 ck56 (Al4 _) fun KP Q hQ=>?_
 have hkl:=z8 L
 have hwl:=zgJ L
 simp only[Lim] at hb
 simp(disch:=first|omega|assumption) only[ir56,hkl,go_sem]
 refine zm L 9 (fun x:Own×List (List UInt8)=>[(4,.sl x.1 1 (cT x.2))]) (fun done rest x H=>x.2=done.map zaa∧done.all yr=true∧yB H x.1 x.2.length 1) (.nil,[]) (by simp(disch:=first|omega|assumption) only[cT,go_sem]) ⟨rfl,rfl,yB.nil _ _⟩ ?_ ?_
 ·rintro⟨o,l⟩ H J ⟨hl,hr,ho⟩ hlt
  simp only at hl hr ho
  subst hl
  have hj:=zgs L hr
  have hcl:=y0 (L.map zaa)
  simp(disch:=first|omega|assumption) only[hkl,hlt,go_sem]
  refine zc (zo.low (zkk (L.map zaa) [32] (by show (YV L).length≤_;omega) (by simp;omega))) ?_
  simp(disch:=first|omega|assumption) only[go_sem]
  exact hQ _ _ _ _ nofun rfl (by simp[ze,zd,AV.strip,AV.strip1,yF,hr,YV])
 ·rintro done x rest ⟨o,l⟩ H J hd hlt hlt2 ⟨hl,hr,ho⟩ hJ
  simp only at hl hr ho
  have hg:=zdb hd
  have hmem:x∈L:=by rw[hd];simp
  have hx:=zjk hmem
  have hlen:l.length=done.length:=by rw[hl];simp
  have hcl:=y0 l
  simp(disch:=first|omega|assumption) only[hkl,hlt,hg,go_sem]
  refine zv fun b hb=>?_
  simp(disch:=first|omega|assumption) only[go_sem]
  refine zc (zli x (by simp only[Lim];omega)) ?_
  cases hrx:yr x with
  | false =>
   have e:L.all yr=false:=by rw[hd];simp[hrx]
   simp(disch:=first|omega|assumption) only[go_sem]
   exact hQ _ _ _ _ nofun rfl (by simp[ze,zd,AV.strip,AV.strip1,yF,e])
  | true =>
   by_cases k5:x.k=5
   ·have hv:validD x.s=true:=by unfold yr at hrx;rw[k5] at hrx;simpa using hrx
    simp(disch:=first|omega|assumption) only[k5,go_sem]
    refine zc (zk0 x.s hv (by simp only[Lim];omega)) ?_
    simp(disch:=first|omega|assumption) only[go_sem]
    refine zF (by rw[hcl];exact ho.upd hb) (by simp only[hcl,Al2,Al3];omega) (by simp only[hcl,Al2,Al3,maxLen];omega) fun o3 H3 hs3=>?_
    have et:zaa x=zct x.s:=by unfold zaa;rw[if_pos k5]
    simp(disch:=first|omega|assumption) only[wrap64,go_sem]
    exact goJ (hJ (o3,l++[zct x.s]) H3 ⟨by rw[hl];simp[et],by simp[hr,hrx],by simpa[hcl] using hs3.own⟩) (by simp(disch:=first|omega|assumption) only[cT,List.map_append,go_sem])
   ·have et:zaa x=x.s:=by unfold zaa;rw[if_neg k5]
    simp(disch:=first|omega|assumption) only[k5,go_sem]
    refine zF (by rw[hcl];exact ho.upd hb) (by simp only[hcl,Al2,Al3];omega) (by simp only[hcl,Al2,Al3,maxLen];omega) fun o3 H3 hs3=>?_
    simp(disch:=first|omega|assumption) only[wrap64,go_sem]
    exact goJ (hJ (o3,l++[x.s]) H3 ⟨by rw[hl];simp[et],by simp[hr,hrx],by simpa[hcl] using hs3.own⟩) (by simp(disch:=first|omega|assumption) only[cT,List.map_append,go_sem])
theorem zjs (u:Nat) (hu:u<65536):zo Tryz.prog 297 [.int .i64 u] (.str (yY u)):=by
 refine zo.go ir297 ck297 (Al4 _) fun KP Q hQ=>?_
 have w1:=fdN u 12 (by decide)
 have w2:=fdN u 8 (by decide)
 have w3:=fdN u 4 (by decide)
 simp only[Nat.reducePow] at w1 w2 w3
 have a1:∀ n:Nat,n<65536→IntKind.wrap .i64 ((BitVec.ofInt IntKind.i64.bits (n:Int) &&& BitVec.ofInt IntKind.i64.bits 15).toNat:Int)=((n % 16:Nat):Int):=fun n hn=>zlQ (by omega)
 have b1:=a1 (u / 4096) (by omega)
 have b2:=a1 (u / 256) (by omega)
 have b3:=a1 (u / 16) (by omega)
 have b4:=a1 u hu
 have hb:=zbw [hexL.getD (u / 4096 % 16) 0,hexL.getD (u / 256 % 16) 0,hexL.getD (u / 16 % 16) 0,hexL.getD (u % 16) 0]
 simp only[bytesOf,List.map_cons,List.map_nil] at hb
 have hg:∀ n,([48,49,50,51,52,53,54,55,56,57,97,98,99,100,101,102]:List UInt8).getD n 0=hexL.getD n 0:=fun n=>rfl
 have hlt:∀ n:Nat,(((n % 16:Nat):Int)<16)=True:=fun n=>eq_true (by omega)
 simp(disch:=first|omega|assumption) only[ir297,w1,w2,w3,b1,b2,b3,b4,hlt,hg,hb,steps,st2,pev,rev,oev,zL,zQ,zX,zY,bound,zx,mm2,mk,zr,AV.cells,AV.boxable,AV.one,AV.strip1,zy,zw,Nat.reduceEqDiff,reduceCtorEq,↓reduceIte,Nat.reduceAdd,Int.reduceNeg,Nat.reduceLeDiff,Int.reduceToNat,Int.reduceEq,Int.reduceLT,Int.reduceLE,Int.reduceAdd,Io,Im,If,Il,Jt,Jf,AC.rg,Jm,Jl,Ja,Fm,Fl,Fa,Imv,Imb,Iai,Iei,Igi,Isi,Ipf,Ipt,Ilb,Iia,Ilt,Iap,Ink,Iln,Ils,Iad,Iex,Ibx,Ing]
 exact hQ _ _ _ _ nofun rfl (by simp[ze,zd,AV.strip,AV.strip1,yY])
def YA:Nat→List UInt8→List Nat
 | 0,_=>[]
 | k+1,l=>if l=[] then [] else (zP l).1::YA k (l.drop (zP l).2)
theorem zgm:∀ n l,cZ (zaC n l)=cU (YA n l)
 | 0,l=>rfl
 | n+1,l=>by
  simp only[zaC,YA]
  split
  ·rfl
  ·simp only[cZ,cU,List.map_cons]
   congr 1
   exact zgm n _
theorem zeD:∀ n l,∀ c∈YA n l,c≤1114111
 | 0,l,c,h=>by cases h
 | n+1,l,c,h=>by
  simp only[YA] at h
  split at h
  ·cases h
  ·rcases List.mem_cons.1 h with rfl|h
   ·unfold zP
    split
    ·simp
    ·split
     ·simp
     ·exact decodeL_rune l
   ·exact zeD n _ c h
theorem zdE:∀ n l,validD l=true→(YA n l).flatMap (fun c=>yR c (YB c))=Z8 n l
 | 0,l,_=>rfl
 | n+1,l,hv=>by
  by_cases hne:l=[]
  ·subst hne;simp[YA,Z8]
  ·obtain⟨hd,hv2⟩:=YU hne hv
   simp only[YA,Z8,hne,if_false,List.flatMap_cons]
   rw[zdE n _ hv2,hd.enc]
theorem zfr (c:Nat):(yR c (YB c)).length≤12:=by
 have:=(zgi c).1
 unfold yR
 repeat' split
 all_goals simp[Zr]
 all_goals omega
theorem zdr:∀ n l,(YA n l).length≤n
 | 0,l=>Al4 _
 | n+1,l=>by
  simp only[YA]
  split
  ·simp
  ·have:=zdr n (l.drop (zP l).2)
   simp only[Al2];omega
theorem zkx (s:List UInt8) (hv:validD s=true) (hs:16*s.length+2≤Lim):zo Tryz.prog 246 [.str s] (.str (zct s)):=by
 refine zo.go ir246 ck246 (Al4 _) fun KP Q hQ=>?_
 have hs':s.length≤Lim:=by simp only[Lim] at hs ⊢;omega
 simp only[Lim] at hs
 obtain⟨cs,hcs⟩:∃ cs,YA s.length s=cs:=⟨_,rfl⟩
 have hle:=zeD s.length s
 have hq:=zdE s.length s hv
 have hln:=zdr s.length s
 have hz:cZ (zdF s)=cU cs:=by rw[← hcs,← zgm];unfold zdF;rw[hv];rfl
 rw[hcs] at hle hq hln
 have hul:=zhj cs
 simp(disch:=first|omega|assumption) only[ir246,go_sem]
 refine zc (ziW s hs') ?_
 rw[hz]
 simp(disch:=first|omega|assumption) only[hul,go_sem]
 refine zm cs 6 (fun x:List UInt8=>[(5,.str x)]) (fun done rest x H=>x++rest.flatMap (fun c=>yR c (YB c))=34::Z8 s.length s∧x.length≤1+12*done.length) [34] (by simp(disch:=first|omega|assumption) only[go_sem]) ⟨by rw[← hq];rfl,by simp⟩ ?_ ?_
 ·rintro x H J ⟨hx,hxl⟩ hlt
  simp only[List.flatMap_nil,List.append_nil] at hx
  have hlx:x.length+1≤9223372036854775807:=by omega
  simp(disch:=first|omega|assumption) only[hul,hlt,hlx,go_sem]
  exact hQ _ _ _ _ nofun rfl (by simp[ze,zd,AV.strip,AV.strip1,zct,hx])
 ·rintro done c rest x H J hd hlt hlt2 ⟨hx,hxl⟩ hJ
  have hg:(cU cs).getD done.length []=[AV.int .i64 (c:Int)]:=yW hd
  have hc:=hle c (by rw[hd];simp)
  have hp:=zfr c
  simp only[List.flatMap_cons] at hx
  have step:∀ y:List UInt8,y=yR c (YB c)→J ((Ze _ [(6,.int .i64 ((done.length:Int)+1)),(5,.str (x++y))]).keep [3,5,6]) H:=fun y hy =>
   hJ (x++y) H ⟨by rw[← hx,hy];simp,by rw[← hy] at hp;simp only[Al5,Al2,Al3];omega⟩
  have hb2:x.length+2≤9223372036854775807:=by omega
  have hb6:x.length+6≤9223372036854775807:=by omega
  by_cases c1:c=34
  ·subst c1
   simp(disch:=first|omega|assumption) only[hul,hlt,hg,hb2,wrap64,go_sem]
   exact goJ (step [92,34] (by decide)) (by simp(disch:=first|omega|assumption) only[go_sem])
  by_cases c2:c=92
  ·subst c2
   simp(disch:=first|omega|assumption) only[hul,hlt,hg,hb2,wrap64,go_sem]
   exact goJ (step [92,92] (by decide)) (by simp(disch:=first|omega|assumption) only[go_sem])
  by_cases c3:c=10
  ·subst c3
   simp(disch:=first|omega|assumption) only[hul,hlt,hg,hb2,wrap64,go_sem]
   exact goJ (step [92,110] (by decide)) (by simp(disch:=first|omega|assumption) only[go_sem])
  have g1:¬ ((c:Int)=34):=by omega
  have g2:¬ ((c:Int)=92):=by omega
  have g3:¬ ((c:Int)=10):=by omega
  by_cases c4:c<32
  ·have g4:((c:Int)<32)=True:=eq_true (by omega)
   simp(disch:=first|omega|assumption) only[hul,hlt,hg,g1,g2,g3,g4,go_sem]
   refine zc (zjs c (by omega)) ?_
   simp(disch:=first|omega|assumption) only[Zr,hb6,wrap64,go_sem]
   exact goJ (step (yY c) (by unfold yR;rw[if_neg (by omega),if_neg c3,if_pos c4])) (by simp(disch:=first|omega|assumption) only[go_sem])
  have g4:¬ ((c:Int)<32):=by omega
  by_cases c5:65536≤c
  ·have g5:((65535:Int)<c)=True:=eq_true (by omega)
   have w1:IntKind.wrap .i64 ((c:Int)-65536)=((c-65536:Nat):Int):=by rw[wrap64 (by omega) (by omega)];omega
   have w2:IntKind.wrap .i64 (((c-65536) / 1024:Nat):Int)=(((c-65536) / 1024:Nat):Int):=wrap64 (by omega) (by omega)
   have w3:IntKind.wrap .i64 (55296+(((c-65536) / 1024:Nat):Int))=((55296+(c-65536) / 1024:Nat):Int):=by rw[wrap64 (by omega) (by omega)];omega
   have w4:IntKind.wrap .i64 (56320+(((c-65536) % 1024:Nat):Int))=((56320+(c-65536) % 1024:Nat):Int):=by rw[wrap64 (by omega) (by omega)];omega
   have hb12:(x++yY (55296+(c-65536) / 1024)).length+6≤9223372036854775807:=by rw[Al5,Zr];omega
   simp(disch:=first|omega|assumption) only[hul,hlt,hg,g1,g2,g3,g4,g5,w1,zdy,zd5,w2,w3,w4,go_sem]
   refine zc (zjs (55296+(c-65536) / 1024) (by omega)) ?_
   simp(disch:=first|omega|assumption) only[hul,hlt,hg,w1,zdy,zd5,w2,w3,w4,Zr,hb6,go_sem]
   refine zc (zjs (56320+(c-65536) % 1024) (by omega)) ?_
   simp(disch:=first|omega|assumption) only[Zr,hb6,hb12,wrap64,go_sem]
   exact goJ (step (yY (55296+(c-65536) / 1024)++yY (56320+(c-65536) % 1024)) (by unfold yR;rw[if_neg (by omega),if_neg c3,if_neg c4,if_pos c5])) (by simp(disch:=first|omega|assumption) only[zd9,go_sem])
  ·have g5:¬ ((65535:Int)<c):=by omega
   have he:=(zgi c).1
   have hb4:x.length+(YB c).length≤9223372036854775807:=by omega
   simp(disch:=first|omega|assumption) only[hul,hlt,hg,g1,g2,g3,g4,g5,go_sem]
   refine zc (zn1 c hc) ?_
   simp(disch:=first|omega|assumption) only[hb4,wrap64,go_sem]
   exact goJ (step (YB c) (by unfold yR;rw[if_neg (by omega),if_neg c3,if_neg c4,if_neg c5])) (by simp(disch:=first|omega|assumption) only[go_sem])
theorem zkX (L:List Tok) (hb:32*wT L≤Lim):zo Tryz.prog 152 [.sl .no 2 (cKs L)] (.tup [.str (yF L).1,.bool (yF L).2]):=by
 refine zo.go ir152 ck152 (Al4 _) fun KP Q hQ=>?_
 have hkl:=z8 L
 have hwl:=zgJ L
 simp only[Lim] at hb
 simp(disch:=first|omega|assumption) only[ir152,hkl,go_sem]
 refine zm L 5 (fun x:List UInt8=>[(4,.str x)]) (fun done rest x H=>x=YV done∧done.all yr=true) [] (by simp(disch:=first|omega|assumption) only[go_sem]) ⟨rfl,rfl⟩ ?_ ?_
 ·rintro x H J ⟨hx,hr⟩ hlt
  subst hx
  simp(disch:=first|omega|assumption) only[hkl,hlt,go_sem]
  exact hQ _ _ _ _ nofun rfl (by simp[ze,zd,AV.strip,AV.strip1,yF,hr])
 ·rintro done x rest l H J hd hlt hlt2 ⟨hl,hr⟩ hJ
  have hg:=zdb hd
  have hmem:x∈L:=by rw[hd];simp
  have hx:=zjk hmem
  have hj:=zgs done hr
  have hwm:=zmU done x rest
  rw[← hd] at hwm
  subst hl
  simp(disch:=first|omega|assumption) only[hkl,hlt,hg,go_sem]
  refine zc (zld x (by simp only[Lim];omega)) ?_
  cases hrx:yr x with
  | false =>
   have e:L.all yr=false:=by rw[hd];simp[hrx]
   simp(disch:=first|omega|assumption) only[go_sem]
   exact hQ _ _ _ _ nofun rfl (by simp[ze,zd,AV.strip,AV.strip1,yF,e])
  | true =>
   have htl:=zf7 hrx
   have hk:x.k=5→validD x.s=true:=fun k5=>by unfold yr at hrx;rw[k5] at hrx;simpa using hrx
   have hall:(done++[x]).all yr=true:=by simp[hr,hrx]
   cases hdn:done with
   | nil =>
    have h0:¬ ((0:Int)<((([]:List Tok).length:Nat):Int)):=by simp
    have ej:YV [x]=zaa x:=by simp[YV,Lib.join_one]
    have ej0:YV []=[]:=rfl
    rw[hdn] at hg hlt hJ hall
    by_cases k5:x.k=5
    ·have et:zaa x=zct x.s:=by unfold zaa;rw[if_pos k5]
     have hbl:(zct x.s).length≤9223372036854775807:=by rw[← et];omega
     simp only[Al3,Int.natCast_zero] at hg hlt hJ ⊢
     simp(disch:=first|omega|assumption) only[hkl,hlt,hg,k5,ej0,go_sem]
     refine zc (zkx x.s (hk k5) (by simp only[Lim];omega)) ?_
     simp(disch:=first|omega|assumption) only[wrap64,hbl,go_sem]
     exact goJ (hJ _ _ ⟨rfl,hall⟩) (by simp(disch:=first|omega|assumption) only[ej,et,go_sem])
    ·have et:zaa x=x.s:=by unfold zaa;rw[if_neg k5]
     have hbl:x.s.length≤9223372036854775807:=by omega
     simp only[Al3,Int.natCast_zero] at hg hlt hJ ⊢
     simp(disch:=first|omega|assumption) only[hkl,hlt,hg,k5,ej0,wrap64,hbl,go_sem]
     exact goJ (hJ _ _ ⟨rfl,hall⟩) (by simp(disch:=first|omega|assumption) only[ej,et,go_sem])
   | cons y dn =>
    have h0:((0:Int)<(done.length:Int))=True:=eq_true (by rw[hdn];simp only[Al2];omega)
    have ej:=zhg done x (by rw[hdn];simp)
    rw[← hdn]
    have hb1:(YV done).length+1≤9223372036854775807:=by omega
    by_cases k5:x.k=5
    ·have et:zaa x=zct x.s:=by unfold zaa;rw[if_pos k5]
     have hb2:(YV done++[32]).length+(zct x.s).length≤9223372036854775807:=by rw[← et];simp;omega
     simp(disch:=first|omega|assumption) only[hkl,hlt,hg,k5,h0,hb1,go_sem]
     refine zc (zkx x.s (hk k5) (by simp only[Lim];omega)) ?_
     simp(disch:=first|omega|assumption) only[wrap64,hb2,go_sem]
     exact goJ (hJ _ _ ⟨rfl,hall⟩) (by simp(disch:=first|omega|assumption) only[ej,et,zd9,go_sem])
    ·have et:zaa x=x.s:=by unfold zaa;rw[if_neg k5]
     have hb2:(YV done++[32]).length+x.s.length≤9223372036854775807:=by simp;omega
     simp(disch:=first|omega|assumption) only[hkl,hlt,hg,k5,h0,hb1,wrap64,hb2,go_sem]
     exact goJ (hJ _ _ ⟨rfl,hall⟩) (by simp(disch:=first|omega|assumption) only[ej,et,zd9,go_sem])
end Go.Proofs.YticbbfbpeimkbaaGreatDoor
