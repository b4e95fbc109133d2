import Derived.Ground.Names2Prog
import Derived.Shelf.Lays2
import Derived.Test.YtbcocdloklbkjaaGreatDoorProg
import Derived.Shelf.Spec.SlicesInsert
import Derived.Shelf.Spec.SlicesInsertGrow
import Derived.Test.YtbcocdloklbkjaaGreatDoorM1
import Derived.Test.YtbcocdloklbkjaaGreatDoorM2
import Derived.Test.YtbcocdloklbkjaaGreatDoorM3
import Derived.Test.YtbcocdloklbkjaaGreatDoorM4
import Derived.Test.YtbcocdloklbkjaaGreatDoorM5
import Derived.Test.YtbcocdloklbkjaaGreatDoorM6
import Derived.Test.YtbcocdloklbkjaaGreatDoorM7
set_option maxRecDepth 100000
set_option linter.all false
namespace Go.Proofs.YtbcocdloklbkjaaGreatDoor
open Go.Ab
def lD (x:DirD):Nat:=2+x.nm.length+bMs x.args
def lDs (l:List DirD):Nat:=(l.map lD).sum
mutual
def lS:SelD→Nat
 | .mk _ al nm args dirs on sels=>2+nm.length+al.length+on.length+bMs args+lDs dirs+lSs sels
def lSs:List SelD→Nat
 | []=>0
 | x::r=>lS x+lSs r
end
def lW (x:VarD):Nat:=1+bV x.d+x.nm.length
def lWs (l:List VarD):Nat:=(l.map lW).sum
def lO (x:OpD):Nat:=1+lDs x.dirs+lSs x.sels+x.nm.length+lWs x.vars
def lF (x:FragD):Nat:=1+lDs x.dirs+lSs x.sels+x.nm.length
def lOs (l:List OpD):Nat:=(l.map lO).sum
def lFs (l:List FragD):Nat:=(l.map lF).sum
def zdP (d:DocD):Bool:=decide (lOs d.ops+lFs d.frags≤3200)
theorem zdQ {α:Type} {f g:α→Nat} {c:Nat} (h:∀ x,f x≤c*g x):∀ l:List α,(l.map f).sum≤c*(l.map g).sum
 | []=>Nat.zero_le _
 | x::r=>by have:=zdQ h r;have:=h x;simp only[List.map_cons,List.sum_cons,Nat.mul_add];omega
theorem zaQ (l:List DirD):lDs l≤2*bDs l:=zdQ (fun x=>by simp only[lD,bD];omega) l
mutual
theorem zuB:∀ x,lS x≤2*bS x
 | .mk k al nm args dirs on sels=>by
  have h1:=zaQ dirs
  have h2:=zcF sels
  simp only[lS,bS];omega
theorem zcF:∀ l,lSs l≤2*bSs l
 | []=>by simp[lSs]
 | x::r=>by
  have h1:=zuB x
  have h2:=zcF r
  simp only[lSs,bSs];omega
end
theorem zdg (l:List VarD):lWs l≤2*bWs l:=zdQ (fun x=>by have:=YZ x.d;simp only[lW,bW];omega) l
theorem zuD (x:OpD):lO x≤2*bO x:=by
 have h1:=zaQ x.dirs
 have h2:=zcF x.sels
 have h3:=zdg x.vars
 simp only[lO,bO];omega
theorem zu2 (x:FragD):lF x≤2*bF x:=by
 have h1:=zaQ x.dirs
 have h2:=zcF x.sels
 simp only[lF,bF];omega
theorem ztL (l:List OpD):lOs l≤2*bOs l:=zdQ zuD l
theorem ztH (l:List FragD):lFs l≤2*bFs l:=zdQ zu2 l
theorem zdR (l:List DirD) (hb:bDs l≤Lim):zg Tryz.prog 33 [.sl .no 2 (cDs l)] (.int .i64 (lDs l)):=by
 refine zg.go ir33 ck33 (Al4 _) fun KP Q hQ=>?_
 have h1:=YP l
 have hl:=zau l
 have hle:=zaQ l
 have hb':=hb
 simp only[Lim] at hb'
 simp(disch:=first|omega|assumption) only[ir33,h1,go_sem]
 refine zf l 4 (fun n:Int=>[(3,.int .i64 n)]) (fun done rest n H=>n+lDs rest=lDs l) 0 (by simp(disch:=first|omega|assumption) only[go_sem]) (by simp) ?_ ?_
 ·rintro n H J hn hlt
  simp only[lDs,List.map_nil,List.sum_nil] at hn
  simp(disch:=first|omega|assumption) only[h1,hlt,go_sem]
  have:n=((lDs l:Nat):Int):=by simp only[lDs];omega
  exact hQ _ _ _ _ nofun rfl (by simp[zd,ze,AV.strip,AV.strip1,this])
 ·rintro done x rest n H J hd hlt _ hn hJ
  have hg:=zar hd
  have hbm:=zcp done x rest
  rw[← hd] at hbm
  obtain⟨nm,args⟩:=x
  simp only[bD] at hbm
  have hn':n+(2+nm.length+bMs args+lDs rest:Nat)=lDs l:=by rw[← hn];simp[lDs,lD]
  have hsz:bV (.mk 0 0 [] [] args)=1+bMs args:=by simp[bV,bVs]
  have hp:(0:Int)≤n:=by
   have:=zaQ rest
   have e:lDs l=lDs done+lDs (⟨nm,args⟩::rest):=by rw[hd];simp[lDs]
   omega
  simp(disch:=first|omega|assumption) only[h1,hlt,hg,cD,wrap64,go_sem]
  refine za (zg.low (zjU (.mk 0 0 [] [] args) (by rw[hsz];simp only[Lim];omega))) ?_
  rw[hsz]
  simp(disch:=first|omega|assumption) only[h1,hlt,hg,cD,wrap64,go_sem]
  exact goJ (hJ (n+1+nm.length+((1+bMs args:Nat):Int)) _ (by omega)) (by simp(disch:=first|omega|assumption) only[wrap64,go_sem])
theorem zlI:∀ c:Nat,∀ l:List SelD,bSs l≤c→c≤Lim→zg Tryz.prog 34 [.sl .no 7 (cSs l)] (.int .i64 (lSs l)):=by
 intro c
 induction c using Nat.strongRecOn with
 | _ c ih =>
 intro l hb hc
 refine zg.go ir34 ck34 (Al4 _) fun KP Q hQ=>?_
 have h1:=YS l
 have hl:=YT l
 have hle:=zcF l
 have hb':=hc
 simp only[Lim] at hb'
 simp(disch:=first|omega|assumption) only[ir34,h1,go_sem]
 refine zf l 4 (fun n:Int=>[(3,.int .i64 n)]) (fun done rest n H=>n+lSs rest=lSs l∧0≤n) 0 (by simp(disch:=first|omega|assumption) only[go_sem]) (by simp) ?_ ?_
 ·rintro n H J ⟨hn,_⟩ hlt
  simp only[lSs] at hn
  simp(disch:=first|omega|assumption) only[h1,hlt,go_sem]
  have:n=((lSs l:Nat):Int):=by omega
  exact hQ _ _ _ _ nofun rfl (by simp[zd,ze,AV.strip,AV.strip1,this])
 ·rintro done x rest n H J hd hlt _ ⟨hn,hp⟩ hJ
  have hg:=zao hd
  have hbm:=zbn done x rest
  rw[← hd] at hbm
  obtain⟨k,al,nm,args,dirs,on,sels⟩:=x
  have hdl:=zaQ dirs
  have hsl:=zcF sels
  simp only[bS] at hbm
  rw[Zb] at hg
  simp only[lSs,lS] at hn
  have hsz:bV (.mk 0 0 [] [] args)=1+bMs args:=by simp[bV,bVs]
  simp(disch:=first|omega|assumption) only[h1,hlt,hg,wrap64,go_sem]
  refine za (zg.low (zjU (.mk 0 0 [] [] args) (by rw[hsz];simp only[Lim];omega))) ?_
  rw[hsz]
  simp(disch:=first|omega|assumption) only[h1,hlt,hg,wrap64,go_sem]
  refine za (zdR dirs (by simp only[Lim];omega)) ?_
  simp(disch:=first|omega|assumption) only[h1,hlt,hg,wrap64,go_sem]
  refine za (ih (bSs sels) (by omega) sels (Al4 _) (by omega)) ?_
  simp(disch:=first|omega|assumption) only[h1,hlt,hg,wrap64,go_sem]
  exact goJ (hJ (n+1+nm.length+al.length+on.length+((1+bMs args:Nat):Int)+lDs dirs+lSs sels) _ ⟨by omega,by omega⟩) (by simp(disch:=first|omega|assumption) only[wrap64,go_sem])
theorem zg0 (l:List SelD) (hb:bSs l≤Lim):zg Tryz.prog 34 [.sl .no 7 (cSs l)] (.int .i64 (lSs l)):=zlI (bSs l) l (Al4 _) hb
theorem zsT (d:DocD) (hb:zw d≤Lim):zg Tryz.prog 14 [.agg (zX d)] (.bool (zdP d)):=by
 refine zg.go ir14 ck14 (Al4 _) fun KP Q hQ=>?_
 obtain⟨ops,frags⟩:=d
 simp only[zw] at hb
 have h1:=Z2 ops
 have h2:=Ye frags
 have hl1:=Zo ops
 have hl2:=yM frags
 have hle1:=ztL ops
 have hle2:=ztH frags
 have hb':=hb
 simp only[Lim] at hb'
 simp(disch:=first|omega|assumption) only[ir14,zX,go_sem]
 refine zf ops 4 (fun n:Int=>[(3,.int .i64 n)]) (fun done rest n H=>n+lOs rest=lOs ops∧0≤n) 0 (by simp(disch:=first|omega|assumption) only[go_sem]) (by simp) ?_ ?_
 ·rintro n H J ⟨hn,hp⟩ hlt
  simp only[lOs,List.map_nil,List.sum_nil] at hn
  have hn:n=((lOs ops:Nat):Int):=by simp only[lOs];omega
  subst hn
  simp(disch:=first|omega|assumption) only[h1,hlt,go_sem]
  refine zf frags 6 (fun n:Int=>[(3,.int .i64 n)]) (fun done rest n H=>n+lFs rest=(lOs ops+lFs frags:Nat)∧0≤n) (lOs ops:Nat) (by simp(disch:=first|omega|assumption) only[go_sem]) ⟨by omega,by omega⟩ ?_ ?_
  ·rintro n H J ⟨hn,_⟩ hlt
   simp only[lFs,List.map_nil,List.sum_nil] at hn
   have e:decide (n≤3200)=zdP ⟨ops,frags⟩:=by simp only[zdP,lFs];exact decide_eq_decide.2 (by omega)
   simp(disch:=first|omega|assumption) only[h2,hlt,go_sem]
   exact hQ _ _ _ _ nofun rfl (by simp[zd,ze,AV.strip,AV.strip1,e])
  ·rintro done x rest n H J hd hlt _ ⟨hn,hp⟩ hJ
   have hg:=Yt hd
   have hbm:=ziR done x rest
   rw[← hd] at hbm
   obtain⟨nm,on,dirs,sels⟩:=x
   simp only[bF] at hbm
   have hdl:=zaQ dirs
   have hsl:=zcF sels
   have hn':n+(1+lDs dirs+lSs sels+nm.length+lFs rest:Nat)=(lOs ops+lFs frags:Nat):=by rw[← hn];simp[lFs,lF]
   simp(disch:=first|omega|assumption) only[h2,hlt,hg,cF,wrap64,go_sem]
   refine za (zdR dirs (by simp only[Lim];omega)) ?_
   simp(disch:=first|omega|assumption) only[h2,hlt,hg,cF,wrap64,go_sem]
   refine za (zg0 sels (by simp only[Lim];omega)) ?_
   simp(disch:=first|omega|assumption) only[h2,hlt,hg,cF,wrap64,go_sem]
   exact goJ (hJ (n+1+lDs dirs+lSs sels+nm.length) _ ⟨by omega,by omega⟩) (by simp(disch:=first|omega|assumption) only[wrap64,go_sem])
 ·rintro done x rest n H J hd hlt _ ⟨hn,hp⟩ hJ
  have hg:=Yc hd
  have hbm:=YW done x rest
  rw[← hd] at hbm
  obtain⟨k,nm,vars,dirs,sels⟩:=x
  simp only[bO] at hbm
  have hdl:=zaQ dirs
  have hsl:=zcF sels
  have hwl:=zdg vars
  have h3:=Zr vars
  have h4:=yS vars
  have hn':n+(1+lDs dirs+lSs sels+nm.length+lWs vars+lOs rest:Nat)=lOs ops:=by rw[← hn];simp[lOs,lO]
  simp(disch:=first|omega|assumption) only[h1,hlt,hg,cO,wrap64,go_sem]
  refine za (zdR dirs (by simp only[Lim];omega)) ?_
  simp(disch:=first|omega|assumption) only[h1,hlt,hg,cO,wrap64,go_sem]
  refine za (zg0 sels (by simp only[Lim];omega)) ?_
  simp(disch:=first|omega|assumption) only[h1,hlt,hg,cO,wrap64,go_sem]
  refine zf vars 5 (fun n:Int=>[(3,.int .i64 n)]) (fun done' rest' n' H=>n'+lWs rest'=n+1+lDs dirs+lSs sels+nm.length+lWs vars∧0≤n') (n+1+lDs dirs+lSs sels+nm.length) (by simp(disch:=first|omega|assumption) only[go_sem]) ⟨by omega,by omega⟩ ?_ ?_
  ·rintro n2 H J' ⟨hn2,hp2⟩ hlt2
   simp only[lWs,List.map_nil,List.sum_nil] at hn2
   simp(disch:=first|omega|assumption) only[h1,h3,hlt,hg,hlt2,cO,wrap64,go_sem]
   exact goJ (hJ n2 _ ⟨by simp only[lWs] at hn';omega,by omega⟩) (by simp(disch:=first|omega|assumption) only[wrap64,go_sem])
  ·rintro done2 y rest2 n2 H J' hd2 hlt2 _ ⟨hn2,hp2⟩ hJ'
   have hg2:=Zm hd2
   have hbm2:=zaY done2 y rest2
   rw[← hd2] at hbm2
   obtain⟨vn,⟨tn,tl,tm⟩,vh,⟨dk,dn,ds,dl,dm⟩⟩:=y
   rw[zdc,yo] at hg2
   simp only[bW] at hbm2
   have hn2':n2+(1+bV (.mk dk dn ds dl dm)+vn.length+lWs rest2:Nat)=n+1+lDs dirs+lSs sels+nm.length+lWs vars:=by rw[← hn2];simp[lWs,lW]
   simp(disch:=first|omega|assumption) only[h1,h3,hlt,hg,hg2,hlt2,cO,wrap64,go_sem]
   refine za (zjU (.mk dk dn ds dl dm) (by simp only[Lim];omega)) ?_
   simp(disch:=first|omega|assumption) only[h1,h3,hlt,hg,hg2,hlt2,cO,wrap64,go_sem]
   exact goJ (hJ' (n2+1+bV (.mk dk dn ds dl dm)+vn.length) _ ⟨by omega,by omega⟩) (by simp(disch:=first|omega|assumption) only[wrap64,go_sem])
def l8L (x:FldD):Nat:=1+x.nm.length+lWs x.ps+lDs x.dirs
def zlc (l:List FldD):Nat:=(l.map l8L).sum
def l8E (x:DefD):Nat:=1+x.nm.length+bT x.faces+bT x.parts+lWs x.ps+zlc x.flds
def zfO (l:List DefD):Nat:=(l.map l8E).sum
def zfl (s:SchD):Bool:=decide (zfO s.defs≤4000)
theorem ztW (x:FldD):l8L x≤2*bL x:=by
 have h1:=zaQ x.dirs
 have h2:=zdg x.ps
 simp only[l8L,bL];omega
theorem zl6 (l:List FldD):zlc l≤2*bLs l:=zdQ ztW l
theorem zoH (x:DefD):l8E x≤2*bE x:=by
 have h1:=zl6 x.flds
 have h2:=zdg x.ps
 simp only[l8E,bE];omega
theorem zma (l:List DefD):zfO l≤2*bEs l:=zdQ zoH l
theorem zlL (l:List DirD) (hb:bDs l≤Lim):zg Tryz.prog 32 [.sl .no 2 (cDs l)] (.int .i64 (lDs l)):=by
 refine zg.go ir32 ck32 (Al4 _) fun KP Q hQ=>?_
 have h1:=YP l
 have hl:=zau l
 have hle:=zaQ l
 have hb':=hb
 simp only[Lim] at hb'
 simp(disch:=omega) only[ir32,h1,go_sem]
 refine zf l 4 (fun n:Int=>[(3,.int .i64 n)]) (fun done rest n H=>n+lDs rest=lDs l) 0 (by simp(disch:=omega) only[go_sem]) (by simp) ?_ ?_
 ·rintro n H J hn hlt
  simp only[lDs,List.map_nil,List.sum_nil] at hn
  simp(disch:=omega) only[h1,hlt,go_sem]
  have:n=((lDs l:Nat):Int):=by simp only[lDs];omega
  exact hQ _ _ _ _ nofun rfl (by simp[zd,ze,AV.strip,AV.strip1,this])
 ·rintro done x rest n H J hd hlt _ hn hJ
  have hg:=zar hd
  have hbm:=zcp done x rest
  rw[← hd] at hbm
  obtain⟨nm,args⟩:=x
  simp only[bD] at hbm
  have hn':n+(2+nm.length+bMs args+lDs rest:Nat)=lDs l:=by rw[← hn];simp[lDs,lD]
  have hsz:bV (.mk 0 0 [] [] args)=1+bMs args:=by simp[bV,bVs]
  have hp:(0:Int)≤n:=by
   have:=zaQ rest
   have e:lDs l=lDs done+lDs (⟨nm,args⟩::rest):=by rw[hd];simp[lDs]
   omega
  simp(disch:=omega) only[h1,hlt,hg,cD,wrap64,go_sem]
  refine za (zg.low (zjU (.mk 0 0 [] [] args) (by rw[hsz];simp only[Lim];omega))) ?_
  rw[hsz]
  simp(disch:=omega) only[h1,hlt,hg,cD,wrap64,go_sem]
  exact goJ (hJ (n+1+nm.length+((1+bMs args:Nat):Int)) _ (by omega)) (by simp(disch:=omega) only[wrap64,go_sem])
theorem zfz (l:List (List UInt8)) (hb:bT l≤Lim):zg Tryz.prog 30 [.sl .no 1 (cT l)] (.int .i64 (bT l)):=by
 refine zg.go ir30 ck30 (Al4 _) fun KP Q hQ=>?_
 have h1:=zK l
 have hl:=ZN l
 have hb':=hb
 simp only[Lim] at hb'
 simp(disch:=omega) only[ir30,h1,go_sem]
 refine zf l 4 (fun n:Int=>[(3,.int .i64 n)]) (fun done rest n H=>n=bT done) 0 (by simp(disch:=omega) only[go_sem]) (by simp[bT]) ?_ ?_
 ·rintro n H J hn hlt
  subst hn
  simp(disch:=omega) only[h1,hlt,go_sem]
  exact hQ _ _ _ _ nofun rfl (by simp[zd,ze,AV.strip,AV.strip1])
 ·rintro done x rest n H J hd hlt _ hn hJ
  subst hn
  have hg:=ZZ hd
  have hbm:=zgZ done x rest
  rw[← hd] at hbm
  simp(disch:=omega) only[h1,hlt,hg,wrap64,go_sem]
  exact goJ (hJ ((bT done:Int)+1+x.length) _ (by simp[bT];omega)) (by simp(disch:=omega) only[wrap64,go_sem])
theorem zeh (l:List VarD) (hb:bWs l≤Lim):zg Tryz.prog 31 [.sl .no 10 (cWs l)] (.int .i64 (lWs l)):=by
 refine zg.go ir31 ck31 (Al4 _) fun KP Q hQ=>?_
 have h1:=Zr l
 have hl:=yS l
 have hle:=zdg l
 have hb':=hb
 simp only[Lim] at hb'
 simp(disch:=omega) only[ir31,h1,go_sem]
 refine zf l 4 (fun n:Int=>[(3,.int .i64 n)]) (fun done rest n H=>n=lWs done) 0 (by simp(disch:=omega) only[go_sem]) (by simp[lWs]) ?_ ?_
 ·rintro n H J hn hlt
  subst hn
  simp(disch:=omega) only[h1,hlt,go_sem]
  exact hQ _ _ _ _ nofun rfl (by simp[zd,ze,AV.strip,AV.strip1])
 ·rintro done x rest n H J hd hlt _ hn hJ
  subst hn
  have hg:=Zm hd
  have hbm:=zaY done x rest
  rw[← hd] at hbm
  have hld:=zdg done
  obtain⟨vn,⟨tn,tl,tm⟩,vh,vd⟩:=x
  have hbx:bW ⟨vn,⟨tn,tl,tm⟩,vh,vd⟩=vn.length+tn.length+bV vd:=rfl
  rw[zdc] at hg
  simp only at hg
  simp(disch:=omega) only[zp,zl,zh,zo,zm,zi,zr,h1,hlt,hg,wrap64,go_sem]
  refine za (zjU vd (by simp only[Lim];omega)) ?_
  simp(disch:=omega) only[zp,zl,zh,zo,zm,zi,zr,h1,hlt,hg,wrap64,go_sem]
  exact goJ (hJ ((lWs done:Int)+1+vn.length+((bV vd:Nat):Int)) _ (by simp[lWs,lW];omega)) (by simp(disch:=omega) only[wrap64,go_sem])
theorem zqt (s:SchD) (hb:zJ s≤Lim):zg Tryz.prog 13 [.agg (zq s)] (.bool (zfl s)):=by
 refine zg.go ir13 ck13 (Al4 _) fun KP Q hQ=>?_
 obtain⟨defs,q,m⟩:=s
 simp only[zJ] at hb
 have h1:=zex defs
 have hl:=zeg defs
 have hle:=zma defs
 have hb':=hb
 simp only[Lim] at hb'
 have ed:zq ⟨defs,q,m⟩=[.sl .no 6 (cEs defs),.str q,.str m]:=rfl
 simp(disch:=omega) only[ir13,ed,h1,go_sem]
 refine zf defs 4 (fun n:Int=>[(3,.int .i64 n)]) (fun done rest n H=>n=zfO done) 0 (by simp(disch:=omega) only[go_sem]) (by simp[zfO]) ?_ ?_
 ·rintro n H J hn hlt
  subst hn
  by_cases h4:zfO defs≤4000
  ·have h4':((zfO defs:Int)≤4000)=True:=eq_true (by omega)
   simp(disch:=omega) only[h1,hlt,h4',go_sem]
   exact hQ _ _ _ _ nofun rfl (by simp[zd,ze,AV.strip,AV.strip1,zfl,h4])
  ·have h4':¬ ((zfO defs:Int)≤4000):=by omega
   simp(disch:=omega) only[h1,hlt,h4',go_sem]
   exact hQ _ _ _ _ nofun rfl (by simp[zd,ze,AV.strip,AV.strip1,zfl,h4])
 ·rintro done x rest n H J hd hlt _ hn hJ
  subst hn
  have hg:=zdw hd
  have hbm:=ziC done x rest
  rw[← hd] at hbm
  have hld:=zma done
  have hxe:=zoH x
  obtain⟨k,nm,faces,flds,parts,ps⟩:=x
  simp only[bE] at hbm
  simp only[l8E,bE] at hxe
  have hfl:=zaX flds
  have hfb:=YV flds
  have hpl:=zdg ps
  rw[ye] at hg
  simp(disch:=omega) only[h1,hlt,hg,go_sem]
  refine zb fun b5 hb5=>?_
  obtain⟨cs,hcs⟩:∃ cs,cs=[AV.int .i64 k,.str nm,.sl .no 1 (cT faces),.sl .no 6 (cLs flds),.sl .no 1 (cT parts),.sl .no 10 (cWs ps)]:=⟨_,rfl⟩
  simp(disch:=omega) only[wrap64,go_sem]
  refine za (zfz faces (by simp only[Lim];omega)) ?_
  simp(disch:=omega) only[wrap64,go_sem]
  refine za (zfz parts (by simp only[Lim];omega)) ?_
  simp(disch:=omega) only[wrap64,go_sem]
  refine za (zeh ps (by simp only[Lim];omega)) ?_
  simp(disch:=omega) only[wrap64,hfl,go_sem]
  refine zf flds 6 (fun n:Int=>[(3,.int .i64 n)]) (fun dn rs n H'=>n=(zfO done:Int)+1+nm.length+bT faces+bT parts+lWs ps+zlc dn∧H' b5=some (.cells [AV.int .i64 k,.str nm,.sl .no 1 (cT faces),.sl .no 6 (cLs flds),.sl .no 1 (cT parts),.sl .no 10 (cWs ps)])) ((zfO done:Int)+1+nm.length+bT faces+bT parts+lWs ps) (by simp(disch:=omega) only[wrap64,go_sem]) ⟨by simp[zlc],upd_same ..⟩ ?_ ?_
  ·rintro n H4 J4 ⟨hn,g4⟩ hlt4
   subst hn
   simp(disch:=omega) only[hfl,hlt4,g4,wrap64,go_sem]
   exact goJ (hJ ((zfO done:Int)+1+nm.length+bT faces+bT parts+lWs ps+zlc flds) _ (by simp[zfO,l8E];omega)) (by simp(disch:=omega) only[wrap64,go_sem])
  ·rintro dn y rs n H4 J4 hdn hlt4 _ ⟨hn,g4⟩ hJ4
   subst hn
   have hgy:=zdt hdn
   have hby:=zmD dn y rs
   rw[← hdn] at hby
   have hldn:=zl6 dn
   obtain⟨fn,fps,⟨tn,tl,tm⟩,dirs⟩:=y
   simp only[bL] at hby
   have hd1:=zaQ dirs
   have hd2:=zdg fps
   rw[zaB] at hgy
   simp(disch:=omega) only[hfl,hlt4,g4,hgy,wrap64,go_sem]
   refine za (zeh fps (by simp only[Lim];omega)) ?_
   simp(disch:=omega) only[hfl,hlt4,g4,hgy,wrap64,go_sem]
   refine za (zlL dirs (by simp only[Lim];omega)) ?_
   simp(disch:=omega) only[hfl,hlt4,g4,hgy,wrap64,go_sem]
   exact goJ (hJ4 ((zfO done:Int)+1+nm.length+bT faces+bT parts+lWs ps+zlc dn+1+fn.length+lWs fps+lDs dirs) _ ⟨by simp[zlc,l8L];omega,g4⟩) (by simp(disch:=omega) only[wrap64,go_sem])
def frS (d:DocD) (n:List UInt8):List SelD:=((zC d n).getD zFr).sels
mutual
def zg4 (d:DocD) (g:Nat→List SelD→Nat):SelD→Nat→Nat
 | .mk k _ nm _ _ _ sels,r=>if k=1∧1+Zq d g sels r 0≤r then 1+Zq d g sels r 0+g (r-(1+Zq d g sels r 0)) (frS d nm) else 1+Zq d g sels r 0
def Zq (d:DocD) (g:Nat→List SelD→Nat):List SelD→Nat→Nat→Nat
 | [],_,n=>n
 | x::xs,most,n=>if n≤most then Zq d g xs most (n+zg4 d g x (most-n)) else n
end
def few (d:DocD):Nat→Nat→List SelD→Nat
 | 0=>fun most _=>most+1
 | k+1=>fun most l=>Zq d (few d k) l most 0
theorem zgJ (d:DocD) (g:Nat→List SelD→Nat):∀(l:List SelD) (most n:Nat),n≤Zq d g l most n
 | [],_,_=>by simp[Zq]
 | x::xs,most,n=>by
  simp only[Zq]
  split
  ·exact Nat.le_trans (Nat.le_add_right _ _) (zgJ d g xs most _)
  ·exact Al4 _
inductive Sz (d:DocD):Nat→List SelD→Prop
 | nil (n:Nat):Sz d n []
 | cons {n i j m:Nat} {k:Int} {al nm:List UInt8} {args:List Mem} {dirs:List DirD} {on:List UInt8} {sels r:List SelD} (hle:i+j+m+1≤n) (h1:Sz d i sels) (h2:k=1→Sz d j (frS d nm)) (h3:Sz d m r):Sz d n (.mk k al nm args dirs on sels::r)
theorem Sz.mono {d:DocD} {n m:Nat} {l:List SelD} (h:Sz d n l) (hm:n≤m):Sz d m l:=by
 cases h with
 | nil=>exact .nil _
 | cons hle h1 h2 h3=>exact .cons (by omega) h1 h2 h3
section
variable {d:DocD} {s:SchD} {fr:List (List UInt8×List ItD)}
mutual
theorem szS {g:Nat→List SelD→Nat} (hg:∀ m n,g m (frS d n)≤m→Sz d (g m (frS d n)) (frS d n)):∀(x:SelD) (r:Nat),zg4 d g x r≤r→∃ i j,i+j+1≤zg4 d g x r∧Sz d i x.sels∧(x.k=1→Sz d j (frS d x.nm))
 | .mk k al nm args dirs on sels,r,h=>by
  simp only[zg4] at h ⊢
  split at h
  ·rename_i hc
   rw[if_pos hc]
   obtain⟨e,he,hx⟩:=zrU hg sels r 0 (by omega)
   exact⟨e,_,by omega,hx,fun _=>hg (r-(1+Zq d g sels r 0)) nm (by omega)⟩
  ·rename_i hc
   rw[if_neg hc]
   obtain⟨e,he,hx⟩:=zrU hg sels r 0 (by omega)
   exact⟨e,0,by omega,hx,fun hk=>absurd ⟨hk,h⟩ hc⟩
theorem zrU {g:Nat→List SelD→Nat} (hg:∀ m n,g m (frS d n)≤m→Sz d (g m (frS d n)) (frS d n)):∀(l:List SelD) (most n:Nat),Zq d g l most n≤most→∃ e,n+e≤Zq d g l most n∧Sz d e l
 | [],most,n,_=>⟨0,by simp[Zq],.nil _⟩
 | x::xs,most,n,h=>by
  simp only[Zq] at h ⊢
  split at h
  ·rename_i hc
   rw[if_pos hc]
   have h0:=zgJ d g xs most (n+zg4 d g x (most-n))
   obtain⟨e,he,hx⟩:=zrU hg xs most _ h
   obtain⟨i,j,hij,hx1,hx2⟩:=szS hg x (most-n) (by omega)
   obtain⟨k,al,nm,args,dirs,on,sels⟩:=x
   exact⟨i+j+e+1,by omega,.cons (Al4 _) hx1 hx2 hx⟩
  ·omega
end
theorem zsh:∀(k most:Nat) (l:List SelD),few d k most l≤most→Sz d (few d k most l) l
 | 0,most,l,h=>by simp only[few] at h;omega
 | k+1,most,l,h=>by
  simp only[few] at h ⊢
  obtain⟨e,he,hx⟩:=zrU (g:=few d k) (fun m n hm=>zsh k m (frS d n) hm) l most 0 h
  exact hx.mono (by omega)
theorem zvr (hfr:∀ n,∃ typ no,frL fr n=(zR s (frS d n) typ no).1) (hfb:∀ n,bSs (frS d n)≤Lim) {n:Nat} {l:List SelD} (h:Sz d n l):bSs l≤Lim→∀ typ no,Ex fr n (zR s l typ no).1:=by
 induction h with
 | nil=>exact fun _ _ _=>.nil _
 | @cons n i j m k al nm args dirs on sels r hle h1 h2 h3 i1 i2 i3 =>
  intro hb typ no
  simp only[bSs,bS] at hb
  simp only[zR,itS]
  refine .cons hle (i1 (by omega) _ _) (fun hk=>?_) (i3 (by omega) _ _) (by omega)
  obtain⟨typ',no',e0⟩:=hfr nm
  rw[e0];exact i2 hk (hfb nm) _ _
end
def ZV (d:DocD):List (List SelD)→Nat→Nat
 | [],n=>n
 | x::r,n=>if n≤40 then ZV d r (n+few d 41 40 x) else n
theorem zdz (d:DocD):∀(l:List (List SelD)) (n:Nat),n≤ZV d l n
 | [],_=>Al4 _
 | x::r,n=>by
  simp only[ZV]
  split
  ·exact Nat.le_trans (Nat.le_add_right _ _) (zdz d r _)
  ·exact Al4 _
theorem zd1 {d:DocD}:∀(l:List (List SelD)) (n:Nat),ZV d l n≤40→∀ x∈l,few d 41 40 x≤40
 | y::r,n,h,x,hx=>by
  simp only[ZV] at h
  split at h
  ·have:=zdz d r (n+few d 41 40 y)
   rcases List.mem_cons.1 hx with rfl|hx
   ·omega
   ·exact zd1 r _ h x hx
  ·omega
def zas (s:SchD) (d:DocD):Bool:=zfl s&&zdP d&&decide (ZV d (d.frags.map (·.sels)) (ZV d (d.ops.map (·.sels)) 0)≤40)
theorem zk5 {s:SchD} {d:DocD} (h:zas s d=true):∀ x∈ya d,Sz d 40 x:=by
 simp only[zas,Al0,yX] at h
 intro x hx
 have h0:=zdz d (d.frags.map (·.sels)) (ZV d (d.ops.map (·.sels)) 0)
 have hm:few d 41 40 x≤40:=by
  rcases List.mem_append.1 hx with h1|h1
  ·exact zd1 (d.ops.map (·.sels)) 0 (by omega) x h1
  ·exact zd1 _ _ h.2 x h1
 exact(zsh 41 40 x hm).mono hm
structure SpotD where
 nm:List UInt8
 t:TyD
 has:Bool
def cP (x:SpotD):List AV:=[.str x.nm,.str x.t.nm,.int .i64 x.t.lists,.int .i64 x.t.musts,.bool x.has]
def cPs (l:List SpotD):List (List AV):=l.map cP
theorem yh (l:List SpotD):(cPs l).length=l.length:=by simp[cPs]
theorem zrE {l a:List SpotD} {x:SpotD} {b:List SpotD} (h:l=a++x::b):(cPs l).getD a.length []=cP x:=yQ h
theorem zck (a b:List SpotD):cPs a++(cPs b).map (·.map AV.strip1)=cPs (a++b):=by
 have:(cPs b).map (·.map AV.strip1)=cPs b:=by rw[cPs,List.map_map];exact List.map_congr_left fun v _=>rfl
 rw[this];simp[cPs]
theorem YA {H H1 H2:zc} {o o1 o2:Own} {n n2 sz sz2:Nat} (h:OwnS H o H1 o1 n sz) (h':OwnS H1 .nil H2 o2 n2 sz2):OwnS H o H2 o1 n sz :=
 ⟨zY.ofKept h.own h'.kept (fun _ _ _ _ e=>by cases e),fun b x hb hn=>h'.kept b x (h.kept b x hb hn) (fun d e=>by cases e),h.new⟩
theorem zeS {H:zc} {o:Own} {n sz b:Nat} {cs:List AV} (ho:zY H o n sz) (h:H b=some (.cells cs)):∀ d,o≠.tip b d:=fun d e=>by
 subst e
 have:H b=some (.tip (d+n) sz):=ho
 rw[h] at this;cases this
def zgI (s:SchD) (t:TyD) (has:Bool) (v:Val) (L:List SpotD):Prop :=
 L.length≤bV v∧(∀ x∈L,x.t.nm.length≤Lim)∧∀ H,Y8 Tryz.prog 232 [.agg (zq s),.agg (cTy t),.bool has,.agg (cV v)] H .nil 5 (cPs L)
open Classical in
noncomputable def spM (s:SchD) (t:TyD) (has:Bool) (v:Val):List SpotD:=if h:∃ L,zgI s t has v L then Classical.choose h else []
theorem ziW {s:SchD} {t:TyD} {has:Bool} {v:Val} (h:∃ L,zgI s t has v L):zgI s t has v (spM s t has v):=by
 unfold spM;rw[dif_pos h];exact Classical.choose_spec h
noncomputable def Yh (s:SchD) (ps:List VarD):Mem→List SpotD
 | .mk n x=>match yb ps n with|none=>[]|some p=>spM s p.t p.has x
noncomputable def spS (s:SchD) (t:TyD) (has:Bool):Val→List SpotD
 | .mk k q st l m=>if k=8 then [⟨st,t,has⟩] else match Yy t with
  | some it=>if k=6 then l.flatMap (spM s it false) else spM s it false (.mk k q st l m)
  | none=>if k=7 then m.flatMap (Yh s ((yN s t.nm).getD zE).ps) else []
theorem zcX {α β:Type} {f:α→List β} {g:α→Nat}:∀ l:List α,(∀ x∈l,(f x).length≤g x)→(l.flatMap f).length≤(l.map g).sum
 | [],_=>by simp
 | x::r,h=>by
  have h1:=h x (ZI ..)
  have h2:=zcX r fun y hy=>h y (Z0 _ hy)
  rw[List.flatMap_cons,Al5,List.map_cons,List.sum_cons];omega
theorem zmE {α:Type} {l done rest:List α} {x y:α} (hd:l=done++x::rest) (hy:y∈done++[x]):y∈l:=by
 rw[hd];simp at hy ⊢;rcases hy with h|h<;>simp[h]
theorem zgr:∀ l:List Val,bVs l=(l.map bV).sum
 | []=>by simp[bVs]
 | x::r=>by simp only[bVs,List.map_cons,List.sum_cons];rw[zgr r]
theorem zb7:∀ l:List Mem,bMs l=(l.map bM).sum
 | []=>by simp[bMs]
 | x::r=>by simp only[bMs,List.map_cons,List.sum_cons];rw[zb7 r]
theorem spE (s:SchD) (hs:zJ s≤Lim):∀ v:Val,∀(n:Nat) (t:TyD) (has:Bool),t.lists.toNat≤n→bV v≤Lim→t.nm.length≤Lim→zgI s t has v (spS s t has v):=by
 refine Val.ind fun k q st l m ihl ihm=>?_
 have hll:=za0 l
 have hml:=Ze m
 have h1:=zan l
 have h1m:=Za m
 intro n
 induction n using Nat.strongRecOn with
 | _ n ih =>
 intro t has hn hb ht
 have hb':1+st.length+bVs l+bMs m≤1099511627776:=hb
 have hit:=zsp t ht
 have hsl:zJ s≤1099511627776:=hs
 have hf:=zeD s t.nm (yc hs)
 have hps:bWs ((yN s t.nm).getD zE).ps≤zJ s:=by
  cases hfe:yN s t.nm with
  | none=>simp[zE,bWs]
  | some d=>exact(Ym hfe).2.2.2
 generalize hE:(yN s t.nm).getD zE=E at *
 have hEl:=yS E.ps
 have hpar:=fun n=>zdT E.ps n (by simp only[Lim];omega)
 have hsame:∀ it,Yy t=some it→zgI s it false (.mk k q st l m) (spM s it false (.mk k q st l m)):=fun it h=>by
  obtain⟨e1,e2,e3⟩:=zeN h
  exact ziW ⟨_,ih it.lists.toNat (by omega) it false (Al4 _) hb (by rw[e1];exact ht)⟩
 have hlist:∀ it,Yy t=some it→∀ x∈l,zgI s it false x (spM s it false x):=fun it h x hx=>by
  obtain⟨e1,e2,e3⟩:=zeN h
  have hxb:bV x≤Lim:=by have:=ziy hx;simp only[Lim];omega
  exact ziW ⟨_,ihl x hx it.lists.toNat it false (Al4 _) hxb (by rw[e1];exact ht)⟩
 have hmem:∀ n x,Mem.mk n x∈m→∀ p,yb E.ps n=some p→zgI s p.t p.has x (spM s p.t p.has x):=fun n x hx p hp=>by
  have hxb:bV x≤Lim:=by have:=zed hx;simp only[Lim];omega
  have hpm:p∈E.ps:=List.mem_of_find?_eq_some hp
  have hpt:p.t.nm.length≤Lim:=by have:=Ys hpm;simp only[bW] at this;simp only[Lim];omega
  exact ziW ⟨_,ihm n x hx p.t.lists.toNat p.t p.has (Al4 _) hxb hpt⟩
 have hmemL:∀ x∈m,(Yh s E.ps x).length≤bM x∧∀ y∈Yh s E.ps x,y.t.nm.length≤Lim:=fun x hx=>by
  obtain⟨n,v⟩:=x
  simp only[Yh]
  cases hp:yb E.ps n with
  | none=>simp
  | some p =>
   have:=hmem n v hx p hp
   exact⟨Nat.le_trans this.1 (by simp only[bM];omega),this.2.1⟩
 have hml2:=fun a:List Mem=>zcX (f:=Yh s E.ps) (g:=bM) a
 have e0:spS s t has (.mk k q st l m)=if k=8 then [⟨st,t,has⟩] else match Yy t with
  | some it=>if k=6 then l.flatMap (spM s it false) else spM s it false (.mk k q st l m)
  | none=>if k=7 then m.flatMap (Yh s E.ps) else []:=by rw[← hE];rfl
 have hv:bV (.mk k q st l m)=1+st.length+bVs l+bMs m:=rfl
 refine⟨?_,?_,fun H=>?_⟩
 ·rw[e0,hv]
  split
  ·simp;omega
  ·cases him:Yy t with
   | some it =>
    simp only
    split
    ·have:=zcX (f:=spM s it false) (g:=bV) l fun x hx=>(hlist it him x hx).1
     rw[← zgr] at this;omega
    ·rw[← hv];exact(hsame it him).1
   | none =>
    simp only
    split
    ·have:=hml2 m fun x hx=>(hmemL x hx).1
     rw[← zb7] at this;omega
    ·simp
 ·rw[e0]
  split
  ·intro x hx
   simp only[List.mem_singleton] at hx
   subst hx;exact ht
  ·cases him:Yy t with
   | some it =>
    simp only
    split
    ·intro x hx
     obtain⟨y,hy,hx⟩:=List.mem_flatMap.1 hx
     exact(hlist it him y hy).2.1 x hx
    ·exact(hsame it him).2.1
   | none =>
    simp only
    split
    ·intro x hx
     obtain⟨y,hy,hx⟩:=List.mem_flatMap.1 hx
     exact(hmemL y hy).2 x hx
    ·simp
 generalize spS s t has (.mk k q st l m)=F at *
 obtain⟨sd,sq,sm⟩:=s
 generalize hS:(⟨sd,sq,sm⟩:SchD)=s at *
 have hcs:zq s=[.sl .no 6 (cEs sd),.str sq,.str sm]:=by rw[← hS];rfl
 obtain⟨tn,tl,tm⟩:=t
 simp only[zgI] at hsame hlist hmem
 simp only[hcs,yo] at hsame hlist hmem hf ⊢
 simp only[cTy] at hit ⊢
 refine zj.goO ir232 ck232 (Al4 _) fun KP Q hQ hP=>?_
 have fin:∀ r o,F=r→∀ ρ H1,zN ρ H1 ir232.res=some [.sl o 5 (cPs r)]→OwnS H .nil H1 o r.length 5→Q .ret ρ H1:=fun r o e ρ H1 h1 h2=>hQ _ ρ H1 H1 _ nofun h1 (Low.refl _) ⟨o,by rw[e];rfl,by rw[e,yh];exact h2⟩
 by_cases k8:k=8
 ·subst k8
  rw[if_pos rfl] at e0
  simp(disch:=omega) only[ir232,go_sem]
  exact fin _ .full e0 _ _ rfl ⟨trivial,fun b x hb _=>hb,fun b d e=>by cases e⟩
 rw[if_neg k8] at e0
 simp(disch:=omega) only[ir232,k8,go_sem]
 refine za hit ?_
 cases him:Yy ⟨tn,tl,tm⟩ with
 | some it =>
  rw[him] at e0
  replace hsame:=hsame it him
  replace hlist:=hlist it him
  obtain⟨in',il,im⟩:=it
  simp only at hsame hlist e0
  simp(disch:=omega) only[Option.getD,Option.isSome,go_sem]
  refine zb fun b10 hb10=>?_
  have hs0:OwnS H .nil (H.upd b10 (.cells [.str in',.int .i64 il,.int .i64 im])) .nil 0 5:=(OwnS.refl (o:=.nil) (n:=0) rfl).upd hb10
  by_cases k6:k=6
  case neg =>
   rw[if_neg k6] at e0
   simp(disch:=omega) only[k6,go_sem]
   refine zB (hsame.2.2 _) fun o2 H2 hs2=>?_
   simp(disch:=omega) only[go_sem]
   exact fin _ o2 e0 _ _ rfl (by rw[yh] at hs2;exact hs0.trans hs2)
  subst k6
  rw[if_pos rfl] at e0
  simp(disch:=omega) only[h1,go_sem]
  refine zf l 44 (fun x:Own×List SpotD=>[(9,.sl x.1 5 (cPs x.2))]) (fun done rest x H'=>H' b10=some (.cells [.str in',.int .i64 il,.int .i64 im])∧x.2=done.flatMap (spM s ⟨in',il,im⟩ false)∧OwnS H .nil H' x.1 x.2.length 5) (.nil,[]) (by simp(disch:=omega) only[cPs,List.map,go_sem]) ⟨upd_same ..,rfl,hs0⟩ ?_ ?_
  ·rintro⟨o1,a⟩ H1 J ⟨hH,hn,hs⟩ hlt
   simp only at hn
   subst hn
   simp(disch:=omega) only[h1,hlt,go_sem]
   exact fin _ o1 e0 _ _ rfl hs
  ·rintro done x rest ⟨o1,a⟩ H1 J hd hlt _ ⟨hH,hn,hs⟩ hJ
   have hg:=za1 hd
   have hx:=hlist x (by rw[hd];simp)
   simp only at hn
   replace hs:OwnS H .nil H1 o1 a.length 5:=hs
   have hal:a.length+(spM s ⟨in',il,im⟩ false x).length≤bVs l:=by
    have:=zcX (f:=spM s ⟨in',il,im⟩ false) (g:=bV) (done++[x]) fun y hy=>(hlist y (zmE hd hy)).1
    rw[List.flatMap_append,Al5,← hn] at this
    simp only[List.flatMap_cons,List.flatMap_nil,List.append_nil] at this
    have e:bVs l=(l.map bV).sum:=zgr l
    rw[e,hd]
    simp only[List.map_append,List.sum_append,List.map_cons,List.map_nil,List.sum_cons,List.sum_nil] at this ⊢
    omega
   have hfl:(done++[x]).flatMap (spM s ⟨in',il,im⟩ false)=a++spM s ⟨in',il,im⟩ false x:=by rw[List.flatMap_append,← hn];simp
   obtain⟨xk,xq,xs,xl,xm⟩:=x
   rw[yo] at hg hx
   simp(disch:=omega) only[h1,hlt,hg,go_sem]
   refine zb fun b13 hb13=>?_
   have hne:b10≠b13:=fun e=>by subst e;rw[hH] at hb13;cases hb13
   have hu:=hs.upd (x:=.cells [.int .i64 xk,.int .i64 xq,.str xs,.sl .no 5 (cVs xl),.sl .no 6 (cMs xm)]) hb13
   simp(disch:=omega) only[hH,hne,Ne.symm hne,go_sem]
   refine zB (hx.2.2 _) fun o2 H2 hs2=>?_
   have hH2:=hs2.kept b10 _ (by simp only[zc.upd,hne,if_false];exact hH) (fun d e=>by cases e)
   have hu2:=YA hu hs2
   simp(disch:=omega) only[go_sem]
   refine zu (by rw[yh];exact hu2.own) ?_ ?_ fun o' H3 hs3=>?_
   ·simp only[yh];omega
   ·simp only[yh,maxLen];omega
   have hH3:=hs3.kept b10 _ hH2 (zeS hu2.own hH2)
   simp only[yh] at hs3
   simp(disch:=omega) only[wrap64,zck,go_sem]
   exact goJ (hJ (o',a++spM s ⟨in',il,im⟩ false (.mk xk xq xs xl xm)) H3 ⟨hH3,hfl.symm,by rw[Al5];exact hu2.trans hs3⟩) (by simp(disch:=omega) only[wrap64,go_sem])
 | none =>
  rw[him] at e0
  simp only at e0
  simp(disch:=omega) only[Option.getD,Option.isSome,zTy,go_sem]
  refine zb fun b10 hb10=>?_
  have hs0:OwnS H .nil (H.upd b10 (.cells [.str [],.int .i64 0,.int .i64 0])) .nil 0 5:=(OwnS.refl (o:=.nil) (n:=0) rfl).upd hb10
  by_cases k7:k=7
  case neg =>
   rw[if_neg k7] at e0
   simp(disch:=omega) only[k7,go_sem]
   exact fin [] .nil e0 _ _ rfl hs0
  subst k7
  rw[if_pos rfl] at e0
  simp(disch:=omega) only[go_sem]
  refine za hf ?_
  obtain⟨dk,dn,fs,fl,ps,pa⟩:=E
  simp only at hpar hmem hmemL hml2 e0
  simp(disch:=omega) only[ye,go_sem]
  refine zb fun b14 hb14=>?_
  have hne0:b14≠b10:=fun e=>by subst e;simp[zc.upd] at hb14
  have hs1:=hs0.upd (x:=.cells [.int .i64 dk,.str dn,.sl .no 1 (cT fs),.sl .no 6 (cLs fl),.sl .no 1 (cT ps),.sl .no 10 (cWs pa)]) hb14
  simp(disch:=omega) only[hne0,Ne.symm hne0,h1m,go_sem]
  refine zf m 75 (fun x:Own×List SpotD=>[(9,.sl x.1 5 (cPs x.2))]) (fun done rest x H'=>H' b14=some (.cells [.int .i64 dk,.str dn,.sl .no 1 (cT fs),.sl .no 6 (cLs fl),.sl .no 1 (cT ps),.sl .no 10 (cWs pa)])∧x.2=done.flatMap (Yh s pa)∧OwnS H .nil H' x.1 x.2.length 5) (.nil,[]) (by simp(disch:=omega) only[cPs,List.map,go_sem]) ⟨upd_same ..,rfl,hs1⟩ ?_ ?_
  ·rintro⟨o1,a⟩ H1 J ⟨hH,hn,hs⟩ hlt
   simp only at hn
   subst hn
   simp(disch:=omega) only[h1m,hlt,go_sem]
   exact fin _ o1 e0 _ _ rfl hs
  ·rintro done x rest ⟨o1,a⟩ H1 J hd hlt _ ⟨hH,hn,hs⟩ hJ
   have hg:=Zs hd
   have hxm:x∈m:=by rw[hd];simp
   simp only at hn
   replace hs:OwnS H .nil H1 o1 a.length 5:=hs
   have hal:a.length+(Yh s pa x).length≤bMs m:=by
    have:=hml2 (done++[x]) fun y hy=>(hmemL y (zmE hd hy)).1
    rw[List.flatMap_append,Al5,← hn] at this
    simp only[List.flatMap_cons,List.flatMap_nil,List.append_nil] at this
    have e:bMs m=(m.map bM).sum:=zb7 m
    rw[e,hd]
    simp only[List.map_append,List.sum_append,List.map_cons,List.map_nil,List.sum_cons,List.sum_nil] at this ⊢
    omega
   have hfl:(done++[x]).flatMap (Yh s pa)=a++Yh s pa x:=by rw[List.flatMap_append,← hn];simp
   obtain⟨xn,⟨xk,xq,xs,xl,xml⟩⟩:=x
   have hp:=hpar xn
   have hme:=hmem xn _ hxm
   rw[zr,yo] at hg
   simp only[Yh] at hal hfl
   simp(disch:=omega) only[h1m,hlt,hg,go_sem]
   refine zb fun b17 hb17=>?_
   have hne:b14≠b17:=fun e=>by subst e;rw[hH] at hb17;cases hb17
   have hu:=hs.upd (x:=.cells [.str xn,.int .i64 xk,.int .i64 xq,.str xs,.sl .no 5 (cVs xl),.sl .no 6 (cMs xml)]) hb17
   simp(disch:=omega) only[hH,hne,Ne.symm hne,go_sem]
   refine za hp ?_
   cases hpm:yb pa xn with
   | none =>
    rw[hpm] at hal hfl
    simp(disch:=omega) only[Option.getD,Option.isSome,zW,zV,z8,go_sem]
    refine zb fun b18 hb18=>?_
    have hu2:=hu.upd (x:=.cells [.str [],.str [],.int .i64 0,.int .i64 0,.bool false,.int .i64 0,.int .i64 0,.str [],.sl .no 5 (cVs []),.sl .no 6 (cMs [])]) hb18
    have hne2:b14≠b18:=fun e=>by subst e;simp[zc.upd,hne,hH] at hb18
    simp(disch:=omega) only[go_sem]
    exact goJ (hJ (o1,a) _ ⟨by simp(disch:=omega) only[hH,hne,Ne.symm hne,hne2,Ne.symm hne2,go_sem],by rw[hfl];simp,hu2⟩) (by simp(disch:=omega) only[wrap64,go_sem])
   | some p =>
    rw[hpm] at hal hfl
    simp only at hal hfl
    replace hme:=hme p hpm
    obtain⟨pn,⟨p1,p2,p3⟩,ph,⟨yk,yq,ys,yl,ym⟩⟩:=p
    simp only at hme hal hfl
    simp(disch:=omega) only[Option.getD,Option.isSome,z8,go_sem]
    refine zb fun b18 hb18=>?_
    have hu2:=hu.upd (x:=.cells [.str pn,.str p1,.int .i64 p2,.int .i64 p3,.bool ph,.int .i64 yk,.int .i64 yq,.str ys,.sl .no 5 (cVs yl),.sl .no 6 (cMs ym)]) hb18
    have hne2:b14≠b18:=fun e=>by subst e;simp[zc.upd,hne,hH] at hb18
    have hne3:b17≠b18:=fun e=>by subst e;simp[zc.upd] at hb18
    simp(disch:=omega) only[hH,hne,Ne.symm hne,hne2,Ne.symm hne2,hne3,Ne.symm hne3,go_sem]
    refine zB (hme.2.2 _) fun o2 H2 hs2=>?_
    have hH2:=hs2.kept b14 _ (by simp only[zc.upd,hne,hne2,if_false];exact hH) (fun d e=>by cases e)
    have hu3:=YA hu2 hs2
    simp(disch:=omega) only[go_sem]
    refine zu (by rw[yh];exact hu3.own) ?_ ?_ fun o' H3 hs3=>?_
    ·simp only[yh];omega
    ·simp only[yh,maxLen];omega
    have hH3:=hs3.kept b14 _ hH2 (zeS hu3.own hH2)
    simp only[yh] at hs3
    simp(disch:=omega) only[wrap64,zck,go_sem]
    exact goJ (hJ (o',a++spM s ⟨p1,p2,p3⟩ ph (.mk xk xq xs xl xml)) H3 ⟨hH3,hfl.symm,by rw[Al5];exact hu3.trans hs3⟩) (by simp(disch:=omega) only[wrap64,go_sem])
theorem spC (s:SchD) (t:TyD) (has:Bool) (v:Val) (hs:zJ s≤Lim) (hb:bV v≤Lim) (ht:t.nm.length≤Lim):zgI s t has v (spM s t has v):=ziW ⟨_,spE s hs v _ t has (Al4 _) hb ht⟩
end Go.Proofs.YtbcocdloklbkjaaGreatDoor
namespace Go.Proofs
open Go.Shelf
def Tryz.laysNm222_ren:Go.Shelf.Ren:=⟨fun|22=>246|29=>257|30=>258|36=>268|17=>273|n=>n,fun|24=>40|9=>9|3=>3|4=>4|0=>0|n=>n,fun|n=>n⟩
theorem Tryz.laysNm222:Go.Proofs.Lays2.n22 Tryz.prog Tryz.laysNm222_ren:={
 mixed:=by kernel_rfl
 f17:=Tryz.func273.trans (congrArg some (by kernel_rfl))
 f22:=Tryz.func246.trans (congrArg some (by kernel_rfl))
 f29:=Tryz.func257.trans (congrArg some (by kernel_rfl))
 f30:=Tryz.func258.trans (congrArg some (by kernel_rfl))
 f36:=Tryz.func268.trans (congrArg some (by kernel_rfl))
 t0:=Tryz.underlying0
 a0:=Tryz.isAgg0
 z0:=Tryz.sizeOf0
 v0:=Tryz.zeroValue0
 t3:=Tryz.underlying3
 a3:=Tryz.isAgg3
 z3:=Tryz.sizeOf3
 v3:=Tryz.zeroValue3
 t4:=Tryz.underlying4
 a4:=Tryz.isAgg4
 z4:=Tryz.sizeOf4
 v4:=Tryz.zeroValue4
 t9:=Tryz.underlying9
 a9:=Tryz.isAgg9
 z9:=Tryz.sizeOf9
 v9:=Tryz.zeroValue9
 t24:=Tryz.underlying40
 a24:=Tryz.isAgg40
 z24:=Tryz.sizeOf40
 v24:=Tryz.zeroValue40
 i9:=by kernel_rfl }
end Go.Proofs
namespace Go.Proofs.YtbcocdloklbkjaaGreatDoor
open Go.Ab Go.Lib
theorem Yb (b:Nat) (E:TypeId):∀(vs:List Value) (o:Nat) (cur:List Value) (w:World),w.heap[b]?=some (.cells cur.toArray E (0,0))→o+vs.length≤cur.length →
  w.setCells b o vs=w.setRow b (cur.take o++vs++cur.drop (o+vs.length)).toArray
 | [],o,cur,w,h,hl=>by
  rw[World.setCells,List.append_nil]
  simp only[Al3,Nat.add_zero,List.take_append_drop]
  exact(setRow_self w b _ E _ h).symm
 | v::r,o,cur,w,h,hl=>by
  simp only[Al2] at hl
  have e:(cur.toArray.setIfInBounds o v)=(cur.set o v).toArray:=by simp
  rw[World.setCells,setCell_eq_setRow w b o cur.toArray E (0,0) v h,e,Yb b E r (o+1) (cur.set o v) _ (setRow_heap w b _ _ E _ h) (by rw[List.length_set];omega),setRow_setRow]
  congr 2
  have h1:(cur.set o v).take (o+1)=cur.take o++[v]:=by
   rw[List.take_add_one,List.take_set_of_le (Al4 _)]
   simp[show o<cur.length by omega]
  have h2:(cur.set o v).drop (o+1+r.length)=cur.drop (o+(r.length+1)):=by
   rw[List.drop_set_of_lt (by omega)]
   congr 1;omega
  rw[h1,h2]
  simp[zbM]
def yd (s:List UInt8):Value:=.string ⟨s.toArray⟩
theorem zeM (γ:Gh) (w:World) (xs:List (List UInt8)):zy γ w (xs.map AV.str) (xs.map yd) :=
 ⟨by simp,fun i v h=>by
  rw[Y5] at h
  cases hx:xs[i]? with
  | none=>simp[hx] at h
  | some x=>simp only[hx,zaF,Al1] at h;subst h;rfl,fun i c v hc h=>by
  rw[Y5] at h hc
  cases hx:xs[i]? with
  | none=>simp[hx] at h
  | some x =>
   simp only[hx,zaF,Al1] at h hc
   subst h;subst hc;exact .str x⟩
theorem zeq {γ:Gh} {w:World}:∀ {xs:List (List UInt8)} {sp:List AV} {vs:List Value},zy γ w (xs.map AV.str++sp) vs→∃ spv,vs=xs.map yd++spv∧zy γ w sp spv
 | [],sp,vs,h=>⟨vs,by simp,by simpa using h⟩
 | x::xs,sp,[],h=>by simp[zy] at h
 | x::xs,sp,v::vs,h=>by
  obtain⟨h1,h2,h3⟩:=h
  have hv:=h3 0 _ _ rfl rfl
  obtain⟨spv,e,hf⟩:=zeq (xs:=xs) (sp:=sp) (vs:=vs) (γ:=γ) (w:=w) ⟨by simpa using h1,fun i u hu=>h2 (i+1) u (by simpa using hu),fun i c u hc hu=>h3 (i+1) c u (by simpa using hc) (by simpa using hu)⟩
  refine⟨spv,?_,hf⟩
  cases hv
  rw[e];rfl
theorem zeL (k:Nat):Builtin.zeroCells (Value.string ⟨#[]⟩).cells k=(List.replicate k (yd [])).toArray:=by
 apply Array.ext
 ·simp[Builtin.zeroCells,Value.cells]
 ·intro i h1 h2
  simp[Builtin.zeroCells,Value.cells,Nat.mod_one,yd]
def ze3 (H:zc) (lv:AV) (xs:List (List UInt8)):Prop :=
 (lv=.sl .nil 1 []∧xs=[])∨∃ b cap sp,lv=.ms b 0 xs.length cap∧H b=some (.cells (xs.map AV.str++sp))∧xs.length+sp.length=cap
structure InsS (H:zc) (lv:AV) (H':zc) (lv':AV) (xs':List (List UInt8)):Prop where
 own:ze3 H' lv' xs'
 kept:∀ c x,H c=some x→(∀ n k,lv≠.ms c 0 n k)→H' c=some x
 new:∀ b n k,lv'=.ms b 0 n k→H b=none∨∃ n0 k0,lv=.ms b 0 n0 k0
theorem InsS.refl {H:zc} {lv:AV} {xs:List (List UInt8)} (h:ze3 H lv xs):InsS H lv H lv xs:=⟨h,fun c x hc _=>hc,fun b n k e=>.inr ⟨n,k,e⟩⟩
theorem InsS.trans {H H1 H2:zc} {lv l1 l2:AV} {xs ys:List (List UInt8)} (h:InsS H lv H1 l1 xs) (h':InsS H1 l1 H2 l2 ys):InsS H lv H2 l2 ys:=by
 refine⟨h'.own,fun c x hc hn=>h'.kept c x (h.kept c x hc hn) fun n k e=>?_,fun b n k e=>?_⟩
 ·rcases h.new c n k e with h1|⟨n0,k0,h1⟩
  ·rw[hc] at h1;cases h1
  ·exact hn n0 k0 h1
 ·rcases h'.new b n k e with h1|⟨n0,k0,h1⟩
  ·cases hb:H b with
   | none=>exact .inl rfl
   | some x =>
    by_cases hx:∃ n k,lv=.ms b 0 n k
    ·exact .inr hx
    ·have:=h.kept b x hb (fun n k e=>hx ⟨n,k,e⟩);rw[h1] at this;cases this
  ·exact h.new b n0 k0 h1
theorem InsS.upd {H H1:zc} {lv l1:AV} {xs:List (List UInt8)} {b:Nat} {x:AObj} (h:InsS H lv H1 l1 xs) (hb:H1 b=none):InsS H lv (H1.upd b x) l1 xs:=by
 refine⟨?_,fun c y hc hn=>?_,h.new⟩
 ·rcases h.own with h1|⟨b0,cap,sp,e,hb0,hl⟩
  ·exact .inl h1
  ·refine .inr ⟨b0,cap,sp,e,?_,hl⟩
   have hne:b0≠b:=fun e=>by subst e;rw[hb] at hb0;cases hb0
   simp only[zc.upd,hne,if_false];exact hb0
 ·have:=h.kept c y hc hn
  have hne:c≠b:=fun e=>by subst e;rw[hb] at this;cases this
  simp only[zc.upd,hne,if_false];exact this
theorem ztF {γ:Gh} {w W:World} {H:zc} {b:Nat} {cs newA:List AV} {vs new:List Value} {E:TypeId} (hs:zz γ w H) (hb:H b=some (.cells cs)) (hbb:w.heap[b]?=some (.cells vs.toArray E (0,0))) (hk:γ b=.own)
  (hf:zy γ w newA new) (hlen:new.length=vs.length) (hW:W=w.setRow b new.toArray∨W=w.drew.setRow b new.toArray) :
  Ext (fun b=>(H b).isSome=true) γ w γ W∧zz γ W (H.upd b (.cells newA))∧∀ c,((H.upd b (.cells newA)) c).isSome=true→(H c).isSome=true∨w.heap.size≤c:=by
 have hext:Ext (fun c=>c=b) γ w γ W:=by
  rcases hW with rfl|rfl
  ·exact zae hbb (by simpa using hlen) rfl (fun q hq=>by simp[zaN,hk] at hq) (fun _ _=>rfl)
  ·exact(Yr (fun c=>c=b) γ w).trans (zae (F:=fun c=>c=b) (w:=w.drew) hbb (by simpa using hlen) rfl (fun q hq=>by simp[zaN,hk] at hq) (fun _ _=>rfl)) (fun _ _ f=>f)
 have hWb:W.heap[b]?=some (.cells new.toArray E (0,0)):=by
  rcases hW with rfl|rfl
  ·exact za4 w b _ _ E _ hbb
  ·exact za4 w.drew b _ _ E _ hbb
 exact⟨hext.weaken fun c e=>by subst e;simp[hb],za2 hs hext (.cells _ _ E hk hWb hf.1 hf.2.1 fun i c v hc hv=>(hf.2.2 i c v hc hv).mono hext.mono),zaU (by simp[hb])⟩
theorem zrD {γ:Gh} {w W:World} {H:zc} {newA:List AV} {new:List Value} {E:TypeId} (hs:zz γ w H)
  (hf:∀ γ w,zy γ w newA new) (hext:Ext (fun c=>c=w.heap.size) γ w (fun c=>if c=w.heap.size then .own else γ c) W) (hWb:W.heap[w.heap.size]?=some (.cells new.toArray E (0,0))) :
  Ext (fun b=>(H b).isSome=true) γ w (fun c=>if c=w.heap.size then .own else γ c) W∧zz (fun c=>if c=w.heap.size then .own else γ c) W (H.upd w.heap.size (.cells newA))∧∀ c,((H.upd w.heap.size (.cells newA)) c).isSome=true→(H c).isSome=true∨w.heap.size≤c:=by
 have hfr:∀ b,b<w.heap.size→¬ (b=w.heap.size):=fun b h e=>by omega
 have hF:=hf (fun c=>if c=w.heap.size then .own else γ c) W
 refine⟨⟨hext.mono,hext.os,hext.output,hext.frozen,fun b hb _=>hext.frame b hb (hfr b hb)⟩,za2 hs hext (.cells _ _ E (by simp) hWb hF.1 hF.2.1 hF.2.2),ZB⟩
theorem zcr (xs:List (List UInt8)):∀ v∈xs.map yd,v.oneCell'=true:=fun v hv=>by
 obtain⟨x,_,rfl⟩:=List.mem_map.1 hv;rfl
theorem zf7 {w:World} {b o:Nat} {arr:Array Value} {E:TypeId} {fr:Nat×Nat} (h:w.heap[b]?=some (.cells arr E fr)):w.cell? ⟨b,o,none⟩=arr[o]?:=cell_of_row w b o arr E fr h
theorem zdq {w:World} {b o:Nat} {arr:Array Value} {E:TypeId} (h:w.heap[b]?=some (.cells arr E (0,0))):w.frozen? ⟨b,o,none⟩=false:=by
 simp[World.frozen?,h]
def zcd (H:zc) (γ:Gh) (w:World) (lv:AV) (xs':List (List UInt8)) (e:Ending) (W:World):Prop :=
 ∃ γ' H' r,Ext (fun b=>(H b).isSome=true) γ w γ' W∧zz γ' W H'∧(∀ b,(H' b).isSome=true→(H b).isSome=true∨w.heap.size≤b)∧zlJ γ' W e r∧(match r with|.ret v=>InsS H lv H' v xs'|.pan _=>False)
theorem zit (xs:List (List UInt8)) (nm:List UInt8) {i:Nat} (hi:i≤xs.length):(xs.take i++nm::xs.drop i).length=xs.length+1:=by
 simp only[Al5,Al2,List.length_take,zfR];omega
theorem zke {H:zc} {γ:Gh} {w W:World} {b cap i:Nat} {xs:List (List UInt8)} {nm:List UInt8} {a0:AV} {spa:List AV} {s0:Value} {spt:List Value} {E:TypeId} {e:Ending} (hs:zz γ w H) (hb:H b=some (.cells (xs.map AV.str++a0::spa)))
  (hbb:w.heap[b]?=some (.cells (xs.map yd++s0::spt).toArray E (0,0))) (hk:γ b=.own) (hspf:zy γ w spa spt) (hi:i≤xs.length) (hroom:xs.length+1≤cap) (hm:cap≤maxLen) (hsp:xs.length+1+spa.length=cap) (hlt:b<w.heap.size)
  (he:e=Ending.returned (.slice (some ⟨b,0,none⟩) (xs.length+1) cap)) (hW:W=w.setRow b ((xs.take i++nm::xs.drop i).map yd++spt).toArray∨W=w.drew.setRow b ((xs.take i++nm::xs.drop i).map yd++spt).toArray) :
  zcd H γ w (.ms b 0 xs.length cap) (xs.take i++nm::xs.drop i) e W:=by
 have hnl:=zit xs nm hi
 obtain⟨g1,g2,g3⟩:=ztF hs hb hbb hk ((zeM γ w (xs.take i++nm::xs.drop i)).append hspf) (by rw[Al5,List.length_map,hnl];simp only[Al5,List.length_map,Al2];omega) hW
 have hsz:W.heap.size=w.heap.size:=by
  rcases hW with h|h
  ·rw[h,setRow_size]
  ·rw[h,setRow_size];rfl
 refine⟨γ,_,.ret (.ms b 0 (xs.length+1) cap),g1,g2,g3,by rw[he];exact .ms _ _ _ _ (by omega) hroom hm,.inr ⟨b,cap,spa,by rw[hnl],upd_same ..,by rw[hnl];exact hsp⟩,fun c x hc hn=>?_,fun c n k e=>?_⟩
 ·have:c≠b:=fun e=>by subst e;exact hn _ _ rfl
  simp only[zc.upd,this,if_false];exact hc
 ·cases e;exact .inr ⟨_,_,rfl⟩
theorem zgG {H:zc} {γ:Gh} {w W:World} {G i:Nat} {xs:List (List UInt8)} {nm:List UInt8} {lv:AV} {E:TypeId} {e:Ending} (hs:zz γ w H) (hi:i≤xs.length) (hG:xs.length+1≤G) (hGm:G≤maxLen)
  (he:e=Ending.returned (.slice (some ⟨w.heap.size,0,none⟩) (xs.length+1) G)) (hext:Ext (fun c=>c=w.heap.size) γ w (fun c=>if c=w.heap.size then .own else γ c) W)
  (hWb:W.heap[w.heap.size]?=some (.cells ((xs.take i++nm::xs.drop i).map yd++(List.replicate (G-(xs.length+1)) []).map yd).toArray E (0,0))):zcd H γ w lv (xs.take i++nm::xs.drop i) e W:=by
 obtain⟨g1,g2,g3⟩:=zrD (newA:=(xs.take i++nm::xs.drop i).map AV.str++(List.replicate (G-(xs.length+1)) []).map AV.str) hs (fun γ w=>(zeM γ w _).append (zeM γ w _)) hext hWb
 have hsz:w.heap.size<W.heap.size:=(zcC.1 hWb).1
 have hnl:=zit xs nm hi
 refine⟨_,_,.ret (.ms w.heap.size 0 (xs.length+1) G),g1,g2,g3,by rw[he];exact .ms _ _ _ _ hsz hG hGm,.inr ⟨w.heap.size,G,_,by rw[hnl],upd_same ..,by rw[hnl,List.length_map,List.length_replicate];omega⟩,fun c x hc _=>?_,fun b n k e=>?_⟩
 ·have:c≠w.heap.size:=fun e=>by have:=(hs c x hc).lt;omega
  simp only[zc.upd,this,if_false];exact hc
 ·cases e
  cases hx:H w.heap.size with
  | none=>exact .inl rfl
  | some x=>have:=(hs _ x hx).lt;omega
section
variable {H:zc} {γ:Gh} {w:World} {vb:Nat} {Ev:TypeId} {nm:List UInt8}
theorem zeo (hvbb:w.heap[vb]?=some (.cells [yd nm].toArray Ev (0,0))):∀ j v,[yd nm][j]?=some v→w.cell? ⟨vb,0+j,none⟩=some v:=fun j v h=>by rw[Nat.zero_add,zf7 hvbb];simpa using h
theorem zrG (hs:zz γ w H) (hvbb:w.heap[vb]?=some (.cells [yd nm].toArray Ev (0,0))) :
  Calls Tryz.prog 246 #[.slice none 0 0,.int .i64 0,.slice (some ⟨vb,0,none⟩) 1 1] w fun e W=>zcd H γ w (.sl .nil 1 []) [nm] e W:=by
 have h:=Any2.slices_Insert_string_end_grow Tryz.laysNm222 none 0 0 vb 0 1 1 [] [yd nm] w (by omega) (by omega) (by omega) (by omega) rfl rfl (fun _=>rfl) (fun a h=>by cases h) (zeo hvbb) (zcr [nm])
 refine Calls.mono h fun e w' ⟨he,hw⟩=>?_
 have hG:=grownCap_ge w (0+1) 0 (Tryz.laysNm222_ren.t 9)
 have hGm:=grownCap_le_maxLen w (0+1) 0 (Tryz.laysNm222_ren.t 9) (by simp only[maxLen];omega)
 generalize grownCap w (0+1) 0 (Tryz.laysNm222_ren.t 9)=G at *
 rw[zeL] at hw
 have hw2:w'=w.drew.alloc (.cells (([]:List (List UInt8)).take 0++nm::([]:List (List UInt8)).drop 0 |>.map yd |>.append ((List.replicate (G-(0+1)) []).map yd)).toArray (Tryz.laysNm222_ren.t 9)):=by rw[hw,List.append_toArray,List.map_replicate];rfl
 refine zgG (xs:=[]) (i:=0) (E:=Tryz.laysNm222_ren.t 9) hs (Al4 _) hG hGm he ?_ (by rw[hw2];exact heap_alloc_new w.drew _)
 rw[hw2]
 exact(Yr (fun c=>c=w.heap.size) γ w).trans (Z9 (fun c=>c=w.heap.size) γ w.drew .own _ _) (fun _ _ f=>f)
variable {b cap i:Nat} {xs:List (List UInt8)} {E:TypeId} {spv:List Value}
theorem zlw (hbb:w.heap[b]?=some (.cells (xs.map yd++spv).toArray E (0,0))):∀ j v,(xs.map yd)[j]?=some v→w.cell? ⟨b,0+j,none⟩=some v:=fun j v h=>by
 rw[Nat.zero_add,zf7 hbb,List.getElem?_toArray,zcH (zaA.1 h).1];exact h
theorem zkh (hbb:w.heap[b]?=some (.cells (xs.map yd++spv).toArray E (0,0))) (hfull:(xs.map yd++spv).length=cap):∀ j,j<cap→(w.cell? ⟨b,0+j,none⟩).isSome=true:=fun j hj=>by
 rw[Nat.zero_add,zf7 hbb,List.getElem?_toArray,Al9 (by omega)];rfl
theorem znY {a0:AV} {spa:List AV} {s0:Value} {spt:List Value} (hs:zz γ w H) (hvbb:w.heap[vb]?=some (.cells [yd nm].toArray Ev (0,0))) (hb:H b=some (.cells (xs.map AV.str++a0::spa)))
  (hbb:w.heap[b]?=some (.cells (xs.map yd++s0::spt).toArray E (0,0))) (hk:γ b=.own) (hspf:zy γ w spa spt) (hil:i<xs.length) (hm:cap≤maxLen) (hsp:xs.length+1+spa.length=cap) (hbv:b≠vb) :
  Calls Tryz.prog 246 #[.slice (some ⟨b,0,none⟩) xs.length cap,.int .i64 i,.slice (some ⟨vb,0,none⟩) 1 1] w fun e W=>zcd H γ w (.ms b 0 xs.length cap) (xs.take i++nm::xs.drop i) e W:=by
 have hspl:=hspf.1
 have hfull:(xs.map yd++s0::spt).length=cap:=by simp only[Al5,List.length_map,Al2];omega
 have hlt:b<w.heap.size:=(zcC.1 hbb).1
 have hxl:(xs.map yd).length=xs.length:=List.length_map ..
 have hin:=zkh hbb hfull
 have h:=Any2.slices_Insert_string_shift Tryz.laysNm222 b 0 xs.length cap i vb 0 1 1 (xs.map yd) [yd nm] w hil (by omega) (by omega) hm (Ne.symm hbv) hxl rfl (zlw hbb) (fun j hj=>hin j (by omega)) (fun j _=>zdq hbb) (zeo hvbb) (zcr xs) (zcr [nm]) Ev E 1 cap (by simp only[World.shape?,hvbb];rfl) (by simp only[World.shape?,hbb,List.size_toArray,hfull]) (by omega) (zdq hvbb) (zdq hvbb)
 refine Calls.mono h fun e w' ⟨he,hw⟩=>zke hs hb hbb hk hspf (by omega) (by omega) hm hsp hlt he (.inr ?_)
 have hbbd:w.drew.heap[b]?=some (.cells (xs.map yd++s0::spt).toArray E (0,0)):=hbb
 have hdl:((xs.map yd).drop i).length=xs.length-i:=by rw[zfR,hxl]
 have e2:(xs.map yd++s0::spt).drop (i+1+((xs.map yd).drop i).length)=spt:=by
  rw[hdl,show i+1+(xs.length-i)=(xs.map yd).length+1 by omega,← List.drop_drop,List.drop_left]
  rfl
 have e1:(xs.map yd++s0::spt).take (i+1)=(xs.map yd).take (i+1):=List.take_append_of_le_length (by omega)
 rw[Nat.zero_add,Nat.zero_add,Yb b E _ _ _ _ hbbd (by rw[hdl,hfull];omega),e1,e2] at hw
 have hb3:=setRow_heap w.drew b _ ((xs.map yd).take (i+1)++(xs.map yd).drop i++spt).toArray E _ hbbd
 have e3:((xs.map yd).take (i+1)++(xs.map yd).drop i++spt).take i=(xs.map yd).take i:=by
  rw[zbM,List.take_append_of_le_length (by rw[List.length_take,hxl];omega),List.take_take,Nat.min_eq_left (by omega)]
 have e4:((xs.map yd).take (i+1)++(xs.map yd).drop i++spt).drop (i+[yd nm].length)=(xs.map yd).drop i++spt:=by
  rw[zbM,List.drop_left' (by rw[List.length_take,hxl,List.length_singleton];omega)]
 rw[Yb b E _ _ _ _ hb3 (by simp only[Al5,List.length_take,hdl,hxl,List.length_singleton];omega),setRow_setRow,e3,e4] at hw
 rw[hw]
 congr 2
 rw[List.map_append,List.map_cons,List.map_take,List.map_drop]
 simp only[zbM,List.singleton_append,Al6,zc8]
theorem ziv {a0:AV} {spa:List AV} {s0:Value} {spt:List Value} (hs:zz γ w H) (hvbb:w.heap[vb]?=some (.cells [yd nm].toArray Ev (0,0))) (hb:H b=some (.cells (xs.map AV.str++a0::spa)))
  (hbb:w.heap[b]?=some (.cells (xs.map yd++s0::spt).toArray E (0,0))) (hk:γ b=.own) (hspf:zy γ w spa spt) (hm:cap≤maxLen) (hsp:xs.length+1+spa.length=cap) :
  Calls Tryz.prog 246 #[.slice (some ⟨b,0,none⟩) xs.length cap,.int .i64 xs.length,.slice (some ⟨vb,0,none⟩) 1 1] w fun e W=>zcd H γ w (.ms b 0 xs.length cap) (xs.take xs.length++nm::xs.drop xs.length) e W:=by
 have hspl:=hspf.1
 have hfull:(xs.map yd++s0::spt).length=cap:=by simp only[Al5,List.length_map,Al2];omega
 have hlt:b<w.heap.size:=(zcC.1 hbb).1
 have hxl:(xs.map yd).length=xs.length:=List.length_map ..
 have hin:=zkh hbb hfull
 have h:=Any2.slices_Insert_string_end_room Tryz.laysNm222 b 0 xs.length cap vb 0 1 1 [yd nm] w (by omega) (by omega) hm rfl (fun j hj=>by have:=hin (xs.length+j) (by omega);rwa [show 0+(xs.length+j)=0+xs.length+j by omega] at this) (fun j _=>zdq hbb) (zeo hvbb) (zcr [nm])
 refine Calls.mono h fun e w' ⟨he,hw⟩=>zke hs hb hbb hk hspf (Al4 _) (by omega) hm hsp hlt he (.inl ?_)
 have e1:(xs.map yd++s0::spt).take xs.length=xs.map yd:=List.take_left' hxl
 have e2:(xs.map yd++s0::spt).drop (xs.length+[yd nm].length)=spt:=by
  rw[List.length_singleton,show xs.length+1=(xs.map yd).length+1 by omega,← List.drop_drop,List.drop_left]
  rfl
 rw[Nat.zero_add,Yb b E _ _ _ _ hbb (by rw[hfull,List.length_singleton];omega),e1,e2] at hw
 rw[hw,List.take_length,List.drop_length]
 congr 2
 simp only[List.map_append,List.map_cons,List.map_nil]
theorem ziM (hs:zz γ w H) (hvbb:w.heap[vb]?=some (.cells [yd nm].toArray Ev (0,0)))
  (hbb:w.heap[b]?=some (.cells (xs.map yd++spv).toArray E (0,0))) (hc:xs.length≤cap) (hcl:cap=xs.length) (hlen:xs.length≤1099511627776) :
  Calls Tryz.prog 246 #[.slice (some ⟨b,0,none⟩) xs.length cap,.int .i64 xs.length,.slice (some ⟨vb,0,none⟩) 1 1] w fun e W=>zcd H γ w (.ms b 0 xs.length cap) (xs.take xs.length++nm::xs.drop xs.length) e W:=by
 have hxl:(xs.map yd).length=xs.length:=List.length_map ..
 have hG:=grownCap_ge w (xs.length+1) cap (Tryz.laysNm222_ren.t 9)
 have hGm:=grownCap_le_maxLen w (xs.length+1) cap (Tryz.laysNm222_ren.t 9) (by simp only[maxLen];omega)
 have h:=Any2.slices_Insert_string_end_grow Tryz.laysNm222 (some ⟨b,0,none⟩) xs.length cap vb 0 1 1 (xs.map yd) [yd nm] w (by omega) hc (by omega) (by omega) hxl rfl (fun h=>by cases h) (fun a ha j v hj=>by cases ha;rw[Lib.addr_add];exact zlw hbb j v hj) (zeo hvbb) (zcr [nm])
 generalize grownCap w (xs.length+1) cap (Tryz.laysNm222_ren.t 9)=G at *
 refine Calls.mono h fun e w' ⟨he,hw⟩=>?_
 rw[zeL,List.append_toArray] at hw
 have hw2:w'=w.drew.alloc (.cells ((xs.take xs.length++nm::xs.drop xs.length).map yd++(List.replicate (G-(xs.length+1)) []).map yd).toArray (Tryz.laysNm222_ren.t 9)):=by
  rw[hw,List.take_length,List.drop_length,List.map_replicate,List.map_append,List.map_cons,List.map_nil]
 refine zgG (E:=Tryz.laysNm222_ren.t 9) hs (Al4 _) hG hGm he ?_ (by rw[hw2];exact heap_alloc_new w.drew _)
 rw[hw2]
 exact(Yr (fun c=>c=w.heap.size) γ w).trans (Z9 (fun c=>c=w.heap.size) γ w.drew .own _ _) (fun _ _ f=>f)
theorem zlg {w W:World} {N:Nat} {E:TypeId} {γ:Gh} {A vs us C:List Value} {i j:Nat} (hN:N=w.heap.size) (hw:W=(((w.alloc (.cells A.toArray E)).drew.setCells N i vs).drew).setCells N j us) (h1:i+vs.length≤A.length) (h2:j+us.length≤A.length)
  (hC:(A.take i++vs++A.drop (i+vs.length)).take j++us++(A.take i++vs++A.drop (i+vs.length)).drop (j+us.length)=C) :
  Ext (fun c=>c=w.heap.size) γ w (fun c=>if c=w.heap.size then .own else γ c) W∧W.heap[w.heap.size]?=some (.cells C.toArray E (0,0)):=by
 subst hN
 have hb1:(w.alloc (.cells A.toArray E)).drew.heap[w.heap.size]?=some (.cells A.toArray E (0,0)):=heap_alloc_new w _
 have x1:Ext (fun c=>c=w.heap.size) γ w (fun c=>if c=w.heap.size then .own else γ c) (w.alloc (.cells A.toArray E)).drew:=(Z9 (fun c=>c=w.heap.size) γ w .own A.toArray E).trans (Yr (fun c=>c=w.heap.size) _ _) (fun _ _ f=>f)
 rw[Yb w.heap.size E _ _ A _ hb1 h1] at hw
 generalize hB:A.take i++vs++A.drop (i+vs.length)=B at *
 have hBl:B.length=A.length:=by rw[← hB];simp only[Al5,List.length_take,zfR];omega
 generalize hw1:(w.alloc (.cells A.toArray E)).drew=w1 at *
 have hb2:=setRow_heap w1 w.heap.size A.toArray B.toArray E (0,0) hb1
 have x2:Ext (fun c=>c=w.heap.size) (fun c=>if c=w.heap.size then .own else γ c) w1 (fun c=>if c=w.heap.size then .own else γ c) (w1.setRow w.heap.size B.toArray) :=
  zae (F:=fun c=>c=w.heap.size) hb1 (by simpa using hBl) rfl (fun q hq=>by simp[zaN] at hq) (fun _ _=>rfl)
 generalize w1.setRow w.heap.size B.toArray=w2 at *
 have hb3:w2.drew.heap[w.heap.size]?=some (.cells B.toArray E (0,0)):=hb2
 rw[Yb w.heap.size E _ _ B _ hb3 (by omega),hC] at hw
 have hb4:=setRow_heap w2.drew w.heap.size B.toArray C.toArray E (0,0) hb3
 have hCl:C.length=B.length:=by rw[← hC];simp only[Al5,List.length_take,zfR];omega
 have x3:Ext (fun c=>c=w.heap.size) (fun c=>if c=w.heap.size then .own else γ c) w2.drew (fun c=>if c=w.heap.size then .own else γ c) (w2.drew.setRow w.heap.size C.toArray) :=
  zae (F:=fun c=>c=w.heap.size) hb3 (by simpa using hCl) rfl (fun q hq=>by simp[zaN] at hq) (fun _ _=>rfl)
 rw[← hw] at hb4 x3
 exact⟨((x1.trans x2 (fun _ _ f=>f)).trans (Yr (fun c=>c=w.heap.size) _ w2) (fun _ _ f=>f)).trans x3 (fun _ _ f=>f),hb4⟩
theorem zpS (hs:zz γ w H) (hvbb:w.heap[vb]?=some (.cells [yd nm].toArray Ev (0,0)))
  (hbb:w.heap[b]?=some (.cells (xs.map yd++spv).toArray E (0,0))) (hc:xs.length≤cap) (hcl:cap=xs.length) (hil:i<xs.length) (hlen:xs.length≤1099511627776) :
  Calls Tryz.prog 246 #[.slice (some ⟨b,0,none⟩) xs.length cap,.int .i64 i,.slice (some ⟨vb,0,none⟩) 1 1] w fun e W=>zcd H γ w (.ms b 0 xs.length cap) (xs.take i++nm::xs.drop i) e W:=by
 have hxl:(xs.map yd).length=xs.length:=List.length_map ..
 have hG:=grownCap_ge w (xs.length+1) cap (Tryz.laysNm222_ren.t 9)
 have hGm:=grownCap_le_maxLen w (xs.length+1) cap (Tryz.laysNm222_ren.t 9) (by simp only[maxLen];omega)
 have h:=Any2.slices_Insert_string_grow Tryz.laysNm222 b 0 xs.length cap i vb 0 1 1 (xs.map yd) [yd nm] w hil (by omega) hc (by omega) (by omega) hxl rfl (zlw hbb) (zeo hvbb) (zcr xs) (zcr [nm])
 generalize grownCap w (xs.length+1) cap (Tryz.laysNm222_ren.t 9)=G at *
 refine Calls.mono h fun e w' ⟨he,hw⟩=>?_
 rw[zeL,zeL,List.append_toArray,List.append_toArray] at hw
 have hl1:((xs.map yd).take i).length=i:=by rw[List.length_take,hxl];omega
 have hdl:((xs.map yd).drop i).length=xs.length-i:=by rw[zfR,hxl]
 obtain⟨g1,g2⟩:=zlg (γ:=γ) (C:=(xs.take i++nm::xs.drop i).map yd++(List.replicate (G-(xs.length+1)) []).map yd) rfl hw (by simp only[Al5,hl1,List.length_replicate,List.length_singleton];omega) (by simp only[Al5,hl1,hdl,List.length_replicate];omega) (by
  have t1:((xs.map yd).take i++List.replicate (xs.length+1-i) (yd [])++List.replicate (G-(xs.length+1)) (yd [])).take i=(xs.map yd).take i:=by rw[zbM,List.take_left' hl1]
  rw[t1]
  have t2:((xs.map yd).take i++[yd nm]++((xs.map yd).take i++List.replicate (xs.length+1-i) (yd [])++List.replicate (G-(xs.length+1)) (yd [])).drop (i+[yd nm].length)).take (i+1)=(xs.map yd).take i++[yd nm]:=List.take_left' (by rw[Al5,hl1];rfl)
  rw[t2]
  have t3:((xs.map yd).take i++[yd nm]++((xs.map yd).take i++List.replicate (xs.length+1-i) (yd [])++List.replicate (G-(xs.length+1)) (yd [])).drop (i+[yd nm].length)).drop (i+1+((xs.map yd).drop i).length)=List.replicate (G-(xs.length+1)) (yd []):=by
   rw[← List.drop_drop,List.drop_left' (by rw[Al5,hl1];rfl),List.drop_drop,List.drop_left' (by simp only[Al5,hl1,hdl,List.length_replicate,List.length_singleton];omega)]
  rw[t3,List.map_append,List.map_cons,List.map_take,List.map_drop,List.map_replicate]
  simp only[zbM,List.singleton_append,Al6,zc8])
 exact zgG (E:=Tryz.laysNm222_ren.t 9) hs (by omega) hG hGm he g1 g2
end
theorem zvj (H:zc) (lv:AV) (xs:List (List UInt8)) (i:Nat) (nm:List UInt8) (vb:Nat) (hl:ze3 H lv xs) (hi:i≤xs.length) (hvb:H vb=some (.cells [.str nm])) (hne:∀ b n c,lv=.ms b 0 n c→b≠vb) (hlen:xs.length≤1099511627776) :
  zj Tryz.prog 246 [lv,.int .i64 i,.ms vb 0 1 1] H (fun e H'=>match e with|.ret v=>InsS H lv H' v (xs.take i++nm::xs.drop i)|.pan _=>False):=by
 intro γ w vs ht hs hv
 obtain⟨hlv,hr⟩:=hv
 match vs,hlv with
 | [v0,v1,v2],_ =>
  have r0:=hr 0 _ _ rfl rfl
  cases hr 1 _ _ rfl rfl
  cases hr 2 _ _ rfl rfl
  have hvo:=hs vb _ hvb
  cases hvo with
  | cells _ vv Ev hkv hvbb hvl hv1 hvr =>
  obtain⟨z,ez,hz⟩:=zeq (xs:=[nm]) (sp:=[]) (γ:=γ) (w:=w) (vs:=vv) ⟨by simpa using hvl,hv1,fun i c v hc hv=>hvr i c v (by simpa using hc) hv⟩
  obtain rfl:z=[]:=List.eq_nil_of_length_eq_zero (by simpa using hz.1.symm)
  obtain rfl:vv=[yd nm]:=by simpa using ez
  rcases hl with ⟨rfl,rfl⟩|⟨b,cap,sp,rfl,hb,hsp⟩
  ·obtain rfl:i=0:=by simpa using hi
   have e0:v0=.slice none 0 0:=by
    cases r0 with
    | slnil _ _ ho=>rfl
    | sl0 _ _ a ho=>rcases ho with h|h<;>cases h
    | sl _ _ _ b off cap cv hc hm hu hcell hrr ho=>exact False.elim ho
   subst e0
   exact zrG hs hvbb
  ·have hbo:=hs b _ hb
   cases hbo with
   | cells _ bv E hk hbb hbl hb1 hbr =>
   have hbv:b≠vb:=hne _ _ _ rfl
   obtain⟨spv,rfl,hspf⟩:=zeq (xs:=xs) (sp:=sp) (γ:=γ) (w:=w) ⟨hbl,hb1,hbr⟩
   have hspl:=hspf.1
   cases r0 with
   | ms _ _ _ _ hlt hc hm =>
   cases spv with
   | nil =>
    rw[Al3] at hspl
    by_cases hil:i<xs.length
    ·exact zpS hs hvbb hbb hc (by omega) hil hlen
    ·obtain rfl:i=xs.length:=by omega
     exact ziM hs hvbb hbb hc (by omega) hlen
   | cons s0 spt =>
    cases sp with
    | nil=>rw[Al3,Al2] at hspl;omega
    | cons a0 spa =>
     have hspf':zy γ w spa spt:=⟨by simpa using hspf.1,fun i v h=>hspf.2.1 (i+1) v (by simpa using h),fun i c v hc h=>hspf.2.2 (i+1) c v (by simpa using hc) (by simpa using h)⟩
     rw[Al2] at hsp
     by_cases hil:i<xs.length
     ·exact znY hs hvbb hb hbb hk hspf' hil hm (by omega) hbv
     ·obtain rfl:i=xs.length:=by omega
      exact ziv hs hvbb hb hbb hk hspf' hm (by omega)
end Go.Proofs.YtbcocdloklbkjaaGreatDoor
namespace Go.Proofs.YtbcocdloklbkjaaGreatDoor
open Go.Ab
theorem zmy:∀ xs:List (List UInt8),(cT xs).flatten=xs.map AV.str
 | []=>rfl
 | x::r=>by
  have:=zmy r
  simp only[cT,List.map_cons,List.flatten_cons] at this ⊢
  rw[this];rfl
theorem ze3.freeze {γ:Gh} {w:World} {H:zc} {lv:AV} {xs:List (List UInt8)} {v:Value} (hs:zz γ w H) (h:ze3 H lv xs) (hr:Rep γ w lv v) :
  ∃ γ' H',(∀ c,γ' c=γ c∨(γ' c=.imm∧γ c=.own∧∃ n k,lv=.ms c 0 n k))∧zz γ' w H'∧(∀ c x,H c=some x→(∀ n k,lv≠.ms c 0 n k)→H' c=some x)∧(∀ c x,H' c=some x→H c=some x)∧Rep γ' w (.sl .no 1 (cT xs)) v:=by
 rcases h with ⟨rfl,rfl⟩|⟨b,cap,sp,rfl,hb,hsp⟩
 ·exact⟨γ,H,fun c=>.inl rfl,hs,fun c x hc _=>hc,fun c x hc=>hc,hr.strip1⟩
 ·cases hs b _ hb with
  | cells _ vs E hk hbb hl hone hrr =>
  cases hr with
  | ms _ _ _ _ hlt hc hm =>
  have m:Mono γ w (fun c=>if c=b then .imm else γ c) w:=⟨Al4 _,fun c q u hu hp=>⟨by by_cases e:c=b<;>simp[zaN,e] at hp ⊢;exact hp,hu⟩,fun c arr E fr hc=>⟨arr,hc,rfl⟩⟩
  obtain⟨spv,rfl,hspf⟩:=zeq (xs:=xs) (sp:=sp) (γ:=γ) (w:=w) ⟨hl,hone,hrr⟩
  refine⟨fun c=>if c=b then .imm else γ c,H.del b,fun c=>?_,fun c x hc=>?_,fun c x hc hn=>?_,fun c x hc=>?_,?_⟩
  ·by_cases e:c=b
   ·subst e;exact .inr ⟨by simp,hk,_,_,rfl⟩
   ·exact .inl (by simp[e])
  ·unfold zc.del at hc
   split at hc
   ·cases hc
   ·rename_i e
    exact(hs c x hc).kept m (by simp[e]) rfl
  ·have:c≠b:=fun e=>by subst e;exact hn _ _ rfl
   simp only[zc.del,this,if_false];exact hc
  ·unfold zc.del at hc
   split at hc
   ·cases hc
   ·exact hc
  ·have e1:=zmy xs
   have hF:=zeM (fun c=>if c=b then .imm else γ c) w xs
   have key:Rep (fun c=>if c=b then .imm else γ c) w (.sl .no 1 (cT xs)) (.slice (some ⟨b,0,none⟩) (cT xs).length cap):=by
    refine Rep.sl_flat (us:=xs.map yd) (fun x hx=>?_) (by rw[e1];simp) (fun j u hj=>?_) (fun j c u hc hj=>?_) (by rw[zK];exact hc) hm trivial
    ·rw[cT] at hx
     obtain⟨y,_,rfl⟩:=List.mem_map.1 hx;rfl
    ·refine⟨?_,by simp[zaN],hF.2.1 j u hj⟩
     rw[Nat.zero_add,zf7 hbb,List.getElem?_toArray,zcH (zaA.1 hj).1];exact hj
    ·rw[e1] at hc
     exact hF.2.2 j c u hc hj
   rw[zK] at key
   exact key
theorem zj.frozen {P:Program} {f:FuncId} {args:List AV} {H:zc} {xs:List (List UInt8)} (h:zj P f args H (fun e H'=>match e with|.ret v=>InsS H (.sl .nil 1 []) H' v xs|.pan _=>False)) :
  zj P f args H (fun e H'=>match e with|.ret v=>v=.sl .no 1 (cT xs)∧∀ c x,H c=some x→H' c=some x|.pan _=>False):=by
 intro γ w vs ht hs hv
 refine(h γ w vs ht hs hv).mono fun e w' ⟨γ',H',r,hext,hst,hkeys,hend,hq⟩=>?_
 cases r with
 | pan v=>exact hq.elim
 | ret lv =>
  simp only at hq
  cases e with
  | panicked ch=>exact hend.elim
  | outgrown=>exact hend.elim
  | returned v =>
   have hr:Rep γ' w' lv v:=hend
   obtain⟨γ2,H2,g1,g2,g3,g4,g5⟩:=hq.own.freeze hst hr
   have hnew:∀ c n k,lv=.ms c 0 n k→w.heap.size≤c:=fun c n k e=>by
    rcases hq.new c n k e with h1|⟨n0,k0,h1⟩
    ·rcases hq.own with ⟨h2,_⟩|⟨b,cap,sp,h2,hb,_⟩
     ·rw[h2] at e;cases e
     ·rw[h2] at e
      cases e
      rcases hkeys _ (by rw[hb];rfl) with h3|h3
      ·rw[h1] at h3;cases h3
      ·exact h3
    ·cases h1
   have hsame:∀ c,c<w.heap.size→γ2 c=γ' c:=fun c hc=>by
    rcases g1 c with h1|⟨_,_,n,k,h1⟩
    ·exact h1
    ·have:=hnew c n k h1;omega
   have hprot:∀ c o,zaN γ' c o→zaN γ2 c o:=fun c o hp=>by
    rcases g1 c with h1|⟨h1,h2,_⟩
    ·simpa[zaN,h1] using hp
    ·simp[zaN,h2] at hp
   refine⟨γ2,H2,.ret (.sl .no 1 (cT xs)),⟨⟨hext.mono.size,fun c o v hc hp=>?_,hext.mono.shape⟩,hext.os,hext.output,hext.frozen,fun c hc hn=>?_⟩,g2,fun c hc=>?_,g5,rfl,fun c x hc=>?_⟩
   ·obtain⟨h1,h2⟩:=hext.mono.cell c o v hc hp
    exact⟨hprot c o h1,h2⟩
   ·obtain⟨h1,h2⟩:=hext.frame c hc hn
    exact⟨(hsame c hc).trans h1,h2⟩
   ·cases hx:H2 c with
    | none=>rw[hx] at hc;cases hc
    | some x=>exact hkeys c (by rw[g4 c x hx];rfl)
   ·exact g3 c x (hq.kept c x hc fun n k e=>by cases e) fun n k e=>by have:=hnew c n k e;have:=(hs c x hc).lt;omega
theorem ze3.ne {H:zc} {lv:AV} {xs:List (List UInt8)} {b:Nat} (h:ze3 H lv xs) (hb:H b=none):∀ n k,lv≠.ms b 0 n k:=fun n k e=>by
 rcases h with ⟨h,_⟩|⟨b0,cap,sp,h,h2,_⟩
 ·rw[h] at e;cases e
 ·rw[h] at e;cases e
  rw[hb] at h2;cases h2
theorem ze3.upd {H:zc} {lv:AV} {xs:List (List UInt8)} {b:Nat} {x:AObj} (h:ze3 H lv xs) (hb:H b=none):ze3 (H.upd b x) lv xs:=((InsS.refl h).upd hb).own
def zbB (nm:List UInt8):List (List UInt8)→Nat→Option Nat
 | [],k=>some k
 | s::r,k=>if Op.bytesLess s nm=true then zbB nm r (k+1) else if s=nm then none else some k
theorem zgO (nm:List UInt8):∀(l:List (List UInt8)) (k j:Nat),zbB nm l k=some j→j≤k+l.length
 | [],k,j,h=>by simp only[zbB,Al1] at h;simp;omega
 | s::r,k,j,h=>by
  simp only[zbB] at h
  split at h
  ·have:=zgO nm r _ _ h;simp only[Al2];omega
  ·split at h
   ·cases h
   ·simp only[Al1] at h;omega
def zev (l:List (List UInt8)) (nm:List UInt8):List (List UInt8):=match zbB nm l 0 with|none=>l|some k=>l.take k++nm::l.drop k
theorem zkO (l:List (List UInt8)) (nm:List UInt8):(zev l nm).length≤l.length+1:=by
 unfold zev
 split
 ·omega
 ·rename_i k hk
  have:=zgO nm l 0 k hk
  rw[zit l nm (by omega)];omega
abbrev zlz (H:zc) (lv:AV) (xs':List (List UInt8)):AEnd→zc→Prop:=fun e H'=>match e with|.ret v=>InsS H lv H' v xs'|.pan _=>False
theorem zaV {P:Program} {KP:AV→zc→Prop} {Q:AExit→Env→zc→Prop} {st:List Fr} {ρ:Env} {H:zc} {all l:List AItem} {d:Option Nat} {R:List Chk} {f:FuncId} {args:List AV} {lv:AV} {xs:List (List UInt8)}
  (h:zj P f args H (zlz H lv xs)) (hk:∀ v H',InsS H lv H' v xs→goR P KP Q all l st R (ρ.set d v) H'):goK P KP Q all l st d R ρ f args H :=
 yH (XP:=fun _ _=>False) h hk (fun _ _ h=>h.elim)
theorem zrj (H:zc) (lv:AV) (l:List (List UInt8)) (nm:List UInt8) (hl:ze3 H lv l) (hlen:l.length≤1099511627776):zj Tryz.prog 227 [lv,.str nm] H (zlz H lv (zev l nm)):=by
 have e0:zev l nm=match zbB nm l 0 with|none=>l|some k=>l.take k++nm::l.drop k:=rfl
 have hle:=zgO nm l 0
 have hI:=fun(k:Nat) (b:Nat) (hk:k≤l.length) (hb:H b=none)=>zvj (H.upd b (.cells [.str nm])) lv l k nm b (hl.upd hb) hk (upd_same ..) (fun b' n c e e2=>hl.ne hb n c (by rw[← e2];exact e)) hlen
 have fin2:∀ b k v H2,H b=none→zbB nm l 0=some k→InsS (H.upd b (.cells [.str nm])) lv H2 v (l.take k++nm::l.drop k)→InsS H lv H2 v (zev l nm):=fun b k v H2 hb hk h=>by
  rw[e0,hk]
  exact((InsS.refl hl).upd hb).trans h
 unfold zlz
 rcases hl with ⟨rfl,rfl⟩|⟨b,cap,sp,rfl,hb,hsp⟩
 ·refine zj.goO ir227 ck227 (Al4 _) fun KP Q hQ hP=>?_
  simp(disch:=omega) only[ir227,go_sem]
  refine zf ([]:List Nat) 10 (fun _:Unit=>[(5,.int .i64 0)]) (fun _ _ _ H'=>H'=H) () (by simp(disch:=omega) only[go_sem]) rfl ?_ ?_
  ·rintro _ H1 J rfl hlt
   simp(disch:=omega) only[hlt,go_sem]
   refine zb fun bv hbv=>?_
   simp(disch:=omega) only[go_sem]
   refine zaV (hI 0 bv (Al4 _) hbv) fun v H2 hI2=>?_
   simp(disch:=omega) only[go_sem]
   exact hQ _ _ H2 H2 [v] nofun rfl (Low.refl _) (fin2 bv 0 v H2 hbv rfl hI2)
  ·rintro done x rest _ H1 J hd hlt _ _ _
   simp at hd
 ·refine zj.goO ir227 ck227 (Al4 _) fun KP Q hQ hP=>?_
  simp(disch:=omega) only[ir227,go_sem]
  refine zf l 10 (fun k:Nat=>[(5,.int .i64 k)]) (fun done rest k H'=>H'=H∧k=done.length∧zbB nm rest k=zbB nm l 0) 0 (by simp(disch:=omega) only[go_sem]) ⟨rfl,rfl,rfl⟩ ?_ ?_
  ·rintro k H1 J ⟨rfl,hk,hn⟩ hlt
   simp only[zbB] at hn
   simp(disch:=omega) only[hlt,go_sem]
   refine zb fun bv hbv=>?_
   simp(disch:=omega) only[go_sem]
   refine zaV (hI k bv (by omega) hbv) fun v H2 hI2=>?_
   simp(disch:=omega) only[go_sem]
   exact hQ _ _ H2 H2 [v] nofun rfl (Low.refl _) (fin2 bv k v H2 hbv hn.symm hI2)
  ·rintro done x rest k H1 J hd hlt hlt2 ⟨rfl,hk,hn⟩ hJ
   have hg:((l.map AV.str++sp).drop (0+done.length*1)).take 1=[.str x]:=by rw[hd];simp
   have hcl:0+done.length*1+1≤(l.map AV.str++sp).length:=by simp;omega
   simp only[zbB] at hn
   cases hx:Op.bytesLess x nm with
   | true =>
    rw[hx,if_pos rfl] at hn
    simp(disch:=omega) only[hlt,hb,hg,hcl,hx,go_sem]
    exact goJ (hJ (k+1) _ ⟨rfl,by simp[hk],hn⟩) (by simp(disch:=omega) only[wrap64,hk,go_sem];simp)
   | false =>
    rw[hx,if_neg (by simp)] at hn
    by_cases hxe:x=nm
    ·have hxe':=eq_true hxe
     rw[if_pos hxe] at hn
     simp(disch:=omega) only[hlt,hb,hg,hcl,hx,hxe',go_sem]
     refine hQ _ _ H1 H1 [.ms b 0 l.length cap] nofun rfl (Low.refl _) ?_
     rw[e0,← hn]
     exact InsS.refl (.inr ⟨b,cap,sp,rfl,hb,hsp⟩)
    ·rw[if_neg hxe] at hn
     simp(disch:=omega) only[hlt,hb,hg,hcl,hx,hxe,go_sem]
     refine zb fun bv hbv=>?_
     simp(disch:=omega) only[go_sem]
     refine zaV (hI k bv (by omega) hbv) fun v H2 hI2=>?_
     simp(disch:=omega) only[go_sem]
     exact hQ _ _ H2 H2 [v] nofun rfl (Low.refl _) (fin2 bv k v H2 hbv hn.symm hI2)
theorem zoS {x:Mem}:∀ {l:List Mem},x∈l→bM x≤bMs l
 | y::l,h=>by
  rcases List.mem_cons.1 h with rfl|h
  ·simp only[bMs];omega
  ·have:=zoS h;simp only[bMs];omega
theorem zor (s:SchD) (ps:List VarD) (m:Mem) (hs:zJ s≤Lim) (hps:bWs ps≤Lim) (hb:bM m≤Lim):(Yh s ps m).length≤bM m∧∀ y∈Yh s ps m,y.t.nm.length≤Lim:=by
 obtain⟨n,v⟩:=m
 simp only[bM] at hb
 simp only[Yh]
 cases hp:yb ps n with
 | none=>simp
 | some p =>
  have hpm:p∈ps:=List.mem_of_find?_eq_some hp
  have:=spC s p.t p.has v hs (by omega) (by have:=Ys hpm;simp only[bW] at this;omega)
  exact⟨Nat.le_trans this.1 (by simp only[bM];omega),this.2.1⟩
noncomputable def zhl (s:SchD) (ps:List VarD) (l:List Mem):List SpotD:=l.flatMap (Yh s ps)
theorem ziN (s:SchD) (ps:List VarD) (l:List Mem) (hs:zJ s≤Lim) (hps:bWs ps≤Lim) (hb:bMs l≤Lim):(zhl s ps l).length≤bMs l∧∀ y∈zhl s ps l,y.t.nm.length≤Lim:=by
 have h:∀ x∈l,_:=fun x hx=>zor s ps x hs hps (by have:=zoS hx;omega)
 refine⟨?_,fun y hy=>?_⟩
 ·have:=zcX (f:=Yh s ps) (g:=bM) l fun x hx=>(h x hx).1
  rw[← zb7] at this;exact this
 ·obtain⟨x,hx,hy⟩:=List.mem_flatMap.1 hy
  exact(h x hx).2 y hy
theorem zmS (a b:List Mem) (x:Mem):bMs (a++x::b)=bMs (a++[x])+bMs b:=by
 simp only[zb7,List.map_append,List.map_cons,List.map_nil,List.sum_append,List.sum_cons,List.sum_nil];omega
theorem zsG (s:SchD) (ps:List VarD) (l:List Mem) (H:zc) (hs:zJ s≤Lim) (hps:bWs ps≤Lim) (hb:bMs l≤Lim):Y8 Tryz.prog 206 [.agg (zq s),.sl .no 10 (cWs ps),.sl .no 6 (cMs l)] H .nil 5 (cPs (zhl s ps l)):=by
 have hml:=Ze l
 have h1m:=Za l
 have hEl:=yS ps
 have hb':=hb
 simp only[Lim] at hb'
 have hpar:=fun n=>zdT ps n (by omega)
 have hmem:∀ n x,Mem.mk n x∈l→∀ p,yb ps n=some p→zgI s p.t p.has x (spM s p.t p.has x):=fun n x hx p hp=>by
  have hxb:bV x≤Lim:=by have:=zed hx;omega
  have hpm:p∈ps:=List.mem_of_find?_eq_some hp
  have hpt:p.t.nm.length≤Lim:=by have:=Ys hpm;simp only[bW] at this;omega
  exact spC s p.t p.has x hs hxb hpt
 have e0:zhl s ps l=l.flatMap (Yh s ps):=rfl
 have hgl:=fun a (h:bMs a≤Lim)=>(ziN s ps a hs hps h).1
 simp only[zhl] at hgl
 generalize zhl s ps l=F at *
 simp only[zgI] at hmem
 obtain⟨sd,sq,sm⟩:=s
 generalize hS:(⟨sd,sq,sm⟩:SchD)=s at *
 have hcs:zq s=[.sl .no 6 (cEs sd),.str sq,.str sm]:=by rw[← hS];rfl
 simp only[hcs] at hmem ⊢
 refine zj.goO ir206 ck206 (Al4 _) fun KP Q hQ hP=>?_
 have fin:∀ r o,F=r→∀ ρ H1,zN ρ H1 ir206.res=some [.sl o 5 (cPs r)]→OwnS H .nil H1 o r.length 5→Q .ret ρ H1:=fun r o e ρ H1 h1 h2=>hQ _ ρ H1 H1 _ nofun h1 (Low.refl _) ⟨o,by rw[e];rfl,by rw[e,yh];exact h2⟩
 simp(disch:=omega) only[ir206,h1m,go_sem]
 refine zf l 14 (fun x:Own×List SpotD=>[(7,.sl x.1 5 (cPs x.2))]) (fun done rest x H'=>x.2=done.flatMap (Yh s ps)∧OwnS H .nil H' x.1 x.2.length 5) (.nil,[]) (by simp(disch:=omega) only[cPs,List.map,go_sem]) ⟨rfl,OwnS.refl (o:=.nil) (n:=0) rfl⟩ ?_ ?_
 ·rintro⟨o1,a⟩ H1 J ⟨hn,hs⟩ hlt
  simp only at hn
  subst hn
  simp(disch:=omega) only[h1m,hlt,go_sem]
  exact fin _ o1 e0 _ _ rfl hs
 ·rintro done x rest ⟨o1,a⟩ H1 J hd hlt _ ⟨hn,hs⟩ hJ
  have hg:=Zs hd
  have hxm:x∈l:=by rw[hd];simp
  simp only at hn
  replace hs:OwnS H .nil H1 o1 a.length 5:=hs
  have hfl:(done++[x]).flatMap (Yh s ps)=a++Yh s ps x:=by rw[List.flatMap_append,← hn];simp
  have hal:a.length+(Yh s ps x).length≤bMs l:=by
   have e:=zmS done rest x
   rw[← hd] at e
   have:=hgl (done++[x]) (by omega)
   rw[hfl,Al5] at this
   omega
  obtain⟨xn,⟨xk,xq,xs,xl,xml⟩⟩:=x
  have hp:=hpar xn
  have hme:=hmem xn _ hxm
  rw[zr,yo] at hg
  simp only[Yh] at hal hfl
  simp(disch:=omega) only[h1m,hlt,hg,go_sem]
  refine zb fun b9 hb9=>?_
  have hu:=hs.upd (x:=.cells [.str xn,.int .i64 xk,.int .i64 xq,.str xs,.sl .no 5 (cVs xl),.sl .no 6 (cMs xml)]) hb9
  simp(disch:=omega) only[go_sem]
  refine za hp ?_
  cases hpm:yb ps xn with
  | none =>
   rw[hpm] at hal hfl
   simp(disch:=omega) only[Option.getD,Option.isSome,zW,zV,z8,go_sem]
   refine zb fun b10 hb10=>?_
   have hu2:=hu.upd (x:=.cells [.str [],.str [],.int .i64 0,.int .i64 0,.bool false,.int .i64 0,.int .i64 0,.str [],.sl .no 5 (cVs []),.sl .no 6 (cMs [])]) hb10
   simp(disch:=omega) only[go_sem]
   exact goJ (hJ (o1,a) _ ⟨by rw[hfl];simp,hu2⟩) (by simp(disch:=omega) only[wrap64,go_sem])
  | some p =>
   rw[hpm] at hal hfl
   simp only at hal hfl
   replace hme:=hme p hpm
   obtain⟨pn,⟨p1,p2,p3⟩,ph,⟨yk,yq,ys,yl,ym⟩⟩:=p
   simp only at hme hal hfl
   simp(disch:=omega) only[Option.getD,Option.isSome,z8,go_sem]
   refine zb fun b10 hb10=>?_
   have hu2:=hu.upd (x:=.cells [.str pn,.str p1,.int .i64 p2,.int .i64 p3,.bool ph,.int .i64 yk,.int .i64 yq,.str ys,.sl .no 5 (cVs yl),.sl .no 6 (cMs ym)]) hb10
   have hne3:b9≠b10:=fun e=>by subst e;simp[zc.upd] at hb10
   simp(disch:=omega) only[hne3,Ne.symm hne3,go_sem]
   refine zB (hme.2.2 _) fun o2 H2 hs2=>?_
   have hu3:=YA hu2 hs2
   simp(disch:=omega) only[go_sem]
   refine zu (by rw[yh];exact hu3.own) ?_ ?_ fun o' H3 hs3=>?_
   ·simp only[yh];omega
   ·simp only[yh,maxLen];omega
   simp only[yh] at hs3
   simp(disch:=omega) only[wrap64,zck,go_sem]
   exact goJ (hJ (o',a++spM s ⟨p1,p2,p3⟩ ph (.mk xk xq xs xl xml)) H3 ⟨hfl.symm,by rw[Al5];exact hu3.trans hs3⟩) (by simp(disch:=omega) only[wrap64,go_sem])
noncomputable def zbA (s:SchD) (d:DirD):List SpotD:=zhl s (y5 d) d.args
noncomputable def zia (s:SchD) (typ:List UInt8) (k:Int) (nm:List UInt8) (args:List Mem):List SpotD:=if k=0 then zhl s ((yw s typ nm).getD zF).ps args else []
mutual
noncomputable def usS (s:SchD):SelD→List UInt8→List SpotD
 | .mk k al nm args dirs on sels,typ=>zia s typ k nm args++dirs.flatMap (zbA s)++YI s sels (zO s typ (.mk k al nm args dirs on sels))
noncomputable def YI (s:SchD):List SelD→List UInt8→List SpotD
 | [],_=>[]
 | x::r,typ=>usS s x typ++YI s r typ
end
theorem zkG (s:SchD) (typ:List UInt8):∀ a b:List SelD,YI s (a++b) typ=YI s a typ++YI s b typ
 | [],b=>by simp[YI]
 | x::a,b=>by rw[Al6,YI,YI,zkG s typ a b,zbM]
theorem zjK (s:SchD) (typ:List UInt8) (k:Int) (nm:List UInt8) (args:List Mem) (hs:zJ s≤Lim) (hb:bMs args≤Lim):(zia s typ k nm args).length≤bMs args∧∀ y∈zia s typ k nm args,y.t.nm.length≤Lim:=by
 unfold zia
 split
 ·exact ziN s _ args hs (by have:=zfr s typ nm;omega) hb
 ·simp
theorem zgQ (s:SchD) (hs:zJ s≤Lim):∀ l:List DirD,bDs l≤Lim→(l.flatMap (zbA s)).length≤bDs l∧∀ y∈l.flatMap (zbA s),y.t.nm.length≤Lim
 | [],_=>by simp
 | x::r,h=>by
  have e:bDs (x::r)=bD x+bDs r:=by simp[bDs]
  have e2:bD x=1+x.nm.length+bMs x.args:=rfl
  have h1:=ziN s (y5 x) x.args hs (by have:=zcv x;simp only[Lim];omega) (by omega)
  have h2:=zgQ s hs r (by omega)
  rw[List.flatMap_cons]
  refine⟨by rw[Al5];simp only[zbA];omega,fun y hy=>?_⟩
  rcases List.mem_append.1 hy with h|h
  ·exact h1.2 y h
  ·exact h2.2 y h
mutual
theorem ztI (s:SchD) (hs:zJ s≤Lim):∀(x:SelD) (typ:List UInt8),bS x≤Lim→(usS s x typ).length≤bS x∧∀ y∈usS s x typ,y.t.nm.length≤Lim
 | .mk k al nm args dirs on sels,typ,hb=>by
  simp only[bS] at hb ⊢
  have h1:=zjK s typ k nm args hs (by omega)
  have h2:=zgQ s hs dirs (by omega)
  have h3:=zdl s hs sels (zO s typ (.mk k al nm args dirs on sels)) (by omega)
  simp only[usS]
  refine⟨by simp only[Al5];omega,fun y hy=>?_⟩
  rcases List.mem_append.1 hy with h|h
  ·rcases List.mem_append.1 h with h|h
   ·exact h1.2 y h
   ·exact h2.2 y h
  ·exact h3.2 y h
theorem zdl (s:SchD) (hs:zJ s≤Lim):∀(l:List SelD) (typ:List UInt8),bSs l≤Lim→(YI s l typ).length≤bSs l∧∀ y∈YI s l typ,y.t.nm.length≤Lim
 | [],typ,_=>by simp[YI]
 | x::r,typ,hb=>by
  simp only[bSs] at hb ⊢
  have h1:=ztI s hs x typ (by omega)
  have h2:=zdl s hs r typ (by omega)
  simp only[YI]
  refine⟨by rw[Al5];omega,fun y hy=>?_⟩
  rcases List.mem_append.1 hy with h|h
  ·exact h1.2 y h
  ·exact h2.2 y h
end
theorem ztu (s : SchD) (hs : zJ s ≤ Lim) : ∀ c : Nat, ∀ (l : List SelD) (typ : List UInt8) (H : zc), bSs l ≤ c → c ≤ Lim → Y8 Tryz.prog 150 [.agg (zq s), .str typ, .sl .no 7 (cSs l)] H .nil 5 (cPs (YI s l typ)) := by
  intro c
  induction c using Nat.strongRecOn with
  | _ c ih =>
  intro l typ H hb hc
  have l1 := YS l
  have hll := YT l
  have hc' := hc
  simp only [Lim] at hc'
  have hfield := fun nm => zfq s typ nm hs
  have hfps := fun nm => zfr s typ nm
  have hwith := fun x => zf0 s typ x hs
  have hgiv := fun ps l H h1 h2 => zsG s ps l H hs h1 h2
  have e0 : YI s l typ = YI s l typ := rfl
  have happ := zkG s typ
  have hok := zdl s hs
  have hfok := fun k nm args => zjK s typ k nm args hs
  have hdok := zgQ s hs
  have hSs : ∀ x, YI s [x] typ = usS s x typ := fun x => by simp [YI]
  have hSx : ∀ k al nm args dirs on sels, usS s (.mk k al nm args dirs on sels) typ = zia s typ k nm args ++ dirs.flatMap (zbA s) ++ YI s sels (zO s typ (.mk k al nm args dirs on sels)) := fun k al nm args dirs on sels => by simp only [usS]
  have hsl : zJ s ≤ 1099511627776 := hs
  generalize hF : YI s l typ = F at e0 ⊢
  obtain ⟨sd, sq, sm⟩ := s
  generalize hS : (⟨sd, sq, sm⟩ : SchD) = s at *
  have hcs : zq s = [.sl .no 6 (cEs sd), .str sq, .str sm] := by rw [← hS]; rfl
  simp only [hcs] at hfield hwith hgiv ih ⊢
  refine zj.goO ir150 ck150 (Al4 _) fun KP Q hQ hP => ?_
  have fin : ∀ r o, F = r → ∀ ρ H1, zN ρ H1 ir150.res = some [.sl o 5 (cPs r)] → OwnS H .nil H1 o r.length 5 → Q .ret ρ H1 := fun r o e ρ H1 h1 h2 => hQ _ ρ H1 H1 _ nofun h1 (Low.refl _) ⟨o, by rw [e]; rfl, by rw [e, yh]; exact h2⟩
  simp (disch := omega) only [ir150, l1, go_sem]
  refine zf l 16 (fun x : Own × List SpotD => [(7, .sl x.1 5 (cPs x.2))]) (fun done rest x H' => x.2 = YI s done typ ∧ OwnS H .nil H' x.1 x.2.length 5) (.nil, []) (by simp (disch := omega) only [cPs, List.map, go_sem]) ⟨by simp [YI], OwnS.refl (o := .nil) (n := 0) rfl⟩ ?_ ?_
  · rintro ⟨o1, a⟩ H1 J ⟨hn, hs⟩ hlt
    simp only at hn
    rw [hF] at hn
    subst hn
    simp (disch := omega) only [l1, hlt, go_sem]
    exact fin _ o1 rfl _ _ rfl hs
  · rintro done x rest ⟨o1, a⟩ H1 J hd hlt _ ⟨hn, hs⟩ hJ
    have hg := zao hd
    have hbm := zbn done x rest
    rw [← hd] at hbm
    simp only at hn
    replace hs : OwnS H .nil H1 o1 a.length 5 := hs
    have hal := (hok done typ (by omega)).1
    rw [← hn] at hal
    have hnx : YI s (done ++ [x]) typ = a ++ usS s x typ := by rw [happ, hSs, ← hn]
    obtain ⟨k, al, nm, args, dirs, on, sels⟩ := x
    rw [hSx] at hnx
    simp only [bS] at hbm
    have hx1 := hfield nm
    have hx2 := hwith (.mk k al nm args dirs on sels)
    have hx3 := hfps nm
    have hal2 := (hfok k nm args (by omega)).1
    have hdl := zau dirs
    have l2 := YP dirs
    have hih := fun typ' H' => ih (bSs sels) (by omega) sels typ' H' (Al4 _) (by omega)
    have hlu := fun typ' => (hok sels typ' (by omega)).1
    rw [Zb] at hg hx2
    obtain ⟨G, hG⟩ : ∃ G, G = zia s typ k nm args := ⟨_, rfl⟩
    rw [← hG] at hnx hal2
    have hG0 : G = if k = 0 then zhl s ((yw s typ nm).getD zF).ps args else [] := hG
    generalize zO s typ (.mk k al nm args dirs on sels) = ty2 at *
    replace hlu := hlu ty2
    generalize hU : YI s sels ty2 = U at *
    generalize (yw s typ nm).isSome = fs at *
    generalize (yw s typ nm).getD zF = w at *
    obtain ⟨fn, fp, ⟨f1, f2, f3⟩, fd⟩ := w
    rw [zaB] at hx1
    simp only at hx3 hG0
    simp (disch := omega) only [l1, hlt, hg, go_sem]
    refine zb fun b9 hb9 => ?_
    have c9 : (H1.upd b9 (.cells [.int .i64 k, .str al, .str nm, .sl .no 6 (cMs args), .sl .no 2 (cDs dirs), .str on, .sl .no 7 (cSs sels)])) b9 = some (.cells [.int .i64 k, .str al, .str nm, .sl .no 6 (cMs args), .sl .no 2 (cDs dirs), .str on, .sl .no 7 (cSs sels)]) := upd_same ..
    have hu := hs.upd (x := .cells [.int .i64 k, .str al, .str nm, .sl .no 6 (cMs args), .sl .no 2 (cDs dirs), .str on, .sl .no 7 (cSs sels)]) hb9
    by_cases hk : k = 0
    case' pos =>
      rw [if_pos hk] at hG0
      have hk' := eq_true hk
      simp (disch := omega) only [hk', go_sem]
      refine za hx1 ?_
      simp (disch := omega) only [go_sem]
      refine zb fun b10 hb10 => ?_
      have hne : b9 ≠ b10 := fun e => by subst e; simp [zc.upd] at hb10
      have hu1 := hu.upd (x := .cells [.str fn, .sl .no 10 (cWs fp), .str f1, .int .i64 f2, .int .i64 f3, .sl .no 2 (cDs fd)]) hb10
      simp (disch := omega) only [hne, Ne.symm hne, go_sem]
      refine zB (hgiv fp args _ (by omega) (by omega)) fun o2 H2 hs2 => ?_
      rw [← hG0] at hs2 ⊢
      have c9 : H2 b9 = some (.cells [.int .i64 k, .str al, .str nm, .sl .no 6 (cMs args), .sl .no 2 (cDs dirs), .str on, .sl .no 7 (cSs sels)]) := hs2.kept b9 _ (by simp [zc.upd, hne]) (fun d e => by cases e)
      have hu2 := YA hu1 hs2
      simp (disch := omega) only [go_sem]
      refine zu (by rw [yh]; exact hu2.own) ?_ ?_ fun o1 H3 hs3 => ?_
      · simp only [yh]; omega
      · simp only [yh, maxLen]; omega
      simp only [yh] at hs3
      have c9 := hs3.kept b9 _ c9 (zeS hu2.own c9)
      have hu : OwnS H .nil H3 o1 (a ++ G).length 5 := by rw [Al5]; exact hu2.trans hs3
      simp (disch := omega) only [c9, zck, l2, go_sem]
    case' neg =>
      rw [if_neg hk] at hG0
      rw [show a.length = (a ++ G).length from by rw [hG0, List.append_nil]] at hu
      simp (disch := omega) only [hk, l2, go_sem]
      rw [show cPs a = cPs (a ++ G) by rw [hG0, List.append_nil]]
    all_goals
      refine zf dirs 42 (fun x : Own × List SpotD => [(7, .sl x.1 5 (cPs x.2))]) (fun done rest x H' => H' b9 = some (.cells [.int .i64 k, .str al, .str nm, .sl .no 6 (cMs args), .sl .no 2 (cDs dirs), .str on, .sl .no 7 (cSs sels)]) ∧ x.2 = a ++ G ++ done.flatMap (zbA s) ∧ OwnS H .nil H' x.1 x.2.length 5) (o1, a ++ G) (by simp (disch := omega) only [go_sem]) ⟨c9, by simp, hu⟩ ?_ ?_
      · rintro ⟨o2, a2⟩ H4 J2 ⟨c9, hn2, hs4⟩ hlt2
        simp only at hn2
        have hal4 := (hdok dirs (by omega)).1
        replace hs4 : OwnS H .nil H4 o2 a2.length 5 := hs4
        have ha2 : a2.length = a.length + G.length + (dirs.flatMap (zbA s)).length := by rw [hn2, Al5, Al5]
        simp (disch := omega) only [l2, hlt2, c9, go_sem]
        refine za hx2 ?_
        simp (disch := omega) only [c9, go_sem]
        refine zB (hih ty2 H4) fun o5 H5 hs5 => ?_
        rw [hU] at hs5 ⊢
        have hu5 := YA hs4 hs5
        have c9' := hs5.kept b9 _ c9 (fun d e => by cases e)
        simp (disch := omega) only [c9, c9', go_sem]
        refine zu (by rw [yh]; exact hu5.own) ?_ ?_ fun o6 H6 hs6 => ?_
        · simp only [yh]; omega
        · simp only [yh, maxLen]; omega
        simp only [yh] at hs6
        simp (disch := omega) only [wrap64, zck, go_sem]
        exact goJ (hJ (o6, a2 ++ U) H6 ⟨by simp only; rw [hnx, hn2]; simp [zbM], by rw [Al5]; exact hu5.trans hs6⟩) (by simp (disch := omega) only [wrap64, go_sem])
      · rintro done2 x2 rest2 ⟨o2, a2⟩ H4 J2 hd2 hlt2 _ ⟨c9, hn2, hs4⟩ hJ2
        have hg2 := zar hd2
        have hbd := zcp done2 x2 rest2
        rw [← hd2] at hbd
        simp only at hn2
        replace hs4 : OwnS H .nil H4 o2 a2.length 5 := hs4
        have hal4 := (hdok (done2 ++ [x2]) (by have : bDs (done2 ++ [x2]) = bDs done2 + bD x2 := by simp [bDs]
                                               omega)).1
        have eb : bDs (done2 ++ [x2]) = bDs done2 + bD x2 := by simp [bDs]
        rw [List.flatMap_append, Al5] at hal4
        have e2 : [x2].flatMap (zbA s) = zbA s x2 := by simp
        rw [e2] at hal4
        have ha2 : a2.length = a.length + G.length + (done2.flatMap (zbA s)).length := by rw [hn2, Al5, Al5]
        have hn3 : a ++ G ++ (done2 ++ [x2]).flatMap (zbA s) = a2 ++ zbA s x2 := by rw [List.flatMap_append, e2, hn2]; simp [zbM]
        have hp2 := zgs x2
        have hpl := zcv x2
        have eD : zbA s x2 = zhl s (y5 x2) x2.args := rfl
        obtain ⟨dn, da⟩ := x2
        simp only [bD] at hbd eb
        simp only at eD
        have hgv := fun H => hgiv (y5 ⟨dn, da⟩) da H (by simp only [Lim]; omega) (by omega)
        rw [← eD] at hgv
        generalize y5 ⟨dn, da⟩ = ps at *
        generalize zbA s ⟨dn, da⟩ = D at *
        rw [zgU] at hg2 hp2
        simp (disch := omega) only [l2, hlt2, hg2, go_sem]
        refine zb fun b13 hb13 => ?_
        have hne : b9 ≠ b13 := fun e => by subst e; rw [c9] at hb13; cases hb13
        have hu1 := hs4.upd (x := .cells [.str dn, .sl .no 6 (cMs da)]) hb13
        simp (disch := omega) only [hne, Ne.symm hne, go_sem]
        refine za hp2 ?_
        simp (disch := omega) only [hne, Ne.symm hne, go_sem]
        refine zB (hgv _) fun o5 H5 hs5 => ?_
        have hu5 := YA hu1 hs5
        have c9' := hs5.kept b9 _ (by simp only [zc.upd, hne, if_false]; exact c9) (fun d e => by cases e)
        have c13 := hs5.kept b13 _ (upd_same ..) (fun d e => by cases e)
        simp (disch := omega) only [c9, c9', c13, hne, Ne.symm hne, go_sem]
        refine zu (by rw [yh]; exact hu5.own) ?_ ?_ fun o6 H6 hs6 => ?_
        · simp only [yh]; omega
        · simp only [yh, maxLen]; omega
        simp only [yh] at hs6
        have c9'' := hs6.kept b9 _ c9' (zeS hu5.own c9')
        simp (disch := omega) only [wrap64, zck, go_sem]
        exact goJ (hJ2 (o6, a2 ++ D) H6 ⟨c9'', hn3.symm, by rw [Al5]; exact hu5.trans hs6⟩) (by simp (disch := omega) only [wrap64, go_sem])
def vM:Mem→Val
 | .mk _ v=>v
def ofM (l:List (List UInt8)) (m:Mem):List (List UInt8):=(Zp (vM m) []).foldl zev l
theorem zkL:∀(ns l:List (List UInt8)),(ns.foldl zev l).length≤l.length+ns.length
 | [],l=>by simp
 | n::ns,l=>by
  have:=zkL ns (zev l n)
  have:=zkO l n
  simp only[List.foldl_cons,Al2];omega
theorem zmZ (l:List (List UInt8)) (m:Mem):(ofM l m).length≤l.length+bM m:=by
 obtain⟨n,v⟩:=m
 have h1:=zkL (Zp v []) l
 have h2:=zbh v []
 simp only[Al3] at h2
 simp only[ofM,vM,bM];omega
theorem zep:∀(ms:List Mem) (l:List (List UInt8)),(ms.foldl ofM l).length≤l.length+bMs ms
 | [],l=>by simp[bMs]
 | m::ms,l=>by
  have:=zep ms (ofM l m)
  have:=zmZ l m
  simp only[List.foldl_cons,bMs];omega
theorem zmM (a b:List Mem):bMs (a++b)=bMs a+bMs b:=by simp[zb7]
theorem ofC (H:zc) (lv:AV) (l:List (List UInt8)) (ms:List Mem) (hl:ze3 H lv l) (hlen:l.length+bMs ms≤1099511627776):zj Tryz.prog 201 [lv,.sl .no 6 (cMs ms)] H (zlz H lv (ms.foldl ofM l)):=by
 have h1m:=Za ms
 have hml:=Ze ms
 generalize hF:ms.foldl ofM l=F
 unfold zlz
 refine zj.goO ir201 ck201 (Al4 _) fun KP Q hQ hP=>?_
 simp(disch:=omega) only[ir201,h1m,go_sem]
 refine zf ms 11 (fun x:AV×List (List UInt8)=>[(0,x.1)]) (fun done rest x H'=>rest.foldl ofM x.2=F∧x.2.length≤l.length+bMs done∧InsS H lv H' x.1 x.2) (lv,l) (by simp(disch:=omega) only[go_sem]) ⟨hF,by simp,InsS.refl hl⟩ ?_ ?_
 ·rintro⟨l1,a⟩ H1 J ⟨hn,_,hs⟩ hlt
  simp only[List.foldl] at hn
  simp(disch:=omega) only[h1m,hlt,go_sem]
  exact hQ _ _ H1 H1 [l1] nofun rfl (Low.refl _) (by rw[← hn];exact hs)
 ·rintro done x rest ⟨l1,a⟩ H1 J hd hlt _ ⟨hn,hle,hs⟩ hJ
  have hg:=Zs hd
  have hbd:=zmS done rest x
  rw[← hd,zmM done [x]] at hbd
  have hb1:bMs [x]=bM x:=by simp[bMs]
  rw[List.foldl_cons] at hn
  have hol:=zmZ a x
  simp only at hle hn
  replace hs:InsS H lv H1 l1 a:=hs
  have eo:ofM a x=(Zp (vM x) []).foldl zev a:=rfl
  have hvl:=zbh (vM x) []
  obtain⟨xn,v⟩:=x
  simp only[vM,bM,Al3] at eo hb1 hvl
  have hv:=zk1 v (by simp only[Lim];omega)
  generalize Zp v []=ns at *
  have l2:=zK ns
  obtain⟨xk,xq,xs,xl,xml⟩:=v
  rw[zr,yo] at hg
  rw[yo] at hv
  simp(disch:=omega) only[h1m,hlt,hg,go_sem]
  refine zb fun b6 hb6=>?_
  have hu:=hs.upd (x:=.cells [.str xn,.int .i64 xk,.int .i64 xq,.str xs,.sl .no 5 (cVs xl),.sl .no 6 (cMs xml)]) hb6
  simp(disch:=omega) only[go_sem]
  refine za hv ?_
  simp(disch:=omega) only[l2,go_sem]
  refine zf ns 19 (fun x:AV×List (List UInt8)=>[(0,x.1)]) (fun done rest x H'=>rest.foldl zev x.2=ofM a (.mk xn (.mk xk xq xs xl xml))∧x.2.length≤a.length+done.length∧InsS H lv H' x.1 x.2) (l1,a) (by simp(disch:=omega) only[go_sem]) ⟨eo.symm,by simp,hu⟩ ?_ ?_
  ·rintro⟨l3,a3⟩ H3 J2 ⟨hn3,hle3,hs3⟩ hlt2
   simp only[List.foldl] at hn3
   simp only at hle3
   simp(disch:=omega) only[l2,hlt2,go_sem]
   exact goJ (hJ (l3,a3) H3 ⟨by rw[hn3];exact hn,by simp only[zmM,hb1];omega,hs3⟩) (by simp(disch:=omega) only[wrap64,go_sem])
  ·rintro done3 x3 rest3 ⟨l3,a3⟩ H3 J2 hd3 hlt3 _ ⟨hn3,hle3,hs3⟩ hJ2
   have hg3:=ZZ hd3
   rw[List.foldl_cons] at hn3
   simp only at hle3 hn3
   have hil:=zkO a3 x3
   have hi:=zrj H3 l3 a3 x3 hs3.own (by omega)
   simp(disch:=omega) only[l2,hlt3,hg3,go_sem]
   refine zaV hi fun v H4 hs4=>?_
   simp(disch:=omega) only[go_sem]
   exact goJ (hJ2 (v,zev a3 x3) H4 ⟨hn3,by simp only[Al5,Al2,Al3];omega,hs3.trans hs4⟩) (by simp(disch:=omega) only[wrap64,go_sem])
def ofD (l:List (List UInt8)) (d:DirD):List (List UInt8):=d.args.foldl ofM l
theorem zme (ds:List DirD):∀ l:List (List UInt8),(ds.foldl ofD l).length≤l.length+bDs ds:=by
 induction ds with
 | nil=>intro l;simp[bDs]
 | cons d r ih =>
  intro l
  have h1:=ih (ofD l d)
  have h2:=zep d.args l
  have e:bDs (d::r)=bD d+bDs r:=by simp[bDs]
  have e2:bD d=1+d.nm.length+bMs d.args:=rfl
  rw[List.foldl_cons,e]
  simp only[ofD] at h1 h2 ⊢;omega
mutual
def wrS:SelD→List (List UInt8)→List (List UInt8)
 | .mk k al nm args dirs on sels,l=>zag sels (dirs.foldl ofD (args.foldl ofM l))
def zag:List SelD→List (List UInt8)→List (List UInt8)
 | [],l=>l
 | x::r,l=>zag r (wrS x l)
end
mutual
theorem zmG:∀(x:SelD) (l:List (List UInt8)),(wrS x l).length≤l.length+bS x
 | .mk k al nm args dirs on sels,l=>by
  have h1:=zbP sels (dirs.foldl ofD (args.foldl ofM l))
  have h2:=zme dirs (args.foldl ofM l)
  have h3:=zep args l
  simp only[wrS,bS];omega
theorem zbP:∀(r:List SelD) (l:List (List UInt8)),(zag r l).length≤l.length+bSs r
 | [],l=>by simp[zag]
 | x::r,l=>by
  have h1:=zmG x l
  have h2:=zbP r (wrS x l)
  simp only[zag,bSs];omega
end
theorem zrf (a b:List DirD):bDs (a++b)=bDs a+bDs b:=by simp[bDs]
theorem zms (a b:List SelD):bSs (a++b)=bSs a+bSs b:=by
 induction a with
 | nil=>simp[bSs]
 | cons x a ih=>simp only[Al6,bSs,ih];omega
theorem zj9:∀ c:Nat,∀(ss:List SelD) (H:zc) (lv:AV) (l:List (List UInt8)),bSs ss≤c→ze3 H lv l→l.length+bSs ss≤1099511627776→zj Tryz.prog 146 [lv,.sl .no 7 (cSs ss)] H (zlz H lv (zag ss l)):=by
 intro c
 induction c using Nat.strongRecOn with
 | _ c ih =>
 intro ss H lv l hc hl hlen
 have l1:=YS ss
 have hll:=YT ss
 generalize hF:zag ss l=F
 unfold zlz
 refine zj.goO ir146 ck146 (Al4 _) fun KP Q hQ hP=>?_
 simp(disch:=omega) only[ir146,l1,go_sem]
 refine zf ss 11 (fun x:AV×List (List UInt8)=>[(0,x.1)]) (fun done rest x H'=>zag rest x.2=F∧x.2.length≤l.length+bSs done∧InsS H lv H' x.1 x.2) (lv,l) (by simp(disch:=omega) only[go_sem]) ⟨hF,by simp,InsS.refl hl⟩ ?_ ?_
 ·rintro⟨l1',a⟩ H1 J ⟨hn,_,hs⟩ hlt
  simp only[zag] at hn
  simp(disch:=omega) only[l1,hlt,go_sem]
  exact hQ _ _ H1 H1 [l1'] nofun rfl (Low.refl _) (by rw[← hn];exact hs)
 ·rintro done x rest ⟨lv1,a⟩ H1 J hd hlt _ ⟨hn,hle,hs⟩ hJ
  have hg:=zao hd
  have hbd:=zbn done x rest
  rw[← hd] at hbd
  have hb1:bSs (done++[x])=bSs done+bS x:=by rw[zms];simp[bSs]
  simp only[zag] at hn
  have hxl:=zmG x a
  simp only at hle hn
  replace hs:InsS H lv H1 lv1 a:=hs
  obtain⟨k,al,nm,args,dirs,on,sels⟩:=x
  have ex:wrS (.mk k al nm args dirs on sels) a=zag sels (dirs.foldl ofD (args.foldl ofM a)):=by simp only[wrS]
  simp only[bS] at hbd hb1 hxl
  have h2:=zep args a
  have h3:=zme dirs (args.foldl ofM a)
  have hdl:=zau dirs
  have l2:=YP dirs
  generalize hW:wrS (.mk k al nm args dirs on sels) a=W at *
  generalize hA:args.foldl ofM a=A at *
  rw[Zb] at hg
  simp(disch:=omega) only[l1,hlt,hg,go_sem]
  refine zb fun b9 hb9=>?_
  have hu:=hs.upd (x:=.cells [.int .i64 k,.str al,.str nm,.sl .no 6 (cMs args),.sl .no 2 (cDs dirs),.str on,.sl .no 7 (cSs sels)]) hb9
  have hn9:=hs.own.ne hb9
  have c9:(H1.upd b9 (.cells [.int .i64 k,.str al,.str nm,.sl .no 6 (cMs args),.sl .no 2 (cDs dirs),.str on,.sl .no 7 (cSs sels)])) b9=some (.cells [.int .i64 k,.str al,.str nm,.sl .no 6 (cMs args),.sl .no 2 (cDs dirs),.str on,.sl .no 7 (cSs sels)]):=upd_same ..
  simp(disch:=omega) only[go_sem]
  generalize hH2:(H1.upd b9 (.cells [.int .i64 k,.str al,.str nm,.sl .no 6 (cMs args),.sl .no 2 (cDs dirs),.str on,.sl .no 7 (cSs sels)]))=H2 at *
  have hO:=ofC H2 lv1 a args hu.own (by omega)
  rw[hA] at hO
  refine zaV hO fun v3 H3 hs3=>?_
  have c93:=hs3.kept b9 _ c9 hn9
  simp(disch:=omega) only[c93,l2,go_sem]
  refine zf dirs 22 (fun x:AV×List (List UInt8)=>[(0,x.1)]) (fun done rest x H'=>H' b9=some (.cells [.int .i64 k,.str al,.str nm,.sl .no 6 (cMs args),.sl .no 2 (cDs dirs),.str on,.sl .no 7 (cSs sels)])∧rest.foldl ofD x.2=dirs.foldl ofD A∧x.2.length≤A.length+bDs done∧InsS H2 lv1 H' x.1 x.2) (v3,A) (by simp(disch:=omega) only[go_sem]) ⟨c93,rfl,by simp,hs3⟩ ?_ ?_
  ·rintro⟨l4,a4⟩ H4 J2 ⟨c94,hn4,hle4,hs4⟩ hlt2
   simp only[List.foldl] at hn4
   have hih:=ih (bSs sels) (by omega) sels H4 l4 a4 (Al4 _) hs4.own (by rw[hn4];omega)
   rw[hn4,← ex] at hih
   simp(disch:=omega) only[l2,hlt2,c94,go_sem]
   refine zaV hih fun v5 H5 hs5=>?_
   simp(disch:=omega) only[go_sem]
   exact goJ (hJ (v5,W) H5 ⟨hn,by simp only;omega,hu.trans (hs4.trans hs5)⟩) (by simp(disch:=omega) only[wrap64,go_sem])
  ·rintro done4 x4 rest4 ⟨l4,a4⟩ H4 J2 hd4 hlt4 _ ⟨c94,hn4,hle4,hs4⟩ hJ2
   have hg4:=zar hd4
   have hbd4:=zcp done4 x4 rest4
   rw[← hd4] at hbd4
   have hb4:bDs (done4++[x4])=bDs done4+bD x4:=by rw[zrf];simp[bDs]
   rw[List.foldl_cons] at hn4
   have e4:ofD a4 x4=x4.args.foldl ofM a4:=rfl
   have hl4:=zep x4.args a4
   simp only at hle4 hn4
   replace hs4:InsS H2 lv1 H4 l4 a4:=hs4
   obtain⟨dn,da⟩:=x4
   simp only[bD] at hbd4 hb4
   simp only at e4 hl4
   rw[e4] at hn4
   generalize hE:da.foldl ofM a4=E at *
   rw[zgU] at hg4
   simp(disch:=omega) only[l2,hlt4,hg4,go_sem]
   refine zb fun b8 hb8=>?_
   have hu4:=hs4.upd (x:=.cells [.str dn,.sl .no 6 (cMs da)]) hb8
   have hne:b9≠b8:=fun e=>by subst e;rw[c94] at hb8;cases hb8
   have hO4:=ofC (H4.upd b8 (.cells [.str dn,.sl .no 6 (cMs da)])) l4 a4 da hu4.own (by omega)
   rw[hE] at hO4
   have hn94:∀ n k,l4≠.ms b9 0 n k:=fun n k e=>by
    rcases hs4.new b9 n k e with h|⟨n0,k0,h⟩
    ·rw[c9] at h;cases h
    ·exact hn9 n0 k0 h
   simp(disch:=omega) only[go_sem]
   refine zaV hO4 fun v5 H5 hs5=>?_
   have c95:=hs5.kept b9 _ (by simp only[zc.upd,hne,if_false];exact c94) hn94
   simp(disch:=omega) only[go_sem]
   exact goJ (hJ2 (v5,E) H5 ⟨c95,hn4,by simp only[hb4];omega,hu4.trans hs5⟩) (by simp(disch:=omega) only[wrap64,go_sem])
def Z1 (d:DocD) (sels:List SelD):List (List UInt8):=(y9 d sels).foldl (fun l n=>zag ((zC d n).getD zFr).sels l) (zag sels [])
theorem zmm (d:DocD) (n:List UInt8):bSs ((zC d n).getD zFr).sels≤bFs d.frags:=by
 cases h:zC d n with
 | none=>simp[zFr,bSs]
 | some f=>exact Nat.le_trans (zaq f) (zbC (List.mem_of_find?_eq_some h))
theorem zdV (d:DocD) (sels:List SelD):(y9 d sels).length≤d.frags.length:=by
 have h:∀(R:List (List UInt8)) (fs:List FragD) (a:List (List UInt8)),(fs.foldl (y6 R) a).length≤a.length+fs.length:=by
  intro R fs
  induction fs with
  | nil=>simp
  | cons f fs ih =>
   intro a
   have:=ih (y6 R a f)
   have h2:(y6 R a f).length≤a.length+1:=by unfold y6;split<;>simp
   simp only[List.foldl_cons,Al2];omega
 have:=h (yf d sels) d.frags []
 simpa[y9] using this
theorem zuP (d:DocD) (sels:List SelD) (H:zc) (hb:Zd d≤Lim) (hb2:lenD d*zw d+zw d≤1099511627776) (hso:bSs sels≤zw d):zj Tryz.prog 105 [.agg (zX d),.sl .no 7 (cSs sels)] H (fun e H'=>match e with|.ret v=>v=.sl .no 1 (cT (Z1 d sels))∧∀ c x,H c=some x→H' c=some x|.pan _=>False):=by
 refine zj.frozen ?_
 have hb3:=hb
 simp only[Zd,Lim] at hb3
 have h0:bFs d.frags≤zw d:=by simp only[zw];omega
 have hfl:=yM d.frags
 have hfr:=fun n=>zkK d n (by simp only[Lim];omega)
 have hfs:=fun n=>zmm d n
 have hrch:=fun H=>zkX d sels H hb hso
 have hrl:=zdV d sels
 have e0:Z1 d sels=(y9 d sels).foldl (fun l n=>zag ((zC d n).getD zFr).sels l) (zag sels []):=rfl
 have hw0:=zbP sels []
 have hmul:(y9 d sels).length*zw d≤lenD d*zw d:=Nat.mul_le_mul_right _ (by simp only[lenD];omega)
 have h1:=zj9 (bSs sels) sels H (.sl .nil 1 []) [] (Al4 _) (.inl ⟨rfl,rfl⟩) (by simp;omega)
 simp only[Al3] at hw0
 generalize Z1 d sels=F at *
 generalize y9 d sels=R at *
 generalize hW0:zag sels []=W0 at *
 generalize hB:zw d=B at *
 have hcd:zX d=[.sl .no 5 (cOs d.ops),.sl .no 4 (cFs d.frags)]:=rfl
 simp only[hcd] at hfr hrch ⊢
 have l1:=zK R
 refine zj.goO ir105 ck105 (Al4 _) fun KP Q hQ hP=>?_
 simp(disch:=omega) only[ir105,go_sem]
 refine zaV h1 fun v1 H1 hs1=>?_
 simp(disch:=omega) only[go_sem]
 refine zB (hrch _) fun oR H2 hs2=>?_
 have hs12:InsS H (.sl .nil 1 []) H2 v1 W0:=by
  refine⟨?_,fun c x hc _=>hs2.kept c x (hs1.kept c x hc fun n k e=>by cases e) (fun d e=>by cases e),hs1.new⟩
  rcases hs1.own with h|⟨b,cap,sp,e,hb,hl⟩
  ·exact .inl h
  ·exact .inr ⟨b,cap,sp,e,hs2.kept b _ hb (fun d e=>by cases e),hl⟩
 simp(disch:=omega) only[l1,go_sem]
 refine zf R 16 (fun x:AV×List (List UInt8)=>[(5,x.1)]) (fun done rest x H'=>rest.foldl (fun l n=>zag ((zC d n).getD zFr).sels l) x.2=F∧x.2.length≤B+done.length*B∧InsS H (.sl .nil 1 []) H' x.1 x.2) (v1,W0) (by simp(disch:=omega) only[go_sem]) ⟨e0.symm,by simp only;omega,hs12⟩ ?_ ?_
 ·rintro⟨l1',a⟩ H3 J ⟨hn,_,hs3⟩ hlt
  simp only[List.foldl] at hn
  simp(disch:=omega) only[l1,hlt,go_sem]
  exact hQ _ _ H3 H3 [l1'] nofun rfl (Low.refl _) (by rw[← hn];exact hs3)
 ·rintro done x rest ⟨lv3,a⟩ H3 J hd hlt hlt2 ⟨hn,hle,hs3⟩ hJ
  have hg:=ZZ hd
  have hfx:=hfr x
  have hfsx:=hfs x
  have hdl:(done.length+1)*B≤R.length*B:=Nat.mul_le_mul_right _ (by omega)
  rw[Nat.add_mul,Nat.one_mul] at hdl
  rw[List.foldl_cons] at hn
  simp only at hn hle
  replace hs3:InsS H (.sl .nil 1 []) H3 lv3 a:=hs3
  generalize (zC d x).isSome=fs at *
  generalize (zC d x).getD zFr=f at *
  obtain⟨fn,fo,fd,fss⟩:=f
  rw[Z3] at hfx
  simp only at hfsx hn
  have hwl:=zbP fss a
  simp(disch:=omega) only[l1,hlt,hg,go_sem]
  refine za hfx ?_
  simp(disch:=omega) only[go_sem]
  refine zb fun b8 hb8=>?_
  have hu:=hs3.upd (x:=.cells [.str fn,.str fo,.sl .no 2 (cDs fd),.sl .no 7 (cSs fss)]) hb8
  have hW:=zj9 (bSs fss) fss _ lv3 a (Al4 _) hu.own (by omega)
  simp(disch:=omega) only[go_sem]
  refine zaV hW fun v4 H4 hs4=>?_
  simp(disch:=omega) only[go_sem]
  exact goJ (hJ (v4,zag fss a) H4 ⟨hn,by simp only[Al5,Al2,Al3,Nat.add_mul,Nat.one_mul];omega,hu.trans hs4⟩) (by simp(disch:=omega) only[wrap64,go_sem])
theorem zrF (v:VarD) (s:SchD) (hl:s.defs.length≤Lim):zg Tryz.prog 103 [.agg (cW v),.view (zq s)] (.bool (!zbD s v.t.nm)):=by
 have he:=zof s v.t.nm hl
 obtain⟨nm,⟨t1,t2,t3⟩,h,⟨k,q,st,l,m⟩⟩:=v
 obtain⟨sd,sq,sm⟩:=s
 simp only[zq] at he ⊢
 refine zg.go ir103 ck103 (Al4 _) fun KP Q hQ=>?_
 simp(disch:=omega) only[ir103,z8,go_sem]
 refine za he ?_
 simp(disch:=omega) only[go_sem]
 exact hQ _ _ _ _ nofun rfl (by simp[zd,ze,AV.strip,AV.strip1])
theorem zqv (n:List UInt8) (o:OpD) (hl:o.vars.length≤Lim):zg Tryz.prog 106 [.str n,.view (cO o)] (.bool (!(yb o.vars n).isSome)):=by
 have h1:=zmJ o n hl
 generalize (yb o.vars n).isSome=x1 at *
 generalize (yb o.vars n).getD zW=w at *
 obtain⟨nm,⟨t1,t2,t3⟩,h,⟨k,q,st,l,m⟩⟩:=w
 obtain⟨ok,onm,vs,ds,ss⟩:=o
 rw[YO] at h1 ⊢
 rw[z8] at h1
 refine zg.go ir106 ck106 (Al4 _) fun KP Q hQ=>?_
 simp(disch:=omega) only[ir106,go_sem]
 refine za h1 ?_
 simp(disch:=omega) only[go_sem]
 refine zb fun b4 hb4=>?_
 simp(disch:=omega) only[go_sem]
 exact hQ _ _ _ _ nofun rfl (by simp[zd,ze,AV.strip,AV.strip1])
theorem zqy (v:VarD) (us:List (List UInt8)) (b:Nat) (H:zc) (hb:H b=some (.cells [.sl .no 1 (cT us)])) (hl:us.length≤Lim):zj Tryz.prog 108 [.agg (cW v),.ptr b 0] H (At (.bool (!zQ v.nm us)) H):=by
 have h1:=yR us v.nm hl
 obtain⟨nm,⟨t1,t2,t3⟩,h,⟨k,q,st,l,m⟩⟩:=v
 simp only at h1 ⊢
 generalize zQ nm us=x1 at *
 refine zj.go ir108 ck108 (Al4 _) fun KP Q hQ=>?_
 simp(disch:=omega) only[ir108,z8,hb,go_sem]
 refine za h1 ?_
 simp(disch:=omega) only[go_sem]
 exact hQ _ _ _ _ _ nofun rfl (Low.refl _) ⟨by simp[zd,ze,AV.strip,AV.strip1],rfl⟩
def zbd (s:SchD) (d:DocD) (n:Int) (o:OpD):Bool :=
 if n=18 then zaI [] o.vars else if n=19 then !o.vars.any fun v=>!zbD s v.t.nm
 else if n=20 then !(Z1 d o.sels).any fun n=>!(yb o.vars n).isSome
 else !o.vars.any fun v=>!zQ v.nm (Z1 d o.sels)
theorem znf (d:DocD) (sels:List SelD):(Z1 d sels).length≤bSs sels+d.frags.length*zw d:=by
 have h0:bFs d.frags≤zw d:=by simp only[zw];omega
 have h1:=zdV d sels
 have h:∀(R l:List (List UInt8)),(R.foldl (fun l n=>zag ((zC d n).getD zFr).sels l) l).length≤l.length+R.length*zw d:=by
  intro R
  induction R with
  | nil=>simp
  | cons n R ih =>
   intro l
   have h1:=ih (zag ((zC d n).getD zFr).sels l)
   have h2:=zbP ((zC d n).getD zFr).sels l
   have h3:=zmm d n
   rw[List.foldl_cons,Al2,Nat.add_mul,Nat.one_mul];omega
 have h2:=h (y9 d sels) (zag sels [])
 have h3:=zbP sels []
 have h4:(y9 d sels).length*zw d≤d.frags.length*zw d:=Nat.mul_le_mul_right _ h1
 simp only[Al3] at h3
 simp only[Z1];omega
theorem zsQ (s:SchD) (d:DocD) (o:OpD) (n:Int) (hs:zJ s≤Lim) (hb:Zd d≤Lim) (hb2:lenD d*zw d+zw d≤1099511627776) (ho:bO o≤zw d):zg Tryz.prog 62 [.agg (zq s),.agg (zX d),.agg (cO o),.int .i64 n] (.bool (zbd s d n o)):=by
 have hb3:=hb
 simp only[Zd,Lim] at hb3
 have ho':=ho
 simp only[bO] at ho'
 have hvl:=yS o.vars
 have hfl:=yM d.frags
 have h0:bFs d.frags≤zw d:=by simp only[zw];omega
 have hmul:d.frags.length*zw d≤lenD d*zw d:=Nat.mul_le_mul_right _ (by simp only[lenD];omega)
 have hul:=znf d o.sels
 have r1:=zpL o (by simp only[Lim];omega)
 have r2:=znL cW zaH o.vars 103 [.view (zq s)] (fun v=>!zbD s v.t.nm) (by simp only[Lim];omega) (by kernel_rfl) fun v _=>zrF v s (yc hs)
 have r3:=fun H=>zuP d o.sels H hb hb2 (by omega)
 have r4:=zly (fun n:List UInt8=>AV.str n) (Z1 d o.sels) 106 [.view (cO o)] (fun n=>!(yb o.vars n).isSome) (by simp only[Lim];omega) (by kernel_rfl) fun n _=>zqv n o (by simp only[Lim];omega)
 have r5:=fun b H (h:H b=some (.cells [.sl .no 1 (cT (Z1 d o.sels))]))=>zg9 cW zaH o.vars 108 [.ptr b 0] (fun v=>!zQ v.nm (Z1 d o.sels)) H (by simp only[Lim];omega) (by kernel_rfl) fun v _=>zqy v (Z1 d o.sels) b H h (by simp only[Lim];omega)
 have e0:zbd s d n o=if n=18 then zaI [] o.vars else if n=19 then !o.vars.any fun v=>!zbD s v.t.nm
  else if n=20 then !(Z1 d o.sels).any fun n=>!(yb o.vars n).isSome else !o.vars.any fun v=>!zQ v.nm (Z1 d o.sels):=rfl
 generalize zbd s d n o=F at *
 generalize zaI [] o.vars=x1 at *
 generalize (o.vars.any fun v=>!zbD s v.t.nm)=x2 at *
 generalize ((Z1 d o.sels).any fun n=>!(yb o.vars n).isSome)=x3 at *
 generalize (o.vars.any fun v=>!zQ v.nm (Z1 d o.sels))=x4 at *
 generalize Z1 d o.sels=U at *
 obtain⟨ok,onm,vs,ds,ss⟩:=o
 obtain⟨sd,sq,sm⟩:=s
 have hcd:zX d=[.sl .no 5 (cOs d.ops),.sl .no 4 (cFs d.frags)]:=rfl
 simp only[zq,hcd,YO] at r1 r2 r3 r4 r5 ⊢
 refine zg.go ir62 ck62 (Al4 _) fun KP Q hQ=>?_
 by_cases h1:n=18
 ·subst h1
  rw[if_pos rfl] at e0
  subst e0
  simp(disch:=omega) only[ir62,go_sem]
  refine za r1 ?_
  simp(disch:=omega) only[go_sem]
  exact hQ _ _ _ _ nofun rfl (by simp[zd,ze,AV.strip,AV.strip1])
 rw[if_neg h1] at e0
 by_cases h2:n=19
 ·subst h2
  rw[if_pos rfl] at e0
  subst e0
  simp(disch:=omega) only[ir62,go_sem]
  refine za r2 ?_
  simp(disch:=omega) only[go_sem]
  exact hQ _ _ _ _ nofun rfl (by simp[zd,ze,AV.strip,AV.strip1])
 rw[if_neg h2] at e0
 by_cases h3:n=20
 ·subst h3
  rw[if_pos rfl] at e0
  subst e0
  simp(disch:=omega) only[ir62,go_sem]
  refine yH (XP:=fun _ _=>False) (r3 _) (fun v H2 ⟨e,hk⟩=>?_) (fun _ _ h=>h.elim)
  subst e
  simp(disch:=omega) only[go_sem]
  refine za r4 ?_
  simp(disch:=omega) only[go_sem]
  exact hQ _ _ _ _ nofun rfl (by simp[zd,ze,AV.strip,AV.strip1])
 rw[if_neg h3] at e0
 subst e0
 simp(disch:=omega) only[ir62,h1,h2,h3,go_sem]
 refine yH (XP:=fun _ _=>False) (r3 _) (fun v H2 ⟨e,hk⟩=>?_) (fun _ _ h=>h.elim)
 subst e
 simp(disch:=omega) only[go_sem]
 refine zb fun b9 hb9=>?_
 simp(disch:=omega) only[go_sem]
 refine z7 (r5 b9 _ (upd_same ..)) ?_
 rintro _ _ ⟨_,rfl,rfl,rfl⟩
 simp(disch:=omega) only[ZP,go_sem]
 exact hQ _ _ _ _ nofun rfl (by simp[zd,ze,AV.strip,AV.strip1])
theorem zrO (o:OpD) (s:SchD) (d:DocD) (n:Int) (hs:zJ s≤Lim) (hb:Zd d≤Lim) (hb2:lenD d*zw d+zw d≤1099511627776) (ho:bO o≤zw d):zg Tryz.prog 61 [.agg (cO o),.view (zq s),.view (zX d),.view [.int .i64 n]] (.bool (!zbd s d n o)):=by
 have h1:=zsQ s d o n hs hb hb2 ho
 generalize zbd s d n o=x1 at *
 obtain⟨ok,onm,vs,ds,ss⟩:=o
 obtain⟨sd,sq,sm⟩:=s
 have hcd:zX d=[.sl .no 5 (cOs d.ops),.sl .no 4 (cFs d.frags)]:=rfl
 simp only[zq,hcd,YO] at h1 ⊢
 refine zg.go ir61 ck61 (Al4 _) fun KP Q hQ=>?_
 simp(disch:=omega) only[ir61,go_sem]
 refine za h1 ?_
 simp(disch:=omega) only[go_sem]
 exact hQ _ _ _ _ nofun rfl (by simp[zd,ze,AV.strip,AV.strip1])
def zcW (s:SchD) (d:DocD) (n:Int):Bool:=decide (18≤n)&&decide (n≤21)&&!d.ops.any fun o=>!zbd s d n o
theorem ztd (s:SchD) (d:DocD) (n:Int) (hs:zJ s≤Lim) (hb:Zd d≤Lim) (hb2:lenD d*zw d+zw d≤1099511627776):zg Tryz.prog 21 [.agg (zq s),.agg (zX d),.int .i64 n] (.bool (zcW s d n)):=by
 have hb3:=hb
 simp only[Zd,Lim] at hb3
 have hb0:bOs d.ops≤zw d:=by simp only[zw];omega
 have hol:=Zo d.ops
 have r1:=anyOp cO (fun _=>rfl) d.ops 61 [.view (zq s),.view (zX d),.view [.int .i64 n]] (fun o=>!zbd s d n o) (by simp only[Lim];omega) (by kernel_rfl) fun o ho=>zrO o s d n hs hb hb2 (by
  obtain⟨a,b,hd⟩:=List.append_of_mem ho
  have:=YW a o b
  rw[← hd] at this
  omega)
 unfold zcW
 generalize (d.ops.any fun o=>!zbd s d n o)=x1 at *
 obtain⟨sd,sq,sm⟩:=s
 have hcd:zX d=[.sl .no 5 (cOs d.ops),.sl .no 4 (cFs d.frags)]:=rfl
 simp only[zq,hcd] at r1 ⊢
 refine zg.go ir21 ck21 (Al4 _) fun KP Q hQ=>?_
 by_cases h1:18≤n
 case neg =>
  simp(disch:=omega) only[ir21,h1,go_sem]
  exact hQ _ _ _ _ nofun rfl (by simp[zd,ze,AV.strip,AV.strip1,h1])
 by_cases h2:n≤21
 case neg =>
  simp(disch:=omega) only[ir21,h1,h2,go_sem]
  exact hQ _ _ _ _ nofun rfl (by simp[zd,ze,AV.strip,AV.strip1,h1,h2])
 simp(disch:=omega) only[ir21,h1,h2,go_sem]
 refine za r1 ?_
 simp(disch:=omega) only[go_sem]
 exact hQ _ _ _ _ nofun rfl (by simp[zd,ze,AV.strip,AV.strip1,h1,h2])
theorem zrr (x:SelD):zg Tryz.prog 114 [.agg (cS x)] (.str (Y6 x)):=by
 obtain⟨k,al,nm,args,dirs,on,sels⟩:=x
 rw[Zb]
 refine zg.go ir114 ck114 (Al4 _) fun KP Q hQ=>?_
 by_cases h0:k=0
 case neg =>
  simp(disch:=omega) only[ir114,h0,go_sem]
  exact hQ _ _ _ _ nofun rfl (by simp[zd,ze,AV.strip,AV.strip1,Y6,h0])
 subst h0
 by_cases ha:al=[]
 ·have ha':=eq_true ha
  simp(disch:=omega) only[ir114,ha',go_sem]
  exact hQ _ _ _ _ nofun rfl (by simp[zd,ze,AV.strip,AV.strip1,Y6,ha])
 ·simp(disch:=omega) only[ir114,ha,go_sem]
  exact hQ _ _ _ _ nofun rfl (by simp[zd,ze,AV.strip,AV.strip1,Y6,ha])
theorem zuo (s:SchD) (a b:TyD) (hl:s.defs.length≤Lim):zg Tryz.prog 207 [.agg (zq s),.agg (cTy a),.agg (cTy b)] (.bool (zek s a b)):=by
 have h1:=zkA s a.nm hl
 have h2:=zkA s b.nm hl
 have h3:=zgc s a.nm hl
 have h4:=zgc s b.nm hl
 have e0:zek s a b=(decide (a.lists=b.lists)&&decide (a.musts=b.musts)&&(if zaC s a.nm||zaC s b.nm then decide (a.nm=b.nm) else ZW s a.nm&&ZW s b.nm)):=rfl
 generalize zek s a b=F at *
 generalize zaC s a.nm=x1 at *
 generalize zaC s b.nm=x2 at *
 generalize ZW s a.nm=x3 at *
 generalize ZW s b.nm=x4 at *
 obtain⟨a1,a2,a3⟩:=a
 obtain⟨b1,b2,b3⟩:=b
 obtain⟨sd,sq,sm⟩:=s
 simp only[zq,cTy] at h1 h2 h3 h4 e0 ⊢
 refine zg.go ir207 ck207 (Al4 _) fun KP Q hQ=>?_
 by_cases z2:a2=b2
 case neg =>
  simp(disch:=omega) only[ir207,z2,go_sem]
  exact hQ _ _ _ _ nofun rfl (by simp[zd,ze,AV.strip,AV.strip1,e0,z2])
 by_cases z3:a3=b3
 case neg =>
  simp(disch:=omega) only[ir207,z2,z3,go_sem]
  exact hQ _ _ _ _ nofun rfl (by simp[zd,ze,AV.strip,AV.strip1,e0,z3])
 have z2':=eq_true z2
 have z3':=eq_true z3
 simp only[z2,z3,decide_true,Bool.true_and] at e0
 simp(disch:=omega) only[ir207,z2',z3',go_sem]
 refine za h1 ?_
 cases x1 with
 | true =>
  simp(disch:=omega) only[go_sem]
  exact hQ _ _ _ _ nofun rfl (by simp[zd,ze,AV.strip,AV.strip1,e0])
 | false =>
 simp(disch:=omega) only[go_sem]
 refine za h2 ?_
 cases x2 with
 | true =>
  simp(disch:=omega) only[go_sem]
  exact hQ _ _ _ _ nofun rfl (by simp[zd,ze,AV.strip,AV.strip1,e0])
 | false =>
 simp(disch:=omega) only[go_sem]
 refine za h3 ?_
 cases x3 with
 | false =>
  simp(disch:=omega) only[go_sem]
  exact hQ _ _ _ _ nofun rfl (by simp[zd,ze,AV.strip,AV.strip1,e0])
 | true =>
 simp(disch:=omega) only[go_sem]
 refine za h4 ?_
 simp(disch:=omega) only[go_sem]
 exact hQ _ _ _ _ nofun rfl (by simp[zd,ze,AV.strip,AV.strip1,e0])
noncomputable def zpN (b:List Mem) (m:Mem):Bool:=(zbZ (mN m) b).2&&eqd (vM m) (zbZ (mN m) b).1
noncomputable def zbQ (a b:List Mem):Bool:=a.all (zpN b)&&decide (a.length=b.length)
theorem zuf (a b:List Mem) (ha:bMs a≤Lim) (hb:bMs b≤Lim):zg Tryz.prog 154 [.sl .no 6 (cMs a),.sl .no 6 (cMs b)] (.bool (zbQ a b)):=by
 have l1:=Za a
 have l2:=Za b
 have hal:=Ze a
 have hbl:=Ze b
 have ha':=ha
 have hb':=hb
 simp only[Lim] at ha' hb'
 have hG:=fun n=>zq8 n b (by omega)
 have hS:∀ x∈a,∀ u,zg Tryz.prog 208 [.agg (cV (vM x)),.agg (cV u)] (.bool (eqd (vM x) u)):=fun x hx u=>by
  obtain⟨n,v⟩:=x
  have:=zed hx
  exact zn1 v (by omega) u
 refine zg.go ir154 ck154 (Al4 _) fun KP Q hQ=>?_
 simp(disch:=omega) only[ir154,l1,go_sem]
 refine zf a 11 (fun _:Unit=>[]) (fun done rest _ H=>rest.all (zpN b)=a.all (zpN b)) () (by simp(disch:=omega) only[go_sem]) rfl ?_ ?_
 ·rintro _ H J hn hlt
  have e0:zbQ a b=decide ((a.length:Int)=b.length):=by
   rw[zbQ,← hn]
   simp only[List.all_nil,Bool.true_and]
   exact decide_eq_decide.2 (by omega)
  simp(disch:=omega) only[l1,hlt,l2,go_sem]
  exact hQ _ _ _ _ nofun rfl (by simp[zd,ze,AV.strip,AV.strip1,e0])
 ·rintro done x rest _ H J hd hlt _ hn hJ
  have hg:=Zs hd
  have hx:=hS x (by rw[hd];simp)
  rw[List.all_cons] at hn
  have e1:zpN b x=((zbZ (mN x) b).2&&eqd (vM x) (zbZ (mN x) b).1):=rfl
  generalize zpN b x=y at *
  obtain⟨xn,xv⟩:=x
  simp only[mN,vM] at e1 hx
  have hgx:=hG xn
  replace hx:=hx (zbZ xn b).1
  generalize (zbZ xn b).2=y2 at *
  generalize (zbZ xn b).1=u at *
  generalize eqd xv u=y3 at *
  obtain⟨xk,xq,xs,xl,xml⟩:=xv
  obtain⟨uk,uq,us,ul,uml⟩:=u
  rw[zr,yo] at hg
  rw[yo,yo] at hx
  rw[yo] at hgx
  simp(disch:=omega) only[l1,hlt,hg,go_sem]
  refine zb fun b6 hb6=>?_
  simp(disch:=omega) only[go_sem]
  refine za hgx ?_
  cases y2 with
  | false =>
   have e0:zbQ a b=false:=by rw[zbQ,← hn,e1];rfl
   simp(disch:=omega) only[go_sem]
   refine zb fun b7 hb7=>?_
   simp(disch:=omega) only[go_sem]
   exact hQ _ _ _ _ nofun rfl (by simp[zd,ze,AV.strip,AV.strip1,e0])
  | true =>
   simp(disch:=omega) only[go_sem]
   refine zb fun b7 hb7=>?_
   have hne:b6≠b7:=fun e=>by subst e;simp[zc.upd] at hb7
   simp(disch:=omega) only[hne,Ne.symm hne,go_sem]
   refine za hx ?_
   cases y3 with
   | false =>
    have e0:zbQ a b=false:=by rw[zbQ,← hn,e1];rfl
    simp(disch:=omega) only[go_sem]
    exact hQ _ _ _ _ nofun rfl (by simp[zd,ze,AV.strip,AV.strip1,e0])
   | true =>
    rw[e1] at hn
    simp(disch:=omega) only[go_sem]
    exact goJ (hJ () _ (by simpa using hn)) (by simp(disch:=omega) only[wrap64,go_sem])
def cSn (l:List (List UInt8)):List (AV×AV):=l.map fun n=>(.str n,.bool true)
def cFr (fr:List (List UInt8×List ItD)):List (AV×AV):=fr.map fun e=>(.str e.1,.sl .no 10 (yJ e.2))
def cPr (l:PrS):List (AV×AV):=l.map fun e=>(.agg [.int .i64 e.1.1,.int .i64 e.1.2],.bool e.2)
theorem zds {H H':zc} {o:Own} {n sz:Nat} (h:zY H o n sz) (hk:∀ c k z,H c=some (.tip k z)→H' c=some (.tip k z)):zY H' o n sz:=by
 cases o with
 | tip c d=>exact hk c _ _ h
 | no=>exact h
 | nil=>exact h
 | full=>exact h
structure ItK (H:zc) (b:Nat) (c0:List AV) (no':Nat) (tl:List AV) (H':zc) (o:Own) (n:Nat):Prop where
 own:zY H' o n 10
 look:H' b=some (.cells (c0++.int .i64 no'::tl))
 kept:∀ c x,H c=some x→c≠b→H' c=some x
 new:∀ c d,o=.tip c d→H c=none
theorem zsZ (s:SchD) (hs:zJ s≤Lim) (b:Nat) (m1 m2 m3:AV):∀ c:Nat,∀(l:List SelD) (typ:List UInt8) (no:Nat) (H:zc),bSs l≤c→no+c≤1073741824→H b=some (.cells (zq s++.int .i64 no::[m1,m2,m3])) →
  zj Tryz.prog 65 [.ptr b 0,.str typ,.sl .no 7 (cSs l)] H (fun e H'=>match e with|.ret v=>∃ o,v=.sl o 10 (yJ (zR s l typ no).1)∧ItK H b (zq s) (zR s l typ no).2 [m1,m2,m3] H' o (zR s l typ no).1.length|.pan _=>False):=by
 intro c
 induction c using Nat.strongRecOn with
 | _ c ih =>
 intro l typ no H hc hno hb
 have l1:=YS l
 have hll:=YT l
 have hwith:=fun x=>zf0 s typ x hs
 have hno1:=fun l no=>zdv s l typ no
 have hno2:=zdv s
 have eN:zR s [] typ=fun no=>([],no):=by funext no;simp[zR]
 have eC:∀ x r no,zR s (x::r) typ no=((itS s x typ no).1::(zR s r typ (itS s x typ no).2).1,(zR s r typ (itS s x typ no).2).2):=fun x r no=>by simp only[zR]
 have eX:∀ k al nm args dirs on sels no,itS s (.mk k al nm args dirs on sels) typ no=(.mk (no+1) (.mk k al nm args dirs on sels) typ (zR s sels (zO s typ (.mk k al nm args dirs on sels)) (no+1)).1,(zR s sels (zO s typ (.mk k al nm args dirs on sels)) (no+1)).2):=fun k al nm args dirs on sels no=>by simp only[itS]
 have hlen:=zjl s l typ no
 generalize hF:zR s l typ no=F at *
 obtain⟨sd,sq,sm⟩:=s
 generalize hS:(⟨sd,sq,sm⟩:SchD)=s at *
 have hcs:zq s=[.sl .no 6 (cEs sd),.str sq,.str sm]:=by rw[← hS];rfl
 simp only[hcs,Al6,zc8] at hwith ih hb ⊢
 refine zj.goO ir65 ck65 (Al4 _) fun KP Q hQ hP=>?_
 simp(disch:=omega) only[ir65,l1,go_sem]
 refine zf l 13 (fun x:Own×List ItD×Nat=>[(7,.sl x.1 10 (yJ x.2.1))]) (fun done rest x H'=>(x.2.1++(zR s rest typ x.2.2).1,(zR s rest typ x.2.2).2)=F∧x.2.1.length=done.length∧x.2.2≤no+bSs done∧ItK H b [.sl .no 6 (cEs sd),.str sq,.str sm] x.2.2 [m1,m2,m3] H' x.1 x.2.1.length) (.nil,[],no) (by simp(disch:=omega) only[yJ,go_sem]) ⟨by simpa using hF,rfl,by simp[bSs],rfl,hb,fun c x hc _=>hc,fun c d e=>by cases e⟩ ?_ ?_
 ·rintro⟨o1,a,n1⟩ H1 J ⟨hn,hal,hle,hk⟩ hlt
  simp only[eN,List.append_nil] at hn
  subst hn
  simp(disch:=omega) only[l1,hlt,go_sem]
  exact hQ _ _ H1 H1 [.sl o1 10 (yJ a)] nofun rfl (Low.refl _) ⟨o1,rfl,hk⟩
 ·rintro done x rest ⟨o1,a,n1⟩ H1 J hd hlt hlt2 ⟨hn,hal,hle,hk⟩ hJ
  have hg:=zao hd
  have hbm:=zbn done x rest
  rw[← hd] at hbm
  have hb1:bSs (done++[x])=bSs done+bS x:=by rw[zms];simp[bSs]
  have hdl:=YT done
  simp only[eC] at hn
  simp only at hal hle
  obtain⟨ko,kl,kk,kn⟩:=hk
  simp only at ko kl kk kn
  obtain⟨k,al,nm,args,dirs,on,sels⟩:=x
  simp only[eX] at hn
  have hw:=hwith (.mk k al nm args dirs on sels)
  simp only[bS] at hbm hb1
  rw[Zb] at hg hw
  generalize hty:zO s typ (.mk k al nm args dirs on sels)=ty2 at *
  have hih:=fun H' h=>ih (bSs sels) (by omega) sels ty2 (n1+1) H' (Al4 _) (by omega) h
  have hn2:=hno2 sels ty2 (n1+1)
  generalize hG:zR s sels ty2 (n1+1)=G at *
  have hx1:(bS (.mk k al nm args dirs on sels))=1+al.length+nm.length+on.length+bMs args+bDs dirs+bSs sels:=rfl
  simp(disch:=omega) only[l1,hlt,hg,go_sem]
  refine zb fun b9 hb9=>?_
  have hne:b≠b9:=fun e=>by subst e;rw[kl] at hb9;cases hb9
  simp only[Al6,zc8] at kl
  simp(disch:=omega) only[kl,hne,Ne.symm hne,wrap64,go_sem]
  refine za hw ?_
  simp(disch:=omega) only[kl,hne,Ne.symm hne,go_sem]
  refine yH (XP:=fun _ _=>False) (hih _ (by simp[zc.upd,hne,splice])) (fun v H2 ⟨o2,e2,hk2⟩=>?_) (fun _ _ h=>h.elim)
  subst e2
  obtain⟨jo,jl,jk,jn⟩:=hk2
  simp only[Al6,zc8] at jl
  have j9:H2 b9=some (.cells [.int .i64 k,.str al,.str nm,.sl .no 6 (cMs args),.sl .no 2 (cDs dirs),.str on,.sl .no 7 (cSs sels)]):=jk b9 _ (by simp[zc.upd,hne,Ne.symm hne]) (Ne.symm hne)
  have jt:∀ c k z,H1 c=some (.tip k z)→H2 c=some (.tip k z):=fun c k z h=>by
   have n1:c≠b:=fun e=>by subst e;rw[kl] at h;cases h
   have n2:c≠b9:=fun e=>by subst e;rw[hb9] at h;cases h
   exact jk c _ (by simp only[zc.upd,n1,n2,if_false];exact h) n1
  have jow:=zds ko jt
  have h3:=Yp a
  simp(disch:=omega) only[jl,j9,hne,Ne.symm hne,go_sem]
  refine zu (by rw[h3];exact jow) ?_ ?_ fun o' H3 hs3=>?_
  ·simp only[h3,Al2,Al3];omega
  ·simp only[h3,Al2,Al3,maxLen];omega
  simp only[h3,Al2,Al3,Nat.zero_add] at hs3
  have e1:yJ a++[[.int .i64 ((n1:Int)+1),.int .i64 k,.str al,.str nm,.sl .no 6 (cMs args),.sl .no 2 (cDs dirs),.str on,.sl .no 7 (cSs sels),.str typ,.sl .no 10 (yJ G.1)]]=yJ (a++[.mk (n1+1) (.mk k al nm args dirs on sels) typ G.1]):=by
   rw[← zcO,zjs,ZF];rfl
  have hk3:ItK H b [.sl .no 6 (cEs sd),.str sq,.str sm] G.2 [m1,m2,m3] H3 o' (a.length+1):=by
   refine⟨hs3.own,hs3.kept b _ jl (zeS jow jl),fun c x hc hcb=>?_,fun c d e=>?_⟩
   ·have c1:=kk c x hc hcb
    have n2:c≠b9:=fun e=>by subst e;rw[hb9] at c1;cases c1
    have c2:=jk c x (by simp only[zc.upd,hcb,n2,if_false];exact c1) hcb
    exact hs3.kept c x c2 fun d e=>by rw[kn c d e] at hc;cases hc
   ·rcases hs3.new c d e with h|⟨d0,h⟩
    ·cases hx:H c with
     | none=>rfl
     | some x =>
      by_cases hcb:c=b
      ·subst hcb;rw[jl] at h;cases h
      ·have c1:=kk c x hx hcb
       have n2:c≠b9:=fun e=>by subst e;rw[hb9] at c1;cases c1
       rw[jk c x (by simp only[zc.upd,hcb,n2,if_false];exact c1) hcb] at h;cases h
    ·exact kn c d0 h
  simp(disch:=omega) only[wrap64,e1,go_sem]
  exact goJ (hJ (o',a++[.mk (n1+1) (.mk k al nm args dirs on sels) typ G.1],G.2) H3 ⟨by simpa[zbM] using hn,by simp[hal],by simp only;omega,by simpa using hk3⟩) (by simp(disch:=omega) only[wrap64,go_sem])
theorem zlm (a b:List UInt8):(AV.str a).keq (.str b)=decide (a=b):=by
 show (a==b)=_
 by_cases h:a=b<;>simp[h]
theorem zmT (n:List UInt8):∀ l,zaO (cSn l) (.str n)=if zQ n l=true then some (.bool true) else none
 | []=>rfl
 | x::r=>by
  have:=zmT n r
  simp only[cSn] at this
  simp only[cSn,List.map_cons,zaO,zlm,zQ,this]
  by_cases h:n=x
  ·subst h;simp
  ·have h':¬ x=n:=fun e=>h e.symm
   simp[h,h']
theorem zlT (n:List UInt8):∀ l,zQ n l=false→zbk (cSn l) (.str n) (.bool true)=cSn (l++[n])
 | [],_=>rfl
 | x::r,h=>by
  simp only[zQ] at h
  split at h
  ·cases h
  ·rename_i hx
   have hx':¬ n=x:=fun e=>hx e.symm
   have:=zlT n r h
   simp only[cSn] at this
   simp only[cSn,List.map_cons,zbk,zlm,hx',decide_false,Al7,if_false,this,Al6]
theorem zmK (n:List UInt8):∀ fr:List (List UInt8×List ItD),(zaO (cFr fr) (.str n)=none∧frL fr n=[])∨zaO (cFr fr) (.str n)=some (.sl .no 10 (yJ (frL fr n)))
 | []=>.inl ⟨rfl,rfl⟩
 | (a,u)::r=>by
  have:=zmK n r
  simp only[cFr,frL] at this
  simp only[cFr,frL,List.map_cons,zaO,zlm,List.find?_cons]
  by_cases h:n=a
  ·simp[h]
  ·simpa[h] using this
structure FlK (H:zc) (bm:Nat) (seen':List (List UInt8)) (H':zc) (o:Own) (n:Nat):Prop where
 own:zY H' o n 10
 seen:H' bm=some (.map (.one .s) (cSn seen'))
 kept:∀ c x,H c=some x→c≠bm→H' c=some x
 new:∀ c d,o=.tip c d→H c=none
theorem FlK.beside {H H1 H2:zc} {bm n n2:Nat} {s1 s2:List (List UInt8)} {o o2:Own} (h:FlK H bm s1 H1 o n) (h':FlK H1 bm s2 H2 o2 n2):FlK H bm s2 H2 o n:=by
 refine⟨zds h.own fun c k z hc=>h'.kept c _ hc fun e=>?_,h'.seen,fun c x hc hn=>h'.kept c x (h.kept c x hc hn) hn,h.new⟩
 subst e;rw[h.seen] at hc;cases hc
theorem FlK.upd {H H1:zc} {bm n b:Nat} {s1:List (List UInt8)} {o:Own} {x:AObj} (h:FlK H bm s1 H1 o n) (hb:H1 b=none):FlK H bm s1 (H1.upd b x) o n:=by
 have hne:∀ c y,H1 c=some y→c≠b:=fun c y h e=>by subst e;rw[hb] at h;cases h
 refine⟨h.own.upd hb,?_,fun c y hc hn=>?_,h.new⟩
 ·simp only[zc.upd,hne _ _ h.seen,if_false];exact h.seen
 ·have:=h.kept c y hc hn
  simp only[zc.upd,hne _ _ this,if_false];exact this
theorem FlK.app {H H1 H2:zc} {bm n n2:Nat} {s1:List (List UInt8)} {o o2:Own} (h:FlK H bm s1 H1 o n) (h':OwnS H1 o H2 o2 n2 10):FlK H bm s1 H2 o2 n2:=by
 have hmt:∀ d,o≠.tip bm d:=fun d e=>by
  have:=h.own;subst e
  have h2:H1 bm=some (.tip (d+n) 10):=this
  rw[h.seen] at h2;cases h2
 refine⟨h'.own,h'.kept bm _ h.seen hmt,fun c x hc hn=>h'.kept c x (h.kept c x hc hn) (fun d e=>by rw[h.new c d e] at hc;cases hc),fun c d e=>?_⟩
 rcases h'.new c d e with h3|⟨d0,h3⟩
 ·cases hx:H c with
  | none=>rfl
  | some x =>
   by_cases hcb:c=bm
   ·subst hcb;rw[h.seen] at h3;cases h3
   ·rw[h.kept c x hx hcb] at h3;cases h3
 ·exact h.new c d0 h3
theorem zr3 (fr:List (List UInt8×List ItD)) (b bf:Nat) (x0 x1 x2 x3 x5 x6:AV):∀ n:Nat,∀(l:List ItD) (seen:List (List UInt8)) (H:zc) (bm f:Nat),Ex fr n l→n≤f→n≤1000→H b=some (.cells [x0,x1,x2,x3,.mp bf,x5,x6])→H bf=some (.map (.one .s) (cFr fr))→H bm=some (.map (.one .s) (cSn seen))→bf≠bm →
  zj Tryz.prog 113 [.ptr b 0,.sl .no 10 (yJ l),.mp bm] H (fun e H'=>match e with|.ret v=>∃ o,v=.sl o 10 (yJ (flF fr f l seen).1)∧FlK H bm (flF fr f l seen).2 H' o (flF fr f l seen).1.length|.pan _=>False):=by
 intro n
 induction n using Nat.strongRecOn with
 | _ n ih =>
 intro l seen H bm f hx hf hn hb hbf hbm hne
 have l1:=Yp l
 have hll:l.length≤n:=by
  have h:∀(l:List ItD) n,Ex fr n l→l.length≤n:=by
   intro l
   induction l with
   | nil=>intro n _;simp
   | cons x r ih =>
    intro n h
    cases h with
    | cons hle h1 h2 h3 ha=>have:=ih _ h3;simp only[Al2];omega
  exact h l n hx
 have hfe:=ze0 (seen:=seen) hx hf
 have hpre:∀ done rest,l=done++rest→(done.foldl (ZE (flF fr (f-1)) fr) ([],seen)).1.length≤n:=fun done rest e=>by
  have h1:Ex fr n done:=Ex.pre (b:=rest) (by rw[← e];exact hx)
  rw[← ze0 h1 hf]
  exact zf2 h1 hf
 have hmid:∀ done no k al nm args dirs on sels typ sub rest,l=done++.mk no (.mk k al nm args dirs on sels) typ sub::rest→∃ i j,i+j+1≤n∧Ex fr i sub∧(k=1→Ex fr j (frL fr nm)):=fun done no k al nm args dirs on sels typ sub rest e=>by
  rw[e] at hx
  exact hx.mid
 have hst:∀ acc no k al nm args dirs on sels typ sub,ZE (flF fr (f-1)) fr acc (.mk no (.mk k al nm args dirs on sels) typ sub)=if k=0 then (acc.1++[.mk no (.mk k al nm args dirs on sels) typ sub],acc.2)
   else if k=2 then (acc.1++(flF fr (f-1) sub acc.2).1,(flF fr (f-1) sub acc.2).2)
   else if k=1∧zQ nm acc.2=false then (acc.1++(flF fr (f-1) (frL fr nm) (acc.2++[nm])).1,(flF fr (f-1) (frL fr nm) (acc.2++[nm])).2) else acc:=fun _ _ _ _ _ _ _ _ _ _ _=>rfl
 generalize hF:flF fr f l seen=F at *
 generalize hg':ZE (flF fr (f-1)) fr=stp at *
 have hfit:∀ s,KT.fits (.one .s) (.str s)=true:=fun _=>rfl
 refine zj.goO ir113 ck113 (Al4 _) fun KP Q hQ hP=>?_
 simp(disch:=omega) only[ir113,l1,go_sem]
 refine zf l 12 (fun x:Own×(List ItD×List (List UInt8))=>[(7,.sl x.1 10 (yJ x.2.1))]) (fun done rest x H'=>x.2=done.foldl stp ([],seen)∧rest.foldl stp x.2=F∧FlK H bm x.2.2 H' x.1 x.2.1.length) (.nil,([],seen)) (by simp(disch:=omega) only[yJ,go_sem]) ⟨rfl,hfe.symm,rfl,hbm,fun c x hc _=>hc,fun c d e=>by cases e⟩ ?_ ?_
 ·rintro⟨o1,a,sn⟩ H1 J ⟨_,hn1,hk⟩ hlt
  simp only[List.foldl] at hn1
  subst hn1
  simp(disch:=omega) only[l1,hlt,go_sem]
  exact hQ _ _ H1 H1 [.sl o1 10 (yJ a)] nofun rfl (Low.refl _) ⟨o1,rfl,hk⟩
 ·rintro done x rest ⟨o1,a,sn⟩ H1 J hd hlt hlt2 ⟨hd1,hn1,hk⟩ hJ
  have hg:=zbT hd
  rw[List.foldl_cons] at hn1
  simp only at hd1 hn1
  replace hk:FlK H bm sn H1 o1 a.length:=hk
  have hp1:=hpre (done++[x]) rest (by rw[hd];simp)
  rw[List.foldl_append,← hd1,List.foldl_cons,List.foldl_nil] at hp1
  have hd2:stp (a,sn) x=(done++[x]).foldl stp ([],seen):=by rw[List.foldl_append,← hd1];rfl
  obtain⟨no,⟨k,al,nm,args,dirs,on,sels⟩,typ,sub⟩:=x
  obtain⟨i,j,hij,hx1,hx2⟩:=hmid done no k al nm args dirs on sels typ sub rest hd
  have hstx:=hst (a,sn) no k al nm args dirs on sels typ sub
  have hbm1:=hk.seen
  have hb1:=hk.kept b _ hb fun e=>by subst e;rw[hbm] at hb;cases hb
  have hbf1:=hk.kept bf _ hbf hne
  have h3:=Yp a
  rw[ZF] at hg
  simp(disch:=omega) only[l1,hlt,hg,go_sem]
  refine zb fun b9 hb9=>?_
  have hu:=hk.upd (x:=.cells [.int .i64 no,.int .i64 k,.str al,.str nm,.sl .no 6 (cMs args),.sl .no 2 (cDs dirs),.str on,.sl .no 7 (cSs sels),.str typ,.sl .no 10 (yJ sub)]) hb9
  have n1:b≠b9:=fun e=>by subst e;rw[hb1] at hb9;cases hb9
  have n2:bf≠b9:=fun e=>by subst e;rw[hbf1] at hb9;cases hb9
  have n3:bm≠b9:=fun e=>by subst e;rw[hbm1] at hb9;cases hb9
  have c9:(H1.upd b9 (.cells [.int .i64 no,.int .i64 k,.str al,.str nm,.sl .no 6 (cMs args),.sl .no 2 (cDs dirs),.str on,.sl .no 7 (cSs sels),.str typ,.sl .no 10 (yJ sub)])) b9=some (.cells [.int .i64 no,.int .i64 k,.str al,.str nm,.sl .no 6 (cMs args),.sl .no 2 (cDs dirs),.str on,.sl .no 7 (cSs sels),.str typ,.sl .no 10 (yJ sub)]):=upd_same ..
  have cb:(H1.upd b9 (.cells [.int .i64 no,.int .i64 k,.str al,.str nm,.sl .no 6 (cMs args),.sl .no 2 (cDs dirs),.str on,.sl .no 7 (cSs sels),.str typ,.sl .no 10 (yJ sub)])) b=some (.cells [x0,x1,x2,x3,.mp bf,x5,x6]):=by simp only[zc.upd,n1,if_false];exact hb1
  have cf:(H1.upd b9 (.cells [.int .i64 no,.int .i64 k,.str al,.str nm,.sl .no 6 (cMs args),.sl .no 2 (cDs dirs),.str on,.sl .no 7 (cSs sels),.str typ,.sl .no 10 (yJ sub)])) bf=some (.map (.one .s) (cFr fr)):=by simp only[zc.upd,n2,if_false];exact hbf1
  have cm:=hu.seen
  by_cases k0:k=0
  ·have k0':=eq_true k0
   rw[if_pos k0] at hstx
   rw[hstx] at hn1 hp1 hd2
   simp only[Al5,Al2,Al3] at hp1
   simp(disch:=omega) only[k0',go_sem]
   refine zu (by rw[h3];exact hu.own) ?_ ?_ fun o' H3 hs3=>?_
   ·simp only[h3,Al2,Al3];omega
   ·simp only[h3,Al2,Al3,maxLen];omega
   simp only[h3,Al2,Al3,Nat.zero_add] at hs3
   have e1:yJ a++[[.int .i64 no,.int .i64 k,.str al,.str nm,.sl .no 6 (cMs args),.sl .no 2 (cDs dirs),.str on,.sl .no 7 (cSs sels),.str typ,.sl .no 10 (yJ sub)]]=yJ (a++[.mk no (.mk k al nm args dirs on sels) typ sub]):=by
    rw[← zcO,zjs,ZF]
   simp(disch:=omega) only[wrap64,e1,go_sem]
   exact goJ (hJ (o',(a++[.mk no (.mk k al nm args dirs on sels) typ sub],sn)) H3 ⟨hd2,hn1,by simpa using hu.app hs3⟩) (by simp(disch:=omega) only[wrap64,go_sem])
  rw[if_neg k0] at hstx
  by_cases k2:k=2
  ·have k2':=eq_true k2
   rw[if_pos k2] at hstx
   rw[hstx] at hn1 hp1 hd2
   have hih:=ih i (by omega) sub sn _ bm (f-1) hx1 (by omega) (by omega) cb cf cm hne
   simp only[Al5] at hp1
   generalize hG:flF fr (f-1) sub sn=G at *
   have h4:=Yp G.1
   simp(disch:=omega) only[k0,k2',go_sem]
   refine yH (XP:=fun _ _=>False) hih (fun v H2 ⟨o2,e2,hk2⟩=>?_) (fun _ _ h=>h.elim)
   subst e2
   have hu2:=hu.beside hk2
   simp(disch:=omega) only[go_sem]
   refine zu (by rw[h3];exact hu2.own) ?_ ?_ fun o' H3 hs3=>?_
   ·simp only[h3,h4];omega
   ·simp only[h3,h4,maxLen];omega
   simp only[h3,h4] at hs3
   simp(disch:=omega) only[wrap64,zdO,zcO,go_sem]
   exact goJ (hJ (o',(a++G.1,G.2)) H3 ⟨hd2,hn1,by simpa using hu2.app hs3⟩) (by simp(disch:=omega) only[wrap64,go_sem])
  rw[if_neg k2] at hstx
  by_cases k1:k=1
  case neg =>
   rw[if_neg (fun h=>k1 h.1)] at hstx
   rw[hstx] at hn1 hp1 hd2
   simp(disch:=omega) only[k0,k2,k1,go_sem]
   exact goJ (hJ (o1,(a,sn)) _ ⟨hd2,hn1,hu⟩) (by simp(disch:=omega) only[wrap64,go_sem])
  have k1':=eq_true k1
  have hmg:=zmT nm sn
  cases hh:zQ nm sn with
  | true =>
   rw[if_neg (fun h=>by rw[hh] at h;cases h.2)] at hstx
   rw[hstx] at hn1 hp1 hd2
   rw[if_pos hh] at hmg
   simp(disch:=omega) only[k0,k2,k1',cm,n3,Ne.symm n3,hbm1,hmg,hfit,YB,Option.getD_some,go_sem]
   exact goJ (hJ (o1,(a,sn)) _ ⟨hd2,hn1,hu⟩) (by simp(disch:=omega) only[wrap64,go_sem])
  | false =>
   rw[if_pos ⟨k1,hh⟩] at hstx
   rw[hstx] at hn1 hp1 hd2
   rw[if_neg (by rw[hh];simp)] at hmg
   have hms:=zlT nm sn hh
   have hxj:=hx2 k1
   simp only[Al5] at hp1
   generalize hH2:H1.upd b9 (.cells [.int .i64 no,.int .i64 k,.str al,.str nm,.sl .no 6 (cMs args),.sl .no 2 (cDs dirs),.str on,.sl .no 7 (cSs sels),.str typ,.sl .no 10 (yJ sub)])=H2 at *
   have nbm:b≠bm:=fun e=>by subst e;rw[cb] at cm;cases cm
   have nm9:b9≠bm:=Ne.symm n3
   have cb4:(H2.upd bm (.map (.one .s) (cSn (sn++[nm])))) b=some (.cells [x0,x1,x2,x3,.mp bf,x5,x6]):=by simp only[zc.upd,nbm,if_false];exact cb
   have cf4:(H2.upd bm (.map (.one .s) (cSn (sn++[nm])))) bf=some (.map (.one .s) (cFr fr)):=by simp only[zc.upd,hne,if_false];exact cf
   have c94:(H2.upd bm (.map (.one .s) (cSn (sn++[nm])))) b9=some (.cells [.int .i64 no,.int .i64 k,.str al,.str nm,.sl .no 6 (cMs args),.sl .no 2 (cDs dirs),.str on,.sl .no 7 (cSs sels),.str typ,.sl .no 10 (yJ sub)]):=by simp only[zc.upd,nm9,if_false];exact c9
   have hu4:FlK H bm (sn++[nm]) (H2.upd bm (.map (.one .s) (cSn (sn++[nm])))) o1 a.length:=by
    refine⟨zds hu.own fun c k z hc=>?_,upd_same ..,fun c x hc hn=>?_,hu.new⟩
    ·have:c≠bm:=fun e=>by subst e;rw[cm] at hc;cases hc
     simp only[zc.upd,this,if_false];exact hc
    ·simp only[zc.upd,hn,if_false];exact hu.kept c x hc hn
   have hih:=ih j (by omega) (frL fr nm) (sn++[nm]) (H2.upd bm (.map (.one .s) (cSn (sn++[nm])))) bm (f-1) hxj (by omega) (by omega) cb4 cf4 (upd_same ..) hne
   generalize hG:flF fr (f-1) (frL fr nm) (sn++[nm])=G at *
   have h4:=Yp G.1
   generalize hH4:H2.upd bm (.map (.one .s) (cSn (sn++[nm])))=H4 at *
   have call:∀ w,w=AV.sl .no 10 (yJ (frL fr nm))∨(w=.sl .nil 10 []∧frL fr nm=[])→zj Tryz.prog 113 [.ptr b 0,w,.mp bm] H4 (fun e H'=>match e with|.ret v=>∃ o,v=.sl o 10 (yJ G.1)∧FlK H4 bm G.2 H' o G.1.length|.pan _=>False):=fun w hw=>by
    rcases hw with rfl|⟨rfl,e⟩
    ·exact hih
    ·rw[e] at hih
     exact zj.low hih
   have fin:∀ v H5,(∃ o,v=AV.sl o 10 (yJ G.1)∧FlK H4 bm G.2 H5 o G.1.length)→∃ o2,v=AV.sl o2 10 (yJ G.1)∧FlK H bm G.2 H5 o1 a.length:=fun v H5 ⟨o2,e2,hk2⟩=>⟨o2,e2,hu4.beside hk2⟩
   rcases zmK nm fr with ⟨hmf,hfe2⟩|hmf
   ·simp(disch:=omega) only[k0,k2,k1',hb1,hbf1,n1,n2,Ne.symm n1,Ne.symm n2,n3,Ne.symm n3,nbm,Ne.symm nbm,hne,Ne.symm hne,hbm1,hmg,hfit,YB,Option.getD_none,Option.getD_some,hms,hmf,go_sem]
    rw[hH2,hH4]
    refine yH (XP:=fun _ _=>False) (call _ (.inr ⟨rfl,hfe2⟩)) (fun v H5 h5=>?_) (fun _ _ h=>h.elim)
    obtain⟨o2,rfl,hu2⟩:=fin v H5 h5
    simp(disch:=omega) only[go_sem]
    refine zu (by rw[h3];exact hu2.own) ?_ ?_ fun o' H3 hs3=>?_
    ·simp only[h3,h4];omega
    ·simp only[h3,h4,maxLen];omega
    simp only[h3,h4] at hs3
    simp(disch:=omega) only[wrap64,zdO,zcO,go_sem]
    exact goJ (hJ (o',(a++G.1,G.2)) H3 ⟨hd2,hn1,by simpa using hu2.app hs3⟩) (by simp(disch:=omega) only[wrap64,go_sem])
   ·simp(disch:=omega) only[k0,k2,k1',hb1,hbf1,n1,n2,Ne.symm n1,Ne.symm n2,n3,Ne.symm n3,nbm,Ne.symm nbm,hne,Ne.symm hne,hbm1,hmg,hfit,YB,Option.getD_none,Option.getD_some,hms,hmf,go_sem]
    rw[hH2,hH4]
    refine yH (XP:=fun _ _=>False) (call _ (.inl rfl)) (fun v H5 h5=>?_) (fun _ _ h=>h.elim)
    obtain⟨o2,rfl,hu2⟩:=fin v H5 h5
    simp(disch:=omega) only[go_sem]
    refine zu (by rw[h3];exact hu2.own) ?_ ?_ fun o' H3 hs3=>?_
    ·simp only[h3,h4];omega
    ·simp only[h3,h4,maxLen];omega
    simp only[h3,h4] at hs3
    simp(disch:=omega) only[wrap64,zdO,zcO,go_sem]
    exact goJ (hJ (o',(a++G.1,G.2)) H3 ⟨hd2,hn1,by simpa using hu2.app hs3⟩) (by simp(disch:=omega) only[wrap64,go_sem])
theorem zoh (fr:List (List UInt8×List ItD)) (b bf:Nat) (x0 x1 x2 x3 x5 x6:AV) (y:ItD) (H:zc) (n:Nat) (hx:Ex fr n y.sub) (hn:n≤64) (hb:H b=some (.cells [x0,x1,x2,x3,.mp bf,x5,x6])) (hbf:H bf=some (.map (.one .s) (cFr fr))) :
  zj Tryz.prog 209 [.ptr b 0,.agg (cIt y)] H (fun e H'=>match e with|.ret v=>∃ o,v=.sl o 10 (yJ (yT fr y))∧∀ c x,H c=some x→H' c=some x|.pan _=>False):=by
 have hfl:=fun H bm hb hbf hbm hne=>zr3 fr b bf x0 x1 x2 x3 x5 x6 n y.sub [] H bm 64 hx hn (by omega) hb hbf hbm hne
 have e0:yT fr y=(flF fr 64 y.sub []).1:=rfl
 generalize flF fr 64 y.sub []=G at *
 rw[e0]
 obtain⟨no,⟨k,al,nm,args,dirs,on,sels⟩,typ,sub⟩:=y
 simp only[ItD.sub] at hfl
 rw[ZF]
 refine zj.goO ir209 ck209 (Al4 _) fun KP Q hQ hP=>?_
 simp(disch:=omega) only[ir209,go_sem]
 refine zb fun bm hbm=>?_
 have n1:b≠bm:=fun e=>by subst e;rw[hb] at hbm;cases hbm
 have n2:bf≠bm:=fun e=>by subst e;rw[hbf] at hbm;cases hbm
 simp(disch:=omega) only[go_sem]
 refine yH (XP:=fun _ _=>False) (hfl _ bm (by simp only[zc.upd,n1,if_false];exact hb) (by simp only[zc.upd,n2,if_false];exact hbf) (upd_same ..) n2) (fun v H2 ⟨o2,e2,hk⟩=>?_) (fun _ _ h=>h.elim)
 subst e2
 simp(disch:=omega) only[go_sem]
 exact hQ _ _ H2 H2 [.sl o2 10 (yJ G.1)] nofun rfl (Low.refl _) ⟨o2,rfl,fun c x hc=>by
  have hn:c≠bm:=fun e=>by subst e;rw[hbm] at hc;cases hc
  exact hk.kept c x (by simp only[zc.upd,hn,if_false];exact hc) hn⟩
theorem zug (i j k l:Nat):(AV.agg [.int .i64 i,.int .i64 j]).keq (.agg [.int .i64 k,.int .i64 l])=decide ((i,j)=(k,l)):=by
 show (((i:Int)==k)&&(((j:Int)==l)&&true))=_
 by_cases h1:i=k<;>by_cases h2:j=l<;>simp[h1,h2]
 all_goals omega
theorem ziB (i j:Nat):∀ l:PrS,zaO (cPr l) (.agg [.int .i64 i,.int .i64 j])=(Yl l (i,j)).map AV.bool
 | []=>rfl
 | ((a,c),u)::r=>by
  have:=ziB i j r
  simp only[cPr,Yl] at this
  simp only[cPr,Yl,List.map_cons,zaO,zug,this,List.find?_cons]
  by_cases h:(i,j)=(a,c)
  ·simp[h]
  ·simp[h]
theorem ziu (i j:Nat) (v:Bool):∀ l:PrS,zbk (cPr l) (.agg [.int .i64 i,.int .i64 j]) (.bool v)=cPr (ZC l (i,j) v)
 | []=>rfl
 | ((a,c),u)::r=>by
  have:=ziu i j v r
  simp only[cPr] at this
  simp only[cPr,ZC,List.map_cons,zbk,zug,this]
  by_cases h:(i,j)=(a,c)
  ·obtain⟨rfl,rfl⟩:=Prod.mk.inj h
   simp
  ·simp[h]
abbrev kPr:KT:=.agg [.i .i64,.i .i64]
structure LkH (s:SchD) (fr:List (List UInt8×List ItD)) (b bf bs bp no:Nat) (S:yi) (H:zc):Prop where
 look:H b=some (.cells (zq s++[.int .i64 no,.mp bf,.mp bs,.mp bp]))
 frs:H bf=some (.map (.one .s) (cFr fr))
 sh:H bs=some (.map kPr (cPr S.1))
 pr:H bp=some (.map kPr (cPr S.2))
 ne:bs≠bp
def LkK (bs bp:Nat) (H H':zc):Prop:=∀ c x,H c=some x→c≠bs→c≠bp→H' c=some x
theorem LkH.keep {s:SchD} {fr:List (List UInt8×List ItD)} {b bf bs bp no:Nat} {S:yi} {H H':zc} (h:LkH s fr b bf bs bp no S H) (hk:∀ c x,H c=some x→H' c=some x):LkH s fr b bf bs bp no S H' :=
 ⟨hk _ _ h.look,hk _ _ h.frs,hk _ _ h.sh,hk _ _ h.pr,h.ne⟩
theorem LkK.trans {bs bp:Nat} {H H1 H2:zc} (h:LkK bs bp H H1) (h':LkK bs bp H1 H2):LkK bs bp H H2:=fun c x hc n1 n2=>h' c x (h c x hc n1 n2) n1 n2
theorem LkK.upd {bs bp:Nat} {H H1:zc} (h:LkK bs bp H H1) {c:Nat} {x:AObj} (hc:H1 c=none):LkK bs bp H (H1.upd c x):=fun d y hd n1 n2=>by
 have:=h d y hd n1 n2
 have hne:d≠c:=fun e=>by subst e;rw[hc] at this;cases this
 simp only[zc.upd,hne,if_false];exact this
theorem Zz {H:zc} {c:Nat} {x:AObj} (hc:H c=none):∀ d y,H d=some y→(H.upd c x) d=some y:=fun d y hd=>by
 have hne:d≠c:=fun e=>by subst e;rw[hc] at hd;cases hd
 simp only[zc.upd,hne,if_false];exact hd
def zfw (s:SchD) (fr:List (List UInt8×List ItD)) (b bf bs bp no:Nat) (gf:FuncId) (g:ItD→ItD→yi→Bool×yi) (x y:ItD):Prop :=
 ∀ S H,LkH s fr b bf bs bp no S H→zj Tryz.prog gf [.ptr b 0,.agg (cIt x),.agg (cIt y)] H (fun e H'=>match e with|.ret v=>v=.bool (g x y S).1∧LkH s fr b bf bs bp no (g x y S).2 H'∧LkK bs bp H H'|.pan _=>False)
theorem zcZ (x:ItD):∃ no k al nm args dirs on sels typ sub,x=.mk no (.mk k al nm args dirs on sels) typ sub:=by
 obtain⟨no,⟨k,al,nm,args,dirs,on,sels⟩,typ,sub⟩:=x
 exact⟨_,_,_,_,_,_,_,_,_,_,rfl⟩
theorem zl8 (s:SchD) (fr:List (List UInt8×List ItD)) (b bf bs bp no:Nat) (gf:FuncId) (g:ItD→ItD→yi→Bool×yi) (x y:ItD) (n m:Nat) (hcl:Program.callable Tryz.prog gf=true) (hx:Ex fr n x.sub) (hn:n≤64) (hy:Ex fr m y.sub) (hm:m≤64)
  (hg:∀ u∈yT fr x,∀ v∈yT fr y,zfw s fr b bf bs bp no gf g u v) (S:yi) (H:zc) (hH:LkH s fr b bf bs bp no S H) :
  zj Tryz.prog 155 [.ptr b 0,.agg (cIt x),.agg (cIt y),.clo gf [.ptr b 0] []] H (fun e H'=>match e with|.ret v=>v=.bool (Y7 g (yT fr x) (yT fr y) S).1∧LkH s fr b bf bs bp no (Y7 g (yT fr x) (yT fr y) S).2 H'∧LkK bs bp H H'|.pan _=>False):=by
 obtain⟨sd,sq,sm⟩:=s
 have hbx:=fun H hb hbf=>zoh fr b bf (.sl .no 6 (cEs sd)) (.str sq) (.str sm) (.int .i64 no) (.mp bs) (.mp bp) x H n hx hn hb hbf
 have hby:=fun H hb hbf=>zoh fr b bf (.sl .no 6 (cEs sd)) (.str sq) (.str sm) (.int .i64 no) (.mp bs) (.mp bp) y H m hy hm hb hbf
 have lx:=zf2 (seen:=[]) hx hn
 have ly:=zf2 (seen:=[]) hy hm
 rw[show (flF fr 64 x.sub []).1=yT fr x from rfl] at lx
 rw[show (flF fr 64 y.sub []).1=yT fr y from rfl] at ly
 generalize yT fr x=la at *
 generalize yT fr y=lb at *
 have l1:=Yp la
 have l2:=Yp lb
 generalize hF:Y7 g la lb S=F at *
 obtain⟨xno,xk,xal,xnm,xargs,xdirs,xon,xsels,xtyp,xsub,rfl⟩:=zcZ x
 obtain⟨yno,yk,yal,ynm,yargs,ydirs,yon,ysels,ytyp,ysub,rfl⟩:=zcZ y
 rw[ZF] at hbx hby
 rw[ZF,ZF]
 have fin:∀ r S' H',F=(r,S')→LkH ⟨sd,sq,sm⟩ fr b bf bs bp no S' H'→LkK bs bp H H'→(AV.bool r=.bool F.1∧LkH ⟨sd,sq,sm⟩ fr b bf bs bp no F.2 H'∧LkK bs bp H H'):=fun r S' H' e h1 h2=>by rw[e];exact⟨rfl,h1,h2⟩
 refine zj.goO ir155 ck155 (Al4 _) fun KP Q hQ hP=>?_
 simp(disch:=omega) only[ir155,go_sem]
 refine yH (XP:=fun _ _=>False) (hby _ hH.look hH.frs) (fun v H1 ⟨o1,e1,hk1⟩=>?_) (fun _ _ h=>h.elim)
 subst e1
 have hH1:=hH.keep hk1
 simp(disch:=omega) only[go_sem]
 refine yH (XP:=fun _ _=>False) (hbx _ hH1.look hH1.frs) (fun v H2 ⟨o2,e2,hk2⟩=>?_) (fun _ _ h=>h.elim)
 subst e2
 have hH2:=hH1.keep hk2
 simp(disch:=omega) only[l1,go_sem]
 refine zf la 21 (fun _:yi=>[]) (fun done rest S' H'=>Y7 g rest lb S'=F∧LkH ⟨sd,sq,sm⟩ fr b bf bs bp no S' H'∧LkK bs bp H H') S (by simp(disch:=omega) only[go_sem]) ⟨hF,hH2,fun c x hc _ _=>hk2 c x (hk1 c x hc)⟩ ?_ ?_
 ·rintro S3 H3 J ⟨hn3,hH3,hK3⟩ hlt
  simp only[Y7] at hn3
  simp(disch:=omega) only[l1,hlt,go_sem]
  exact hQ _ _ H3 H3 [.bool true] nofun rfl (Low.refl _) (fin _ _ _ hn3.symm hH3 hK3)
 ·rintro done x rest S3 H3 J hd hlt _ ⟨hn3,hH3,hK3⟩ hJ
  have hg1:=zbT hd
  have hxm:x∈la:=by rw[hd];simp
  simp only[Y7] at hn3
  have hkx:=zrr x.x
  have hgx:=hg x hxm
  generalize hR:zg5 g x lb S3=R at *
  obtain⟨xno,xk,xal,xnm,xargs,xdirs,xon,xsels,xtyp,xsub,rfl⟩:=zcZ x
  simp only[ItD.x] at hkx
  rw[ZF] at hg1
  rw[Zb] at hkx
  simp(disch:=omega) only[l1,hlt,hg1,go_sem]
  refine zb fun b11 hb11=>?_
  have hH4:=hH3.keep (Zz (x:=.cells [.int .i64 xno,.int .i64 xk,.str xal,.str xnm,.sl .no 6 (cMs xargs),.sl .no 2 (cDs xdirs),.str xon,.sl .no 7 (cSs xsels),.str xtyp,.sl .no 10 (yJ xsub)]) hb11)
  have hK4:=hK3.upd (x:=.cells [.int .i64 xno,.int .i64 xk,.str xal,.str xnm,.sl .no 6 (cMs xargs),.sl .no 2 (cDs xdirs),.str xon,.sl .no 7 (cSs xsels),.str xtyp,.sl .no 10 (yJ xsub)]) hb11
  have ns:b11≠bs:=fun e=>by subst e;rw[hH3.sh] at hb11;cases hb11
  have np:b11≠bp:=fun e=>by subst e;rw[hH3.pr] at hb11;cases hb11
  simp(disch:=omega) only[l2,go_sem]
  refine zf lb 27 (fun _:yi=>[]) (fun done rest S' H'=>zg5 g (.mk xno (.mk xk xal xnm xargs xdirs xon xsels) xtyp xsub) rest S'=R∧LkH ⟨sd,sq,sm⟩ fr b bf bs bp no S' H'∧LkK bs bp H H'∧H' b11=some (.cells [.int .i64 xno,.int .i64 xk,.str xal,.str xnm,.sl .no 6 (cMs xargs),.sl .no 2 (cDs xdirs),.str xon,.sl .no 7 (cSs xsels),.str xtyp,.sl .no 10 (yJ xsub)])) S3 (by simp(disch:=omega) only[go_sem]) ⟨hR,hH4,hK4,upd_same ..⟩ ?_ ?_
  ·rintro S5 H5 J2 ⟨hn5,hH5,hK5,_⟩ hlt2
   simp only[zg5] at hn5
   rw[← hn5] at hn3
   simp only at hn3
   simp(disch:=omega) only[l2,hlt2,go_sem]
   exact goJ (hJ S5 H5 ⟨hn3,hH5,hK5⟩) (by simp(disch:=omega) only[wrap64,go_sem])
  ·rintro done2 y rest2 S5 H5 J2 hd2 hlt2 _ ⟨hn5,hH5,hK5,c11⟩ hJ2
   have hg2:=zbT hd2
   have hym:y∈lb:=by rw[hd2];simp
   have hgy:=hgx y hym
   have hky:=zrr y.x
   simp only[zg5] at hn5
   generalize hG:g (.mk xno (.mk xk xal xnm xargs xdirs xon xsels) xtyp xsub) y S5=G at *
   obtain⟨yno,yk,yal,ynm,yargs,ydirs,yon,ysels,ytyp,ysub,rfl⟩:=zcZ y
   simp only[ItD.x] at hky hn5
   rw[ZF] at hg2
   rw[Zb] at hky
   simp(disch:=omega) only[l2,hlt2,hg2,go_sem]
   refine zb fun b13 hb13=>?_
   have hne:b11≠b13:=fun e=>by subst e;rw[c11] at hb13;cases hb13
   have hH6:=hH5.keep (Zz (x:=.cells [.int .i64 yno,.int .i64 yk,.str yal,.str ynm,.sl .no 6 (cMs yargs),.sl .no 2 (cDs ydirs),.str yon,.sl .no 7 (cSs ysels),.str ytyp,.sl .no 10 (yJ ysub)]) hb13)
   have hK6:=hK5.upd (x:=.cells [.int .i64 yno,.int .i64 yk,.str yal,.str ynm,.sl .no 6 (cMs yargs),.sl .no 2 (cDs ydirs),.str yon,.sl .no 7 (cSs ysels),.str ytyp,.sl .no 10 (yJ ysub)]) hb13
   have c11':=Zz (x:=.cells [.int .i64 yno,.int .i64 yk,.str yal,.str ynm,.sl .no 6 (cMs yargs),.sl .no 2 (cDs ydirs),.str yon,.sl .no 7 (cSs ysels),.str ytyp,.sl .no 10 (yJ ysub)]) hb13 _ _ c11
   simp(disch:=omega) only[c11,hne,Ne.symm hne,go_sem]
   refine za hkx ?_
   simp(disch:=omega) only[c11,hne,Ne.symm hne,go_sem]
   refine za hky ?_
   by_cases hkk:Y6 (.mk xk xal xnm xargs xdirs xon xsels)=Y6 (.mk yk yal ynm yargs ydirs yon ysels)
   case neg =>
    simp only[hkk,if_false] at hn5
    simp(disch:=omega) only[c11,hne,Ne.symm hne,hkk,go_sem]
    exact goJ (hJ2 S5 _ ⟨hn5,hH6,hK6,c11'⟩) (by simp(disch:=omega) only[wrap64,go_sem])
   simp only[hkk,if_true] at hn5
   have hkk':=eq_true hkk
   have hcall:=hgy S5 _ hH6
   rw[ZF,ZF,hG] at hcall
   obtain⟨gr,gS⟩:=G
   simp(disch:=omega) only[c11,hne,Ne.symm hne,hkk',go_sem]
   refine⟨hcl,yH (XP:=fun _ _=>False) hcall (fun v H7 ⟨e7,hH7,hK7⟩=>?_) (fun _ _ h=>h.elim)⟩
   subst e7
   have c117:=hK7 b11 _ c11' ns np
   cases gr with
   | true =>
    simp only at hn5
    simp(disch:=omega) only[go_sem]
    exact goJ (hJ2 gS H7 ⟨hn5,hH7,hK6.trans hK7,c117⟩) (by simp(disch:=omega) only[wrap64,go_sem])
   | false =>
    simp only at hn5
    rw[← hn5] at hn3
    simp only at hn3
    simp(disch:=omega) only[go_sem]
    exact hQ _ _ H7 H7 [.bool false] nofun rfl (Low.refl _) (fin _ _ _ hn3.symm hH7 (hK6.trans hK7))
theorem shG (s:SchD) (fr:List (List UInt8×List ItD)) (b bf bs bp no:Nat) (hs:zJ s≤Lim) (n m:Nat) (g:ItD→ItD→yi→Bool×yi) (x y:ItD) (hx:Ex fr n x.sub) (hn:n≤64) (hy:Ex fr m y.sub) (hm:m≤64)
  (hg:∀ u∈yT fr x,∀ v∈yT fr y,zfw s fr b bf bs bp no 153 g u v):zfw s fr b bf bs bp no 153 (shB s fr g) x y:=by
 intro S H hH
 have hac:=zl8 s fr b bf bs bp no 153 g x y n m (by kernel_rfl) hx hn hy hm hg S
 have hfx:=zfq s x.typ x.x.nm hs
 have hfy:=zfq s y.typ y.x.nm hs
 have hsh:=fun a c=>zuo s a c (yc hs)
 have hgx:=ziB x.no y.no S.1
 have hst:=fun v l=>ziu x.no y.no v l
 have e0:shB s fr g x y S=match Yl S.1 (x.no,y.no) with
  | some r=>(r,S)
  | none =>
   if zek s ((yw s x.typ x.x.nm).getD zF).t ((yw s y.typ y.x.nm).getD zF).t=true then
    ((Y7 g (yT fr x) (yT fr y) S).1,(ZC (Y7 g (yT fr x) (yT fr y) S).2.1 (x.no,y.no) (Y7 g (yT fr x) (yT fr y) S).1,(Y7 g (yT fr x) (yT fr y) S).2.2))
   else (false,(ZC S.1 (x.no,y.no) false,S.2)):=rfl
 generalize hF:shB s fr g x y S=F at *
 generalize Y7 g (yT fr x) (yT fr y) S=A at *
 have hb:=hH.look
 have hbs:=hH.sh
 have hfit:∀ i j:Nat,KT.fits kPr (.agg [.int .i64 i,.int .i64 j])=true:=fun _ _=>rfl
 have fin:∀ r S' H',F=(r,S')→LkH s fr b bf bs bp no S' H'→LkK bs bp H H'→(AV.bool r=.bool F.1∧LkH s fr b bf bs bp no F.2 H'∧LkK bs bp H H'):=fun r S' H' e h1 h2=>by rw[e];exact⟨rfl,h1,h2⟩
 have setS:∀ S' H' v,LkH s fr b bf bs bp no S' H'→LkK bs bp H H'→LkH s fr b bf bs bp no (ZC S'.1 (x.no,y.no) v,S'.2) (H'.upd bs (.map kPr (cPr (ZC S'.1 (x.no,y.no) v))))∧LkK bs bp H (H'.upd bs (.map kPr (cPr (ZC S'.1 (x.no,y.no) v)))):=fun S' H' v h hk=>by
  have n1:b≠bs:=fun e=>by have:=h.look;rw[e,h.sh] at this;cases this
  have n2:bf≠bs:=fun e=>by have:=h.frs;rw[e,h.sh] at this;cases this
  refine⟨⟨by simp only[zc.upd,n1,if_false];exact h.look,by simp only[zc.upd,n2,if_false];exact h.frs,upd_same ..,by simp only[zc.upd,Ne.symm h.ne,if_false];exact h.pr,h.ne⟩,fun c z hc h1 h2=>?_⟩
  simp only[zc.upd,h1,if_false];exact hk c z hc h1 h2
 generalize (yw s x.typ x.x.nm).isSome=fsx at *
 generalize (yw s x.typ x.x.nm).getD zF=wx at *
 generalize (yw s y.typ y.x.nm).isSome=fsy at *
 generalize (yw s y.typ y.x.nm).getD zF=wy at *
 replace hsh:=hsh wx.t wy.t
 generalize zek s wx.t wy.t=sx at *
 obtain⟨fn,fp,⟨f1,f2,f3⟩,fd⟩:=wx
 obtain⟨gn,gp,⟨g1,g2,g3⟩,gd⟩:=wy
 obtain⟨xno,xk,xal,xnm,xargs,xdirs,xon,xsels,xtyp,xsub,rfl⟩:=zcZ x
 obtain⟨yno,yk,yal,ynm,yargs,ydirs,yon,ysels,ytyp,ysub,rfl⟩:=zcZ y
 simp only[ItD.no,ItD.x,ItD.typ,SelD.nm] at hfx hfy hgx hst e0 setS
 obtain⟨sd,sq,sm⟩:=s
 have hcs:zq ⟨sd,sq,sm⟩=[.sl .no 6 (cEs sd),.str sq,.str sm]:=rfl
 simp only[hcs,Al6,zc8] at hfx hfy hsh hb
 simp only[cTy] at hsh
 rw[zaB] at hfx hfy
 rw[ZF,ZF] at hac ⊢
 have nbs:b≠bs:=fun e=>by subst e;rw[hb] at hbs;cases hbs
 refine zj.goO ir153 ck153 (Al4 _) fun KP Q hQ hP=>?_
 simp(disch:=omega) only[ir153,go_sem]
 refine zb fun b7 hb7=>?_
 have n7:b≠b7:=fun e=>by subst e;rw[hb] at hb7;cases hb7
 have n7s:bs≠b7:=fun e=>by subst e;rw[hbs] at hb7;cases hb7
 have hH7:=hH.keep (Zz (x:=.cells [.int .i64 xno,.int .i64 yno]) hb7)
 have hK7:LkK bs bp H (H.upd b7 (.cells [.int .i64 xno,.int .i64 yno])):=LkK.upd (fun c z hc _ _=>hc) hb7
 cases hpg:Yl S.1 (xno,yno) with
 | some r =>
  rw[hpg] at hgx e0
  simp only[zaF] at hgx
  simp(disch:=omega) only[n7,Ne.symm n7,n7s,Ne.symm n7s,nbs,Ne.symm nbs,hb,hbs,hgx,hfit,YB,Option.getD_some,Option.isSome_some,go_sem]
  exact hQ _ _ _ _ [.bool r] nofun rfl (Low.refl _) (fin r S _ e0 hH7 hK7)
 | none =>
  rw[hpg] at hgx e0
  simp only[Option.map_none] at hgx
  simp(disch:=omega) only[n7,Ne.symm n7,n7s,Ne.symm n7s,nbs,Ne.symm nbs,hb,hbs,hgx,hfit,YB,Option.getD_none,Option.isSome_none,go_sem]
  refine za hfx ?_
  simp(disch:=omega) only[go_sem]
  refine zb fun b10 hb10=>?_
  have m1:b7≠b10:=fun e=>by subst e;simp[zc.upd] at hb10
  have m2:b≠b10:=fun e=>by subst e;simp[zc.upd,n7,hb] at hb10
  have m3:bs≠b10:=fun e=>by subst e;simp[zc.upd,n7s,hbs] at hb10
  have hH10:=hH7.keep (Zz (x:=.cells [.str fn,.sl .no 10 (cWs fp),.str f1,.int .i64 f2,.int .i64 f3,.sl .no 2 (cDs fd)]) hb10)
  have hK10:=hK7.upd (x:=.cells [.str fn,.sl .no 10 (cWs fp),.str f1,.int .i64 f2,.int .i64 f3,.sl .no 2 (cDs fd)]) hb10
  simp(disch:=omega) only[n7,Ne.symm n7,n7s,Ne.symm n7s,nbs,Ne.symm nbs,m1,m2,m3,Ne.symm m1,Ne.symm m2,Ne.symm m3,hb,go_sem]
  refine za hfy ?_
  simp(disch:=omega) only[go_sem]
  refine zb fun b12 hb12=>?_
  have k1:b7≠b12:=fun e=>by subst e;simp[zc.upd,m1] at hb12
  have k2:b≠b12:=fun e=>by subst e;simp[zc.upd,n7,m2,hb] at hb12
  have k3:bs≠b12:=fun e=>by subst e;simp[zc.upd,n7s,m3,hbs] at hb12
  have k4:b10≠b12:=fun e=>by subst e;simp[zc.upd] at hb12
  have hH12:=hH10.keep (Zz (x:=.cells [.str gn,.sl .no 10 (cWs gp),.str g1,.int .i64 g2,.int .i64 g3,.sl .no 2 (cDs gd)]) hb12)
  have hK12:=hK10.upd (x:=.cells [.str gn,.sl .no 10 (cWs gp),.str g1,.int .i64 g2,.int .i64 g3,.sl .no 2 (cDs gd)]) hb12
  simp(disch:=omega) only[n7,Ne.symm n7,n7s,Ne.symm n7s,nbs,Ne.symm nbs,m1,m2,m3,Ne.symm m1,Ne.symm m2,Ne.symm m3,k1,k2,k3,k4,Ne.symm k1,Ne.symm k2,Ne.symm k3,Ne.symm k4,hb,go_sem]
  refine za hsh ?_
  cases sx with
  | false =>
   have hst1:=hst false S.1
   obtain⟨q1,q2⟩:=setS S _ false hH12 hK12
   simp(disch:=omega) only[n7,Ne.symm n7,n7s,Ne.symm n7s,nbs,Ne.symm nbs,m1,m2,m3,Ne.symm m1,Ne.symm m2,Ne.symm m3,k1,k2,k3,k4,Ne.symm k1,Ne.symm k2,Ne.symm k3,Ne.symm k4,hb,hbs,hfit,hst1,go_sem]
   exact hQ _ _ _ _ [.bool false] nofun rfl (Low.refl _) (fin false _ _ e0 q1 q2)
  | true =>
   have hac2:=hac _ hH12
   have c7:(((H.upd b7 (.cells [.int .i64 xno,.int .i64 yno])).upd b10 (.cells [.str fn,.sl .no 10 (cWs fp),.str f1,.int .i64 f2,.int .i64 f3,.sl .no 2 (cDs fd)])).upd b12 (.cells [.str gn,.sl .no 10 (cWs gp),.str g1,.int .i64 g2,.int .i64 g3,.sl .no 2 (cDs gd)])) b7=some (.cells [.int .i64 xno,.int .i64 yno]):=by simp[zc.upd,m1,k1]
   have np7:b7≠bp:=fun e=>by have:=hH12.pr;rw[← e,c7] at this;cases this
   simp(disch:=omega) only[n7,Ne.symm n7,n7s,Ne.symm n7s,nbs,Ne.symm nbs,m1,m2,m3,Ne.symm m1,Ne.symm m2,Ne.symm m3,k1,k2,k3,k4,Ne.symm k1,Ne.symm k2,Ne.symm k3,Ne.symm k4,hb,go_sem]
   refine yH (XP:=fun _ _=>False) hac2 (fun v H3 ⟨e3,hH3,hK3⟩=>?_) (fun _ _ h=>h.elim)
   subst e3
   have hK4:=hK12.trans hK3
   have c73:=hK3 b7 _ c7 (Ne.symm n7s) np7
   have hb3:=hH3.look
   simp only[hcs,Al6,zc8] at hb3
   have hbs3:=hH3.sh
   have hst1:=hst A.1 A.2.1
   obtain⟨q1,q2⟩:=setS A.2 H3 A.1 hH3 hK4
   simp(disch:=omega) only[hb3,hbs3,c73,hfit,hst1,go_sem]
   exact hQ _ _ _ _ [.bool A.1] nofun rfl (Low.refl _) (fin A.1 _ _ e0 q1 q2)
theorem shC (s:SchD) (fr:List (List UInt8×List ItD)) (b bf bs bp no:Nat) (hs:zJ s≤Lim):∀(f m:Nat) (x y:ItD),f≤64→m≤64→Ex fr f x.sub→Ex fr m y.sub→zfw s fr b bf bs bp no 153 (shF s fr f) x y
 | 0,m,x,y,hf,hm,hx,hy=>shG s fr b bf bs bp no hs 0 m _ x y hx hf hy hm fun u hu v hv=>by
  obtain⟨i,hi,_⟩:=Zu (seen:=[]) (f:=64) hx hf hu
  omega
 | f+1,m,x,y,hf,hm,hx,hy=>shG s fr b bf bs bp no hs (f+1) m (shF s fr f) x y hx hf hy hm fun u hu v hv=>by
  obtain⟨i,hi,h1,_⟩:=Zu (seen:=[]) (f:=64) hx hf hu
  obtain⟨j,hj,h2,_⟩:=Zu (seen:=[]) (f:=64) hy hm hv
  exact shC s fr b bf bs bp no hs f j u v (by omega) (by omega) (h1.mono (by omega)) h2
end Go.Proofs.YtbcocdloklbkjaaGreatDoor
