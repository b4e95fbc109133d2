import Derived.JoinedOf
import Derived.Lib.ItoaMem
import Derived.Lib.ItoaLen
import Derived.Test.YticbbfbpeimkbaaGreatDoorM1
import Derived.Test.YticbbfbpeimkbaaGreatDoorM2
import Derived.Test.YticbbfbpeimkbaaGreatDoorM3
import Derived.Test.YticbbfbpeimkbaaGreatDoorM4
set_option maxRecDepth 100000
set_option linter.all false
namespace Go.Proofs.YticbbfbpeimkbaaGreatDoor
open Go.Ab
theorem zk5 (a b:List Mem) (ha:a.length≤Lim) (hc:∀ s v,Mem.mk s v∈a→∀ u,zu Tryz.prog 46 [.agg (cV v),.agg (cV u)] (.bool (eqd v u))) :
  zu Tryz.prog 102 [.sl .no 6 (cMs a),.sl .no 6 (cMs b)] (.bool (eqd a b)):=by
 refine zu.go ir102 ck102 (Al4 _) fun KP Q hQ=>?_
 have h1:=ZW a
 have h2:=ZW b
 simp only[Lim] at ha
 by_cases hl:a.length=b.length
 case neg =>
  have hl':¬ ((a.length:Int)=b.length):=by omega
  have hne:a≠b:=fun e=>hl (by rw[e])
  simp(disch:=first|omega|assumption) only[ir102,h1,h2,hl',go_sem]
  exact hQ _ _ _ _ nofun rfl (by simp[zc,zf,AV.strip,AV.strip1,zn hne])
 have hl':((a.length:Int)=b.length)=True:=eq_true (by omega)
 simp(disch:=first|omega|assumption) only[ir102,h1,h2,hl',go_sem]
 refine zG a 5 (fun _:Unit=>[]) (fun done rest n H=>b.take done.length=done) () (by simp(disch:=first|omega|assumption) only[go_sem]) rfl ?_ ?_
 ·rintro n H J hp hlt
  simp(disch:=first|omega|assumption) only[h1,hlt,go_sem]
  exact hQ _ _ _ _ nofun rfl (by simp[zc,zf,AV.strip,AV.strip1,yb (zaU hl hp)])
 ·rintro done x rest n H J hd hlt _ hp hJ
  obtain⟨y,r,hb⟩:=zaS hd hl hp
  have g1:=zaV hd
  have g2:=zaV hb
  have hlt2:(done.length:Int)<b.length:=by omega
  have hmem:x∈a:=by rw[hd];simp
  have hst:=YF hb
  have hne:x≠y→a≠b:=zcw hd hb
  obtain⟨s,v⟩:=x
  obtain⟨t,u⟩:=y
  by_cases hs:s=t
  case neg =>
   have hne2:=hne (by simp[hs])
   simp(disch:=first|omega|assumption) only[zl,zg,ze,zk,zh,zd,zr,h1,h2,hlt,hlt2,g1,g2,hs,go_sem]
   exact hQ _ _ _ _ nofun rfl (by simp[zc,zf,AV.strip,AV.strip1,zn hne2])
  simp(disch:=first|omega|assumption) only[zl,zg,ze,zk,zh,zd,zr,h1,h2,hlt,hlt2,g1,g2,hs,go_sem]
  refine zb (hc s v hmem u) ?_
  by_cases hv:v=u
  ·simp(disch:=first|omega|assumption) only[yb hv,go_sem]
   exact goJ (hJ () _ (by rw[hs,hv];exact hst)) (by simp(disch:=first|omega|assumption) only[wrap64,go_sem])
  ·have:=hne (by simp[hv])
   simp(disch:=first|omega|assumption) only[zn hv,go_sem]
   exact hQ _ _ _ _ nofun rfl (by simp[zc,zf,AV.strip,AV.strip1,zn this])
theorem zuy:∀ v,bV v≤Lim→∀ u,zu Tryz.prog 46 [.agg (cV v),.agg (cV u)] (.bool (eqd v u)):=by
 refine Val.ind fun k n s l m ihl ihm hb u=>?_
 obtain⟨k',n',s',l',m'⟩:=u
 have hb':1+s.length+bVs l+bMs m≤Lim:=hb
 have hll:=zb9 l
 have hml:=YV m
 have il:∀ x∈l,∀ y,zu Tryz.prog 46 [.agg (cV x),.agg (cV y)] (.bool (eqd x y)):=fun x hx y=>by
  obtain⟨a,b,hd⟩:=List.append_of_mem hx
  have:=zgO a x b
  rw[← hd] at this
  exact ihl x hx (by omega) y
 have im:∀ s v,Mem.mk s v∈m→∀ u,zu Tryz.prog 46 [.agg (cV v),.agg (cV u)] (.bool (eqd v u)):=fun t v hx u=>by
  obtain⟨a,b,hd⟩:=List.append_of_mem hx
  have:=zcg a (.mk t v) b
  rw[← hd] at this
  simp only[bM] at this
  exact ihm t v hx (by omega) u
 refine zu.go ir46 ck46 (Al4 _) fun KP Q hQ=>?_
 have hlb:=zai l
 have hlb':=zai l'
 by_cases h1:k=k'
 case neg =>
  have hne:¬ (Val.mk k n s l m=Val.mk k' n' s' l' m'):=by simp[h1]
  simp(disch:=first|omega|assumption) only[ir46,Zb,h1,go_sem]
  exact hQ _ _ _ _ nofun rfl (by simp[zc,zf,AV.strip,AV.strip1,zn hne])
 by_cases h2:n=n'
 case neg =>
  have hne:¬ (Val.mk k n s l m=Val.mk k' n' s' l' m'):=by simp[h2]
  simp(disch:=first|omega|assumption) only[ir46,Zb,h1,h2,go_sem]
  exact hQ _ _ _ _ nofun rfl (by simp[zc,zf,AV.strip,AV.strip1,zn hne])
 by_cases h3:s=s'
 case neg =>
  have hne:¬ (Val.mk k n s l m=Val.mk k' n' s' l' m'):=by simp[h3]
  simp(disch:=first|omega|assumption) only[ir46,Zb,h1,h2,h3,go_sem]
  exact hQ _ _ _ _ nofun rfl (by simp[zc,zf,AV.strip,AV.strip1,zn hne])
 by_cases hl:l.length=l'.length
 case neg =>
  have hl':¬ ((l.length:Int)=l'.length):=by omega
  have hne:¬ (Val.mk k n s l m=Val.mk k' n' s' l' m'):=by simp only[Val.mk.injEq];rintro⟨_,_,_,e,_⟩;exact hl (by rw[e])
  simp(disch:=first|omega|assumption) only[ir46,Zb,h1,h2,h3,hlb,hlb',hl',go_sem]
  exact hQ _ _ _ _ nofun rfl (by simp[zc,zf,AV.strip,AV.strip1,zn hne])
 have hl':((l.length:Int)=l'.length)=True:=eq_true (by omega)
 simp(disch:=first|omega|assumption) only[ir46,Zb,h1,h2,h3,hlb,hlb',hl',go_sem]
 simp only[Lim] at hb'
 refine zG l 5 (fun _:Unit=>[]) (fun done rest n H=>l'.take done.length=done) () (by simp(disch:=first|omega|assumption) only[go_sem]) rfl ?_ ?_
 ·rintro _ H J hp hlt
  have e4:=zaU hl hp
  simp(disch:=first|omega|assumption) only[hlb,hlt,go_sem]
  refine zb (zk5 m m' (by simp only[Lim];omega) im) ?_
  simp(disch:=first|omega|assumption) only[go_sem]
  have:eqd (Val.mk k n s l m) (Val.mk k' n' s' l' m')=eqd m m':=by
   by_cases h:m=m'
   ·rw[yb h,yb (by rw[h1,h2,h3,e4,h])]
   ·rw[zn h,zn (by simp[h])]
  exact hQ _ _ _ _ nofun rfl (by simp[zc,zf,AV.strip,AV.strip1,this])
 ·rintro done x rest _ H J hd hlt _ hp hJ
  obtain⟨y,r,hb⟩:=zaS hd hl hp
  have g1:=zbs hd
  have g2:=zbs hb
  have hlt2:(done.length:Int)<l'.length:=by omega
  simp(disch:=first|omega|assumption) only[zl,zg,ze,zk,zh,zd,zr,hlb,hlb',hlt,hlt2,g1,g2,go_sem]
  refine zb (il x (by rw[hd];simp) y) ?_
  by_cases hxy:x=y
  ·simp(disch:=first|omega|assumption) only[yb hxy,go_sem]
   exact goJ (hJ () _ (by rw[hxy];exact YF hb)) (by simp(disch:=first|omega|assumption) only[wrap64,go_sem])
  ·have hne:¬ (Val.mk k n s l m=Val.mk k' n' s' l' m'):=by simp only[Val.mk.injEq];rintro⟨_,_,_,e,_⟩;exact zcw hd hb hxy e
   simp(disch:=first|omega|assumption) only[zn hxy,go_sem]
   exact hQ _ _ _ _ nofun rfl (by simp[zc,zf,AV.strip,AV.strip1,zn hne])
abbrev zvL (H:za) (o:Own) (sz:Nat) (xs:List (List AV)):AV→za→Prop:=fun v H'=>∃ o',v=.sl o' sz xs∧OwnS H o H' o' xs.length sz
abbrev zjE (P:Program) (f:FuncId) (args:List AV) (H:za) (o:Own) (sz:Nat) (xs:List (List AV)):Prop :=
 zj P f args H (fun e H'=>match e with|.ret v=>zvL H o sz xs v H'|.pan _=>False)
theorem ZB {P:Program} {KP:AV→za→Prop} {Q:AExit→Env→za→Prop} {st:List Fr} {ρ:Env} {H:za} {all l:List AItem} {d:Option Nat} {R:List Chk} {f:FuncId} {args:List AV} {o:Own} {sz:Nat} {xs:List (List AV)}
  (h:zjE P f args H o sz xs) (hk:∀ o' H',OwnS H o H' o' xs.length sz→goR P KP Q all l st R (ρ.set d (.sl o' sz xs)) H'):goK P KP Q all l st d R ρ f args H :=
 zp (XP:=fun _ _=>False) h (fun v H' ⟨o',e,hs⟩=>by subst e;exact hk o' H' hs) (fun _ _ h=>h.elim)
def zlm (s:List UInt8):List (List UInt8)→Bool
 | []=>false
 | x::r=>if x=s then true else zlm s r
def zkx (s:List UInt8):List (List UInt8)→Int→Int
 | [],_=>-1
 | x::r,i=>if s=x then i else zkx s r (i+1)
theorem zl6 (s:List UInt8):∀ l (i:Int),0≤i→decide (0≤zkx s l i)=zlm s l
 | [],i,_=>by simp[zkx,zlm]
 | x::r,i,hi=>by
  simp only[zkx,zlm]
  by_cases h:s=x
  ·simp[h];omega
  ·simp only[h,Ne.symm h,if_false];exact zl6 s r (i+1) (by omega)
theorem zuT (l:List (List UInt8)) (s:List UInt8) (hl:l.length≤Lim):zu Tryz.prog 289 [.sl .no 1 (cT l),.str s] (.int .i64 (zkx s l 0)):=by
 refine zu.go ir289 ck289 (Al4 _) fun KP Q hQ=>?_
 have h1:=zax l
 simp only[Lim] at hl
 simp(disch:=first|omega|assumption) only[ir289,h1,go_sem]
 refine zG l 8 (fun _:Unit=>[]) (fun done rest n H=>zkx s rest done.length=zkx s l 0) () (by simp(disch:=first|omega|assumption) only[go_sem]) rfl ?_ ?_
 ·rintro n H J hn hlt
  simp(disch:=first|omega|assumption) only[h1,hlt,go_sem]
  simp only[zkx] at hn
  exact hQ _ _ _ _ nofun rfl (by simp[zc,zf,AV.strip,AV.strip1,← hn])
 ·rintro done x rest n H J hd hlt _ hn hJ
  have hg:=zvr hd
  simp only[zkx] at hn
  by_cases hx:s=x
  ·subst hx
   simp only[if_true] at hn
   simp(disch:=first|omega|assumption) only[h1,hlt,hg,go_sem]
   exact hQ _ _ _ _ nofun rfl (by simp[zc,zf,AV.strip,AV.strip1,← hn])
  ·simp only[hx,if_false] at hn
   simp(disch:=first|omega|assumption) only[h1,hlt,hg,hx,go_sem]
   exact goJ (hJ () _ (by simpa using hn)) (by simp(disch:=first|omega|assumption) only[wrap64,go_sem])
theorem zpI (l:List (List UInt8)) (s:List UInt8) (hl:l.length≤Lim):zu Tryz.prog 229 [.sl .no 1 (cT l),.str s] (.bool (zlm s l)):=by
 refine zu.go ir229 ck229 (Al4 _) fun KP Q hQ=>?_
 simp(disch:=first|omega|assumption) only[ir229,go_sem]
 refine zb (zuT l s hl) ?_
 simp(disch:=first|omega|assumption) only[go_sem]
 have:=zl6 s l 0 (by omega)
 exact hQ _ _ _ _ nofun rfl (by simp[zc,zf,AV.strip,AV.strip1,this])
mutual
def yI:Val→List (List UInt8)→List (List UInt8)
 | .mk k _ s l m,acc=>if k=8 then (if zlm s acc then acc else acc++[s]) else if k=6 then ZQ l acc else if k=7 then ZR m acc else acc
def ZQ:List Val→List (List UInt8)→List (List UInt8)
 | [],acc=>acc
 | v::r,acc=>ZQ r (yI v acc)
def zbb:Mem→List (List UInt8)→List (List UInt8)
 | .mk _ v,acc=>yI v acc
def ZR:List Mem→List (List UInt8)→List (List UInt8)
 | [],acc=>acc
 | x::r,acc=>ZR r (zbb x acc)
end
mutual
theorem zfn:∀ v acc,(yI v acc).length≤acc.length+bV v
 | .mk k n s l m,acc=>by
  have h1:=zi8 l acc
  have h2:=zj5 m acc
  simp only[yI,bV]
  split
  ·split
   ·omega
   ·simp;omega
  ·split
   ·omega
   ·split<;>omega
theorem zi8:∀ l acc,(ZQ l acc).length≤acc.length+bVs l
 | [],acc=>by simp[ZQ]
 | v::r,acc=>by
  have h1:=zfn v acc
  have h2:=zi8 r (yI v acc)
  simp only[ZQ,bVs];omega
theorem zlJ:∀ x acc,(zbb x acc).length≤acc.length+bM x
 | .mk s v,acc=>by have:=zfn v acc;simp only[zbb,bM];omega
theorem zj5:∀ l acc,(ZR l acc).length≤acc.length+bMs l
 | [],acc=>by simp[ZR]
 | x::r,acc=>by
  have h1:=zlJ x acc
  have h2:=zj5 r (zbb x acc)
  simp only[ZR,bMs];omega
end
theorem zwq:∀ v,∀ acc H o,acc.length+bV v≤Lim→yh H o acc.length 1→zjE Tryz.prog 131 [.sl o 1 (cT acc),.agg (cV v)] H o 1 (cT (yI v acc)):=by
 refine Val.ind fun k n s l m ihl ihm acc H o hb ho=>?_
 have hb':acc.length+(1+s.length+bVs l+bMs m)≤Lim:=hb
 have hll:=zb9 l
 have hml:=YV m
 have h1:=zai l
 have h2:=ZW m
 have h3:=zax acc
 simp only[Lim] at hb'
 refine zj.goO ir131 ck131 (Al4 _) fun KP Q hQ hP=>?_
 by_cases k8:k=8
 ·subst k8
  simp(disch:=first|omega|assumption) only[ir131,Zb,go_sem]
  refine zb (zu.low (zpI acc s (by simp only[Lim];omega))) ?_
  cases hh:zlm s acc with
  | true =>
   simp(disch:=first|omega|assumption) only[hh,go_sem]
   refine hQ _ _ H H _ nofun rfl (Low.refl _) ⟨o,?_,?_⟩
   ·simp[zc,zf,yI,hh]
   ·simpa[yI,hh,h3] using OwnS.refl ho
  | false =>
   simp(disch:=first|omega|assumption) only[hh,go_sem]
   refine zx (by rw[h3];exact ho) ?_ ?_ fun o' H' hs=>?_
   ·simp only[h3,Al2,Al3];omega
   ·simp only[h3,Al2,Al3,maxLen];omega
   simp(disch:=first|omega|assumption) only[go_sem]
   refine hQ _ _ H' H' _ nofun rfl (Low.refl _) ⟨o',?_,?_⟩
   ·simp[zc,zf,yI,hh,cT,AV.strip1]
   ·simpa[yI,hh,h3,zax] using hs
 by_cases k6:k=6
 ·subst k6
  simp(disch:=first|omega|assumption) only[ir131,Zb,h1,go_sem]
  refine zG l 28 (fun x:Own×List (List UInt8)=>[(0,.sl x.1 1 (cT x.2))]) (fun done rest x H'=>ZQ rest x.2=ZQ l acc∧x.2.length+bVs rest≤acc.length+bVs l∧OwnS H o H' x.1 x.2.length 1) (o,acc) (by simp(disch:=first|omega|assumption) only[go_sem]) ⟨rfl,by simp,OwnS.refl ho⟩ ?_ ?_
  ·rintro⟨o1,a⟩ H' J ⟨hn,_,hs⟩ hlt
   simp only[ZQ] at hn
   subst hn
   simp(disch:=first|omega|assumption) only[h1,hlt,go_sem]
   refine hQ _ _ H' H' _ nofun rfl (Low.refl _) ⟨o1,?_,?_⟩
   ·simp[zc,zf,yI]
   ·simpa[yI,zax] using hs
  ·rintro done x rest ⟨o1,a⟩ H' J hd hlt _ ⟨hn,hle,hs⟩ hJ
   have hg:=zbs hd
   have hx:=zfn x a
   simp only[ZQ,bVs] at hn hle
   simp(disch:=first|omega|assumption) only[zl,zg,ze,zk,zh,zd,zr,h1,hlt,hg,go_sem]
   refine zm fun b hb=>?_
   simp(disch:=first|omega|assumption) only[zl,zg,ze,zk,zh,zd,zr,go_sem]
   refine ZB (ihl x (by rw[hd];simp) a _ o1 (by simp only[Lim];omega) (hs.own.upd hb)) fun o2 H2 hs2=>?_
   rw[zax] at hs2
   simp(disch:=first|omega|assumption) only[wrap64,go_sem]
   exact goJ (hJ (o2,yI x a) H2 ⟨hn,by simp only;omega,(hs.upd hb).trans hs2⟩) (by simp(disch:=first|omega|assumption) only[go_sem])
 by_cases k7:k=7
 ·subst k7
  simp(disch:=first|omega|assumption) only[ir131,Zb,h2,go_sem]
  refine zG m 41 (fun x:Own×List (List UInt8)=>[(0,.sl x.1 1 (cT x.2))]) (fun done rest x H'=>ZR rest x.2=ZR m acc∧x.2.length+bMs rest≤acc.length+bMs m∧OwnS H o H' x.1 x.2.length 1) (o,acc) (by simp(disch:=first|omega|assumption) only[go_sem]) ⟨rfl,by simp,OwnS.refl ho⟩ ?_ ?_
  ·rintro⟨o1,a⟩ H' J ⟨hn,_,hs⟩ hlt
   simp only[ZR] at hn
   subst hn
   simp(disch:=first|omega|assumption) only[h2,hlt,go_sem]
   refine hQ _ _ H' H' _ nofun rfl (Low.refl _) ⟨o1,?_,?_⟩
   ·simp[zc,zf,yI]
   ·simpa[yI,zax] using hs
  ·rintro done x rest ⟨o1,a⟩ H' J hd hlt _ ⟨hn,hle,hs⟩ hJ
   have hg:=zaV hd
   have hx:=zlJ x a
   simp only[ZR,bMs] at hn hle
   have hmem:x∈m:=by rw[hd];simp
   obtain⟨t,v⟩:=x
   simp only[zbb,bM] at hx hn hle
   simp(disch:=first|omega|assumption) only[zl,zg,ze,zk,zh,zd,zr,h2,hlt,hg,go_sem]
   refine zm fun b hb=>?_
   simp(disch:=first|omega|assumption) only[zl,zg,ze,zk,zh,zd,zr,go_sem]
   refine ZB (ihm t v hmem a _ o1 (by simp only[Lim];omega) (hs.own.upd hb)) fun o2 H2 hs2=>?_
   rw[zax] at hs2
   simp(disch:=first|omega|assumption) only[wrap64,go_sem]
   exact goJ (hJ (o2,yI v a) H2 ⟨hn,by simp only;omega,(hs.upd hb).trans hs2⟩) (by simp(disch:=first|omega|assumption) only[go_sem])
 ·simp(disch:=first|omega|assumption) only[ir131,Zb,k8,k6,k7,go_sem]
  refine hQ _ _ H H _ nofun rfl (Low.refl _) ⟨o,?_,?_⟩
  ·simp[zc,zf,yI,k8,k6,k7]
  ·simpa[yI,k8,k6,k7,zax] using OwnS.refl ho
theorem zu9 (v:Val) (h:bV v≤Lim):zu Tryz.prog 60 [.agg (cV v)] (.sl .no 1 (cT (yI v []))):=by
 refine zu.go ir60 ck60 (Al4 _) fun KP Q hQ=>?_
 simp(disch:=first|omega|assumption) only[zl,zg,ze,zk,zh,zd,zr,ir60,go_sem]
 refine ZB (zwq v [] _ .nil (by simpa using h) rfl) fun o' H' hs=>?_
 simp(disch:=first|omega|assumption) only[go_sem]
 exact hQ _ _ _ _ nofun rfl (by simp[zc,zf,AV.strip,AV.strip1])
def isD (c:UInt8):Bool:=decide (48≤c.toNat)&&decide (c.toNat≤57)
def isL (c:UInt8):Bool:=(decide (97≤c.toNat)&&decide (c.toNat≤122))||((decide (65≤c.toNat)&&decide (c.toNat≤90))||decide (c.toNat=95))
theorem zj9 (c:UInt8):zu Tryz.prog 226 [.int .u8 (c.toNat:Int)] (.bool (isD c)):=by
 refine zu.go ir226 ck226 (Al4 _) fun KP Q hQ=>?_
 by_cases h:(48:Int)≤c.toNat
 ·simp(disch:=first|omega|assumption) only[ir226,h,go_sem]
  have h':48≤c.toNat:=by omega
  have e:decide ((c.toNat:Int)≤57)=decide (c.toNat≤57):=by rw[decide_eq_decide];omega
  exact hQ _ _ _ _ nofun rfl (by simp[zc,zf,AV.strip,AV.strip1,isD,h',e])
 ·simp(disch:=first|omega|assumption) only[ir226,h,go_sem]
  have h':¬ 48≤c.toNat:=by omega
  exact hQ _ _ _ _ nofun rfl (by simp[zc,zf,AV.strip,AV.strip1,isD,h'])
theorem zgM (c:UInt8):zu Tryz.prog 223 [.int .u8 (c.toNat:Int)] (.bool (isL c)):=by
 refine zu.go ir223 ck223 (Al4 _) fun KP Q hQ=>?_
 have e:decide ((c.toNat:Int)=95)=decide (c.toNat=95):=by rw[decide_eq_decide];omega
 by_cases h:(97:Int)≤c.toNat
 ·have h':97≤c.toNat:=by omega
  by_cases h2:(c.toNat:Int)≤122
  ·have h2':c.toNat≤122:=by omega
   simp(disch:=first|omega|assumption) only[ir223,h,h2,go_sem]
   exact hQ _ _ _ _ nofun rfl (by simp[zc,zf,AV.strip,AV.strip1,isL,h',h2'])
  ·have h2':¬ c.toNat≤122:=by omega
   have h3:(65:Int)≤c.toNat:=by omega
   have h4:¬ (c.toNat:Int)≤90:=by omega
   have h4':¬ c.toNat≤90:=by omega
   simp(disch:=first|omega|assumption) only[ir223,h,h2,h3,h4,go_sem]
   exact hQ _ _ _ _ nofun rfl (by simp[zc,zf,AV.strip,AV.strip1,isL,h',h2',h4',e])
 ·have h':¬ 97≤c.toNat:=by omega
  by_cases h3:(65:Int)≤c.toNat
  ·have h3':65≤c.toNat:=by omega
   by_cases h4:(c.toNat:Int)≤90
   ·have h4':c.toNat≤90:=by omega
    simp(disch:=first|omega|assumption) only[ir223,h,h3,h4,go_sem]
    exact hQ _ _ _ _ nofun rfl (by simp[zc,zf,AV.strip,AV.strip1,isL,h',h3',h4'])
   ·have h4':¬ c.toNat≤90:=by omega
    simp(disch:=first|omega|assumption) only[ir223,h,h3,h4,go_sem]
    exact hQ _ _ _ _ nofun rfl (by simp[zc,zf,AV.strip,AV.strip1,isL,h',h3',h4',e])
  ·have h3':¬ 65≤c.toNat:=by omega
   simp(disch:=first|omega|assumption) only[ir223,h,h3,go_sem]
   exact hQ _ _ _ _ nofun rfl (by simp[zc,zf,AV.strip,AV.strip1,isL,h',h3',e])
def zbQ:List UInt8→Nat→Bool
 | [],_=>true
 | c::r,i=>if isL c||(decide (i≠0)&&isD c) then zbQ r (i+1) else false
def zZ (s:List UInt8):Bool:=zbQ s 0&&decide (s≠[])
theorem zsR {s a:List UInt8} {x:UInt8} {b:List UInt8} (h:s=a++x::b):s.getD a.length 0=x:=by subst h;simp
theorem zjY (s:List UInt8) (hs:s.length≤Lim):zu Tryz.prog 203 [.str s] (.bool (zZ s)):=by
 refine zu.go ir203 ck203 (Al4 _) fun KP Q hQ=>?_
 simp only[Lim] at hs
 simp(disch:=first|omega|assumption) only[ir203,go_sem]
 refine zG s 6 (fun _:Unit=>[]) (fun done rest n H=>zbQ rest done.length=zbQ s 0) () (by simp(disch:=first|omega|assumption) only[go_sem]) rfl ?_ ?_
 ·rintro n H J hn hlt
  simp only[zbQ] at hn
  simp(disch:=first|omega|assumption) only[hlt,go_sem]
  have e:(!decide (s=[]))=decide (s≠[]):=by simp
  exact hQ _ _ _ _ nofun rfl (by simp[zc,zf,AV.strip,AV.strip1,zZ,← hn])
 ·rintro done x rest n H J hd hlt _ hn hJ
  have hg:=zsR hd
  simp only[zbQ] at hn
  simp(disch:=first|omega|assumption) only[hlt,hg,go_sem]
  refine zb (zgM x) ?_
  cases hl:isL x with
  | true =>
   simp only[hl,Bool.true_or,if_true] at hn
   simp(disch:=first|omega|assumption) only[hl,go_sem]
   exact goJ (hJ () _ (by simpa using hn)) (by simp(disch:=first|omega|assumption) only[wrap64,go_sem])
  | false =>
   by_cases h0:done.length=0
   ·have h0':(done.length:Int)=0:=by omega
    simp only[hl,h0,ne_eq,not_true_eq_false,decide_false,Bool.false_and,Bool.or_false,Al7,if_false] at hn
    simp(disch:=first|omega|assumption) only[hl,h0',go_sem]
    exact hQ _ _ _ _ nofun rfl (by simp[zc,zf,AV.strip,AV.strip1,zZ,← hn])
   ·have h0':¬ (done.length:Int)=0:=by omega
    simp(disch:=first|omega|assumption) only[hl,h0',hlt,hg,go_sem]
    refine zb (zj9 x) ?_
    cases hdg:isD x with
    | true =>
     simp only[hl,hdg,h0,ne_eq,not_false_eq_true,decide_true,Bool.and_self,Bool.or_true,if_true] at hn
     simp(disch:=first|omega|assumption) only[hdg,go_sem]
     exact goJ (hJ () _ (by simpa using hn)) (by simp(disch:=first|omega|assumption) only[wrap64,go_sem])
    | false =>
     simp only[hl,hdg,Bool.and_false,Bool.or_false,Al7,if_false] at hn
     simp(disch:=first|omega|assumption) only[hdg,go_sem]
     exact hQ _ _ _ _ nofun rfl (by simp[zc,zf,AV.strip,AV.strip1,zZ,← hn])
def yi:List UInt8→Nat
 | []=>0
 | c::r=>if isD c then yi r+1 else 0
theorem zaY:∀ l,yi l≤l.length
 | []=>Al4 _
 | c::r=>by have:=zaY r;simp only[yi,Al2];split<;>omega
theorem zek (s:List UInt8) (k:Nat):(s.drop k=[]∧s.length≤k)∨(k<s.length∧s.drop k=s.getD k 0::s.drop (k+1)):=by
 rcases Nat.lt_or_ge k s.length with h|h
 ·right
  refine⟨h,?_⟩
  rw[List.drop_eq_getElem_cons h]
  simp[h]
 ·left;exact⟨List.drop_of_length_le h,h⟩
theorem YX (s:List UInt8) (hs:s.length≤Lim):zu Tryz.prog 285 [.str s] (.int .i64 (yi s)):=by
 refine zu.go ir285 ck285 (Al4 _) fun KP Q hQ=>?_
 simp only[Lim] at hs
 have hr1:=zaY s
 simp(disch:=first|omega|assumption) only[ir285,go_sem]
 refine yK (fun n:Nat=>[(3,.int .i64 n)]) (fun n H=>yi s=n+yi (s.drop n)∧n≤s.length) (fun n=>s.length-n) 0 (by simp(disch:=first|omega|assumption) only[go_sem]) ⟨by simp,by omega⟩ ?_
 rintro n H J ⟨hn,hle⟩ hJ
 rcases zek s n with ⟨h1,h2⟩|⟨h1,h2⟩
 ·have hlt:¬ ((n:Int)<s.length):=by omega
  rw[h1] at hn
  simp only[yi,Nat.add_zero] at hn
  simp(disch:=first|omega|assumption) only[hlt,go_sem]
  exact hQ _ _ _ _ nofun rfl (by simp[zc,zf,AV.strip,AV.strip1,hn])
 ·have hlt:((n:Int)<s.length):=by omega
  rw[h2] at hn
  simp only[yi] at hn
  simp(disch:=first|omega|assumption) only[hlt,go_sem]
  refine zb (zj9 (s.getD n 0)) ?_
  cases hd:isD (s.getD n 0) with
  | true =>
   simp only[hd,if_true] at hn
   simp(disch:=first|omega|assumption) only[hd,go_sem]
   exact goJ (hJ (n+1) _ (by omega) ⟨by omega,by omega⟩) (by simp(disch:=first|omega|assumption) only[wrap64,Int.natCast_add,Int.natCast_one,go_sem])
  | false =>
   simp only[hd,Al7,if_false,Nat.add_zero] at hn
   simp(disch:=first|omega|assumption) only[hd,go_sem]
   exact hQ _ _ _ _ nofun rfl (by simp[zc,zf,AV.strip,AV.strip1,hn])
theorem zoX (c:UInt8) (s:List UInt8):[c].isPrefixOf s=decide (s.head?=some c):=by
 cases s with
 | nil=>rfl
 | cons d r =>
  by_cases h:d=c
  ·subst h;simp[List.isPrefixOf]
  ·have h':¬ c=d:=fun e=>h e.symm
   simp[List.isPrefixOf,h,h']
def Ym (s:List UInt8):Nat:=if yi s=0 then 0 else if s.getD 0 0=48 then 1 else yi s
def zU (s:List UInt8):Nat:=if s.head?=some 45 then (if yi s.tail=0 then 0 else 1+Ym s.tail) else Ym s
theorem zov (s:List UInt8):Ym s≤s.length:=by have:=zaY s;unfold Ym;split<;>(try split)<;>omega
theorem zfC (s:List UInt8):zU s≤s.length:=by
 have h1:=zov s
 have h2:=zov s.tail
 unfold zU
 split
 ·rename_i h
  cases s with
  | nil=>simp at h
  | cons c r =>
   simp only[List.tail_cons,Al2] at h2 ⊢
   by_cases h0:yi r=0<;>simp only[h0,if_true,if_false]<;>omega
 ·exact h1
theorem zjW (a:UInt8) (n:Nat) (hn:n<256):decide ((a.toNat:Int)=n)=decide (a=UInt8.ofNat n):=by
 rw[decide_eq_decide]
 have:(UInt8.ofNat n).toNat=n:=by simp[UInt8.toNat_ofNat'];omega
 constructor
 ·intro h;apply UInt8.toNat_inj.1;rw[this];omega
 ·intro h;subst h;rw[this]
theorem zvy (s:List UInt8) (hs:s.length≤Lim):zu Tryz.prog 284 [.str s] (.int .i64 (zU s)):=by
 refine zu.go ir284 ck284 (Al4 _) fun KP Q hQ=>?_
 simp only[Lim] at hs
 simp(disch:=first|omega|assumption) only[ir284,go_sem]
 refine zb (zbx s [45]) ?_
 rw[zoX]
 by_cases h:s.head?=some 45
 ·cases s with
  | nil=>simp at h
  | cons c r =>
   have hc:c=45:=by simpa using h
   subst hc
   simp only[Al2] at hs
   have h1:(1:Int)≤((r.length+1:Nat):Int):=by omega
   have h2:(1:Int)<((r.length+1:Nat):Int)∨r=[]:=by cases r<;>simp;omega
   simp(disch:=first|omega|assumption) only[h,h1,Int.toNat_one,go_sem]
   refine zb (YX r (by simp only[Lim];omega)) ?_
   by_cases h0:yi r=0
   ·simp(disch:=first|omega|assumption) only[h0,go_sem]
    exact hQ _ _ _ _ nofun rfl (by simp[zc,zf,AV.strip,AV.strip1,zU,h0])
   ·have h0':¬ ((yi r:Int)=0):=by omega
    have hrl:=zaY r
    have hlt:(1:Int)<((r.length+1:Nat):Int):=by omega
    have e:=zjW (r.getD 0 0) 48 (by omega)
    by_cases h48:r.getD 0 0=48
    ·have hi:Ym r=1:=by simp only[Ym,h0,h48,if_false,if_true]
     simp(disch:=first|omega|assumption) only[h0',hlt,Int.toNat_one,h48,UInt8.reduceToNat,wrap64,go_sem]
     exact hQ _ _ _ _ nofun rfl (by simp[zc,zf,AV.strip,AV.strip1,zU,h0,hi])
    ·have h48':¬ ((r.getD 0 0).toNat:Int)=48:=by
      intro hh
      rw[decide_eq_true (by exact hh)] at e
      exact h48 (by simpa using e.symm)
     have hi:Ym r=yi r:=by simp only[Ym,h0,h48,if_false]
     simp(disch:=first|omega|assumption) only[h0',hlt,Int.toNat_one,h48',wrap64,go_sem]
     exact hQ _ _ _ _ nofun rfl (by simp[zc,zf,AV.strip,AV.strip1,zU,h0,hi])
 ·simp(disch:=first|omega|assumption) only[h,go_sem]
  refine zb (YX s (by simp only[Lim];omega)) ?_
  by_cases h0:yi s=0
  ·simp(disch:=first|omega|assumption) only[h0,go_sem]
   exact hQ _ _ _ _ nofun rfl (by simp[zc,zf,AV.strip,AV.strip1,zU,h,Ym,h0])
  ·have h0':¬ ((yi s:Int)=0):=by omega
   have hrl:=zaY s
   have hlt:(0:Int)<(s.length:Int):=by omega
   have e:=zjW (s.getD 0 0) 48 (by omega)
   by_cases h48:s.getD 0 0=48
   ·have hi:Ym s=1:=by simp only[Ym,h0,h48,if_false,if_true]
    simp(disch:=first|omega|assumption) only[h0',hlt,h48,UInt8.reduceToNat,wrap64,go_sem]
    exact hQ _ _ _ _ nofun rfl (by simp[zc,zf,AV.strip,AV.strip1,zU,h,hi])
   ·have h48':¬ ((s.getD 0 0).toNat:Int)=48:=by
     intro hh
     rw[decide_eq_true (by exact hh)] at e
     exact h48 (by simpa using e.symm)
    have hi:Ym s=yi s:=by simp only[Ym,h0,h48,if_false]
    simp(disch:=first|omega|assumption) only[h0',hlt,h48',wrap64,go_sem]
    exact hQ _ _ _ _ nofun rfl (by simp[zc,zf,AV.strip,AV.strip1,zU,h,hi])
def isE (c:UInt8):Bool:=decide (c=101)||decide (c=69)
def sgN (r:List UInt8):Nat:=if r.head?=some 43∨r.head?=some 45 then 1 else 0
def zaa:List UInt8→Nat
 | []=>0
 | c::r=>if isE c then (if yi (r.drop (sgN r))=0 then 0 else 1+sgN r+yi (r.drop (sgN r))) else 0
theorem zny (r:List UInt8):sgN r≤r.length:=by
 unfold sgN
 split
 ·cases r<;>simp_all
 ·omega
theorem zkm:∀ s,zaa s≤s.length
 | []=>by simp[zaa]
 | c::r=>by
  have h:=zaY (r.drop (sgN r))
  have h2:=zny r
  rw[Yv] at h
  simp only[zaa,Al2]
  split
  ·split<;>omega
  ·omega
theorem zmY (s:List UInt8) (hs:s.length≤Lim):zu Tryz.prog 286 [.str s] (.int .i64 (zaa s)):=by
 refine zu.go ir286 ck286 (Al4 _) fun KP Q hQ=>?_
 simp only[Lim] at hs
 cases s with
 | nil =>
  simp(disch:=first|omega|assumption) only[ir286,go_sem]
  exact hQ _ _ _ _ nofun rfl (by simp[zc,zf,AV.strip,AV.strip1,zaa])
 | cons c r =>
  simp only[Al2] at hs
  have hne:¬ (c::r=[]):=by simp
  have hp:(0:Int)<((r.length+1:Nat):Int):=by omega
  have e1:=zjW c 101 (by omega)
  have e2:=zjW c 69 (by omega)
  have hE:∀(P:Prop),P→P:=fun _ h=>h
  by_cases hc:isE c=true
  case neg =>
   have hc1:¬ (c.toNat:Int)=101:=by
    intro hh;rw[decide_eq_true (by exact hh)] at e1
    exact hc (by simp[isE,(by simpa using e1.symm:c=101)])
   have hc2:¬ (c.toNat:Int)=69:=by
    intro hh;rw[decide_eq_true (by exact hh)] at e2
    exact hc (by simp[isE,(by simpa using e2.symm:c=69)])
   simp(disch:=first|omega|assumption) only[ir286,hne,hp,hc1,hc2,go_sem]
   have hcf:isE c=false:=by simpa using hc
   exact hQ _ _ _ _ nofun rfl (by simp[zc,zf,AV.strip,AV.strip1,zaa,hcf])
  have fin:∀ k:Nat,yi (r.drop (sgN r))=k→zaa (c::r)=if k=0 then 0 else 1+sgN r+k:=fun k hk=>by subst hk;simp only[zaa,hc,if_true]
  have hcase:(c.toNat:Int)=101∨(¬ (c.toNat:Int)=101∧(c.toNat:Int)=69):=by
   simp only[isE,Z0,zL] at hc
   rcases hc with rfl|rfl
   ·exact .inl rfl
   ·exact .inr ⟨by decide,rfl⟩
  have hdl:=zaY (r.drop (sgN r))
  rw[Yv] at hdl
  have hsl:=zny r
  cases r with
  | nil =>
   have k0:=fin 0 (by simp[sgN,yi])
   rcases hcase with h1|⟨h1,h2⟩
   ·simp(disch:=first|omega|assumption) only[ir286,h1,go_sem]
    refine zb (YX [] (by simp)) ?_
    simp(disch:=first|omega|assumption) only[yi,go_sem]
    exact hQ _ _ _ _ nofun rfl (by simp[zc,zf,AV.strip,AV.strip1,k0])
   ·simp(disch:=first|omega|assumption) only[ir286,h1,h2,go_sem]
    refine zb (YX [] (by simp)) ?_
    simp(disch:=first|omega|assumption) only[yi,go_sem]
    exact hQ _ _ _ _ nofun rfl (by simp[zc,zf,AV.strip,AV.strip1,k0])
  | cons d t =>
   simp only[Al2] at hs
   have hl1:(1:Int)<((t.length+1+1:Nat):Int):=by omega
   have hl2:(2:Int)≤((t.length+1+1:Nat):Int):=by omega
   have hl3:(1:Int)≤((t.length+1+1:Nat):Int):=by omega
   have f1:=zjW d 43 (by omega)
   have f2:=zjW d 45 (by omega)
   by_cases hsg:d=43∨d=45
   ·have hsg1:sgN (d::t)=1:=by simp only[sgN,List.head?_cons,Al1,hsg,if_true]
    have k0:=fin (yi t) (by rw[hsg1];rfl)
    rw[hsg1] at k0 hdl
    have hd:(d.toNat:Int)=43∨(¬ (d.toNat:Int)=43∧(d.toNat:Int)=45):=by
     rcases hsg with rfl|rfl
     ·exact .inl rfl
     ·exact .inr ⟨by decide,rfl⟩
    rcases hcase with h1|⟨h1,h2⟩<;>rcases hd with h3|⟨h3,h4⟩
    all_goals
     simp only[hl1,hl2,Al2,List.drop_succ_cons,List.drop_zero] at hdl
    ·simp(disch:=first|omega|assumption) only[ir286,h1,h3,hl1,hl2,Int.toNat_one,go_sem]
     refine zb (YX t (by simp only[Lim];omega)) ?_
     by_cases hz:yi t=0
     ·simp(disch:=first|omega|assumption) only[hz,go_sem]
      exact hQ _ _ _ _ nofun rfl (by simp[zc,zf,AV.strip,AV.strip1,k0,hz])
     ·have hz':¬ (yi t:Int)=0:=by omega
      simp(disch:=first|omega|assumption) only[hz',wrap64,go_sem]
      exact hQ _ _ _ _ nofun rfl (by simp[zc,zf,AV.strip,AV.strip1,k0,hz])
    ·simp(disch:=first|omega|assumption) only[ir286,h1,h3,h4,hl1,hl2,Int.toNat_one,go_sem]
     refine zb (YX t (by simp only[Lim];omega)) ?_
     by_cases hz:yi t=0
     ·simp(disch:=first|omega|assumption) only[hz,go_sem]
      exact hQ _ _ _ _ nofun rfl (by simp[zc,zf,AV.strip,AV.strip1,k0,hz])
     ·have hz':¬ (yi t:Int)=0:=by omega
      simp(disch:=first|omega|assumption) only[hz',wrap64,go_sem]
      exact hQ _ _ _ _ nofun rfl (by simp[zc,zf,AV.strip,AV.strip1,k0,hz])
    ·simp(disch:=first|omega|assumption) only[ir286,h1,h2,h3,hl1,hl2,Int.toNat_one,go_sem]
     refine zb (YX t (by simp only[Lim];omega)) ?_
     by_cases hz:yi t=0
     ·simp(disch:=first|omega|assumption) only[hz,go_sem]
      exact hQ _ _ _ _ nofun rfl (by simp[zc,zf,AV.strip,AV.strip1,k0,hz])
     ·have hz':¬ (yi t:Int)=0:=by omega
      simp(disch:=first|omega|assumption) only[hz',wrap64,go_sem]
      exact hQ _ _ _ _ nofun rfl (by simp[zc,zf,AV.strip,AV.strip1,k0,hz])
    ·simp(disch:=first|omega|assumption) only[ir286,h1,h2,h3,h4,hl1,hl2,Int.toNat_one,go_sem]
     refine zb (YX t (by simp only[Lim];omega)) ?_
     by_cases hz:yi t=0
     ·simp(disch:=first|omega|assumption) only[hz,go_sem]
      exact hQ _ _ _ _ nofun rfl (by simp[zc,zf,AV.strip,AV.strip1,k0,hz])
     ·have hz':¬ (yi t:Int)=0:=by omega
      simp(disch:=first|omega|assumption) only[hz',wrap64,go_sem]
      exact hQ _ _ _ _ nofun rfl (by simp[zc,zf,AV.strip,AV.strip1,k0,hz])
   ·have hsg0:sgN (d::t)=0:=by simp only[sgN,List.head?_cons,Al1,hsg,if_false]
    have k0:=fin (yi (d::t)) (by rw[hsg0];rfl)
    rw[hsg0] at k0 hdl
    have h3:¬ (d.toNat:Int)=43:=by
     intro hh;rw[decide_eq_true (by exact hh)] at f1
     exact hsg (.inl (by simpa using f1.symm))
    have h4:¬ (d.toNat:Int)=45:=by
     intro hh;rw[decide_eq_true (by exact hh)] at f2
     exact hsg (.inr (by simpa using f2.symm))
    simp only[List.drop_zero,Al2] at hdl
    rcases hcase with h1|⟨h1,h2⟩
    ·simp(disch:=first|omega|assumption) only[ir286,h1,h3,h4,hl1,hl3,Int.toNat_one,go_sem]
     refine zb (YX (d::t) (by simp only[Lim,Al2];omega)) ?_
     by_cases hz:yi (d::t)=0
     ·simp(disch:=first|omega|assumption) only[hz,go_sem]
      exact hQ _ _ _ _ nofun rfl (by simp[zc,zf,AV.strip,AV.strip1,k0,hz])
     ·have hz':¬ (yi (d::t):Int)=0:=by omega
      simp(disch:=first|omega|assumption) only[hz',wrap64,go_sem]
      exact hQ _ _ _ _ nofun rfl (by simp[zc,zf,AV.strip,AV.strip1,k0,hz])
    ·simp(disch:=first|omega|assumption) only[ir286,h1,h2,h3,h4,hl1,hl3,Int.toNat_one,go_sem]
     refine zb (YX (d::t) (by simp only[Lim,Al2];omega)) ?_
     by_cases hz:yi (d::t)=0
     ·simp(disch:=first|omega|assumption) only[hz,go_sem]
      exact hQ _ _ _ _ nofun rfl (by simp[zc,zf,AV.strip,AV.strip1,k0,hz])
     ·have hz':¬ (yi (d::t):Int)=0:=by omega
      simp(disch:=first|omega|assumption) only[hz',wrap64,go_sem]
      exact hQ _ _ _ _ nofun rfl (by simp[zc,zf,AV.strip,AV.strip1,k0,hz])
def Zi (r:List UInt8):Nat:=if r.head?=some 46∧0<yi r.tail then 1+yi r.tail else 0
def yB (s:List UInt8):Nat×Int :=
 if zU s=0 then (0,0) else
  (zU s+Zi (s.drop (zU s))+zaa (s.drop (zU s+Zi (s.drop (zU s)))),if Zi (s.drop (zU s))=0∧zaa (s.drop (zU s+Zi (s.drop (zU s))))=0 then 3 else 4)
theorem zlE (r:List UInt8):Zi r≤r.length:=by
 unfold Zi
 split
 ·rename_i h
  cases r with
  | nil=>simp at h
  | cons c t=>have:=zaY t;simp only[List.tail_cons,Al2];omega
 ·omega
theorem zn2 (s:List UInt8) (hs:s.length≤Lim):zu Tryz.prog 225 [.str s] (.tup [.int .i64 (yB s).1,.int .i64 (yB s).2]):=by
 refine zu.go ir225 ck225 (Al4 _) fun KP Q hQ=>?_
 have hs':=hs
 simp only[Lim] at hs
 simp(disch:=first|omega|assumption) only[ir225,go_sem]
 refine zb (zvy s hs') ?_
 have hw:=zfC s
 by_cases h0:zU s=0
 ·simp(disch:=first|omega|assumption) only[h0,go_sem]
  exact hQ _ _ _ _ nofun rfl (by simp[zc,zf,AV.strip,AV.strip1,yB,h0])
 have h0':¬ ((zU s:Int)=0):=by omega
 have hwl:(zU s:Int)≤s.length:=by omega
 simp(disch:=first|omega|assumption) only[h0',hwl,go_sem]
 refine zb (zbx (s.drop (zU s)) [46]) ?_
 rw[zoX]
 generalize hn:zU s=n at *
 have fin:∀ f p:Nat,Zi (s.drop n)=f→zaa (s.drop (n+f))=p→yB s=(n+f+p,if f=0∧p=0 then 3 else 4):=fun f p hf hp=>by
  unfold yB
  rw[hn,hf,hp]
  simp only[h0,if_false]
 have hpl:=zkm (s.drop n)
 rw[Yv] at hpl
 by_cases h46:(s.drop n).head?=some 46
 ·obtain⟨c,t,hct⟩:∃ c t,s.drop n=c::t:=by
   cases hx:s.drop n with
   | nil=>rw[hx] at h46;simp at h46
   | cons c t=>exact⟨c,t,rfl⟩
  have hlen:s.length=n+1+t.length:=by have:=congrArg List.length hct;simp at this;omega
  have hdr:s.drop (n+1)=t:=by rw[← List.drop_drop,hct];rfl
  have hto:((n:Int)+1).toNat=n+1:=by omega
  have hn1:(0:Int)≤(n:Int)+1:=by omega
  have hn2:(n:Int)+1≤s.length:=by omega
  have hrl:=zaY t
  simp(disch:=first|omega|assumption) only[h46,wrap64,hto,hn1,hn2,hdr,go_sem]
  refine zb (YX t (by simp only[Lim];omega)) ?_
  by_cases hk:(0:Int)<yi t
  ·have hk':0<yi t:=by omega
   have hfr:Zi (s.drop n)=1+yi t:=by unfold Zi;rw[if_pos ⟨h46,by rw[hct];exact hk'⟩,hct];rfl
   have hto2:((n:Int)+1+yi t).toNat=n+(1+yi t):=by omega
   have hn3:(0:Int)≤(n:Int)+1+yi t:=by omega
   have hn4:(n:Int)+1+yi t≤s.length:=by omega
   have hpl2:=zkm (s.drop (n+(1+yi t)))
   rw[Yv] at hpl2
   simp(disch:=first|omega|assumption) only[hk,wrap64,hto2,hn3,hn4,go_sem]
   refine zb (zmY (s.drop (n+(1+yi t))) (by rw[Yv];simp only[Lim];omega)) ?_
   have hf:=fin _ _ hfr rfl
   generalize hp:zaa (s.drop (n+(1+yi t)))=p at *
   by_cases hp0:(0:Int)<p
   ·simp(disch:=first|omega|assumption) only[hp0,wrap64,go_sem]
    exact hQ _ _ _ _ nofun rfl (by simp[zc,zf,AV.strip,AV.strip1,hf,Int.add_assoc])
   ·have hp00:p=0:=by omega
    subst hp00
    simp(disch:=first|omega|assumption) only[go_sem]
    exact hQ _ _ _ _ nofun rfl (by simp[zc,zf,AV.strip,AV.strip1,hf,Int.add_assoc])
  ·have hk0:yi t=0:=by omega
   have hfr:Zi (s.drop n)=0:=by unfold Zi;exact if_neg fun hh=>by have:=hh.2;rw[hct] at this;simp only[List.tail_cons] at this;omega
   simp(disch:=first|omega|assumption) only[hk,hwl,go_sem]
   refine zb (zmY (s.drop n) (by rw[Yv];simp only[Lim];omega)) ?_
   have hf:=fin _ _ hfr rfl
   rw[Nat.add_zero] at hf
   generalize hp:zaa (s.drop n)=p at *
   by_cases hp0:(0:Int)<p
   ·have hp1:¬ p=0:=by omega
    simp(disch:=first|omega|assumption) only[hp0,wrap64,go_sem]
    exact hQ _ _ _ _ nofun rfl (by simp[zc,zf,AV.strip,AV.strip1,hf,hp1])
   ·have hp00:p=0:=by omega
    subst hp00
    simp(disch:=first|omega|assumption) only[go_sem]
    exact hQ _ _ _ _ nofun rfl (by simp[zc,zf,AV.strip,AV.strip1,hf])
 ·have hfr:Zi (s.drop n)=0:=by unfold Zi;exact if_neg fun hh=>h46 hh.1
  simp(disch:=first|omega|assumption) only[h46,hwl,go_sem]
  refine zb (zmY (s.drop n) (by rw[Yv];simp only[Lim];omega)) ?_
  have hf:=fin _ _ hfr rfl
  rw[Nat.add_zero] at hf
  generalize hp:zaa (s.drop n)=p at *
  by_cases hp0:(0:Int)<p
  ·have hp1:¬ p=0:=by omega
   simp(disch:=first|omega|assumption) only[hp0,wrap64,go_sem]
   exact hQ _ _ _ _ nofun rfl (by simp[zc,zf,AV.strip,AV.strip1,hf,hp1])
  ·have hp00:p=0:=by omega
   subst hp00
   simp(disch:=first|omega|assumption) only[go_sem]
   exact hQ _ _ _ _ nofun rfl (by simp[zc,zf,AV.strip,AV.strip1,hf])
def Z1 (s:List UInt8):Int:=if (yB s).1=s.length then (yB s).2 else 0
theorem zeX (s:List UInt8) (hs:s.length≤Lim):zu Tryz.prog 207 [.str s] (.int .i64 (Z1 s)):=by
 refine zu.go ir207 ck207 (Al4 _) fun KP Q hQ=>?_
 simp(disch:=first|omega|assumption) only[ir207,go_sem]
 refine zb (zn2 s hs) ?_
 by_cases h:(yB s).1=s.length
 ·have h':(((yB s).1:Int)=s.length)=True:=eq_true (by omega)
  simp(disch:=first|omega|assumption) only[h',go_sem]
  exact hQ _ _ _ _ nofun rfl (by simp[zc,zf,AV.strip,AV.strip1,Z1,h])
 ·have h':¬ ((yB s).1:Int)=s.length:=by omega
  simp(disch:=first|omega|assumption) only[h',go_sem]
  exact hQ _ _ _ _ nofun rfl (by simp[zc,zf,AV.strip,AV.strip1,Z1,h])
def okI:Lib.NumEnd Int→Bool
 | .ok _=>true
 | _=>false
def zix (s:List UInt8):Int:=match Lib.parseIntB 64 s with
 | .ok v=>v
 | Lib.NumEnd.syntax=>0
 | .range=>Lib.intSat 64 s
def ZS (s:List UInt8):Bool:=okI (Lib.parseIntB 64 s)&&decide (Z1 s=3)
theorem zna (s:List UInt8) (hs:s.length≤Lim):zu Tryz.prog 176 [.str s] (.tup [.int .i64 (zix s),.bool (ZS s)]):=by
 refine zu.go ir176 ck176 (Al4 _) fun KP Q hQ=>?_
 simp(disch:=first|omega|assumption) only[ir176,go_sem]
 refine zb (zps s (by simp only[Lim] at hs;omega)) ?_
 rcases hp:Lib.parseIntB 64 s with v|_|_
 ·simp(disch:=first|omega|assumption) only[zhg,hp,go_sem]
  refine zb (zeX s hs) ?_
  simp(disch:=first|omega|assumption) only[go_sem]
  exact hQ _ _ _ _ nofun rfl (by simp[zc,zf,AV.strip,AV.strip1,zix,ZS,hp,okI])
 ·simp(disch:=first|omega|assumption) only[zhg,hp,go_sem]
  exact hQ _ _ _ _ nofun rfl (by simp[zc,zf,AV.strip,AV.strip1,zix,ZS,hp,okI])
 ·simp(disch:=first|omega|assumption) only[zhg,hp,go_sem]
  exact hQ _ _ _ _ nofun rfl (by simp[zc,zf,AV.strip,AV.strip1,zix,ZS,hp,okI])
def zet (s:List UInt8):Bool:=decide (Z1 s=4)||(decide (Z1 s=3)&&!ZS s)
theorem zw4 (s:List UInt8) (hs:s.length≤Lim):zu Tryz.prog 309 [.str s] (.bool (zet s)):=by
 refine zu.go ir309 ck309 (Al4 _) fun KP Q hQ=>?_
 simp(disch:=first|omega|assumption) only[ir309,go_sem]
 refine zb (zeX s hs) ?_
 simp(disch:=first|omega|assumption) only[go_sem]
 refine zb (zna s hs) ?_
 by_cases h4:Z1 s=4
 ·simp(disch:=first|omega|assumption) only[h4,go_sem]
  exact hQ _ _ _ _ nofun rfl (by simp[zc,zf,AV.strip,AV.strip1,zet,h4])
 ·by_cases h3:Z1 s=3
  ·simp(disch:=first|omega|assumption) only[h4,h3,go_sem]
   exact hQ _ _ _ _ nofun rfl (by simp[zc,zf,AV.strip,AV.strip1,zet,h4,h3])
  ·simp(disch:=first|omega|assumption) only[h4,h3,go_sem]
   exact hQ _ _ _ _ nofun rfl (by simp[zc,zf,AV.strip,AV.strip1,zet,h4,h3])
def zmN (s:List UInt8):Bool:=decide (s=[116,114,117,101])||(decide (s=[102,97,108,115,101])||decide (s=[110,117,108,108]))
theorem zw5 (s:List UInt8):zu Tryz.prog 310 [.str s] (.bool (zmN s)):=by
 refine zu.go ir310 ck310 (Al4 _) fun KP Q hQ=>?_
 by_cases h1:s=[116,114,117,101]
 ·simp(disch:=first|omega|assumption) only[ir310,h1,go_sem]
  exact hQ _ _ _ _ nofun rfl (by simp[zc,zf,AV.strip,AV.strip1,zmN,h1])
 ·by_cases h2:s=[102,97,108,115,101]
  ·subst h2
   have h3:¬ ([102,97,108,115,101]:List UInt8)=[116,114,117,101]:=by decide
   simp(disch:=first|omega|assumption) only[ir310,h3,go_sem]
   exact hQ _ _ _ _ nofun rfl (by simp[zc,zf,AV.strip,AV.strip1,zmN,h3])
  ·simp(disch:=first|omega|assumption) only[ir310,h1,h2,go_sem]
   exact hQ _ _ _ _ nofun rfl (by simp[zc,zf,AV.strip,AV.strip1,zmN,h1,h2])
theorem zuh (s:List UInt8) (hs:s.length≤Lim):zu Tryz.prog 202 [.str s] (.bool (Lib.validD s)):=by
 refine zu.go ir202 ck202 (Al4 _) fun KP Q hQ=>?_
 simp(disch:=first|omega|assumption) only[ir202,go_sem]
 refine zb (zvP s (by simp only[Lim] at hs;omega)) ?_
 simp(disch:=first|omega|assumption) only[go_sem]
 exact hQ _ _ _ _ nofun rfl (by simp[zc,zf,AV.strip,AV.strip1])
def zbq (n:Int) (s:List UInt8) (l:List Val) (m:List Mem):Bool:=decide (n=0)&&(decide (s=[])&&(decide (l.length=0)&&decide (m.length=0)))
theorem zqN (k n:Int) (s:List UInt8) (l:List Val) (m:List Mem):zu Tryz.prog 267 [.agg (cV (.mk k n s l m))] (.bool (zbq n s l m)):=by
 refine zu.go ir267 ck267 (Al4 _) fun KP Q hQ=>?_
 have h1:=zai l
 have h2:=ZW m
 by_cases g1:n=0
 case neg =>
  simp(disch:=first|omega|assumption) only[ir267,Zb,g1,go_sem]
  exact hQ _ _ _ _ nofun rfl (by simp[zc,zf,AV.strip,AV.strip1,zbq,g1])
 by_cases g2:s=[]
 case neg =>
  simp(disch:=first|omega|assumption) only[ir267,Zb,g1,g2,go_sem]
  exact hQ _ _ _ _ nofun rfl (by simp[zc,zf,AV.strip,AV.strip1,zbq,g2])
 by_cases g3:l.length=0
 case neg =>
  simp(disch:=first|omega|assumption) only[ir267,Zb,g1,g2,h1,g3,go_sem]
  exact hQ _ _ _ _ nofun rfl (by simp[zc,zf,AV.strip,AV.strip1,zbq,g3])
 have e:decide ((m.length:Int)=0)=decide (m.length=0):=by rw[decide_eq_decide];omega
 simp(disch:=first|omega|assumption) only[ir267,Zb,g1,g2,h1,h2,g3,go_sem]
 exact hQ _ _ _ _ nofun rfl (by simp[zc,zf,AV.strip,AV.strip1,zbq,g1,g2,g3,e])
def yr (k n:Int) (s:List UInt8) (l:List Val) (m:List Mem):Bool :=
 zbq 0 [] l m&&(if k=0 then decide (n=0)&&decide (s=[]) else if k=1 then (decide (n=0)||decide (n=1))&&decide (s=[]) else if k=2 then decide (s=[])
  else if k=3 then decide (n=0)&&zet s else if k=4 then decide (n=0)&&Lib.validD s else if k=5 then decide (n=0)&&(zZ s&&!zmN s) else if k=8 then decide (n=0)&&zZ s else false)
theorem ztI (k n:Int) (s:List UInt8) (l:List Val) (m:List Mem) (hs:s.length≤Lim):zu Tryz.prog 266 [.agg (cV (.mk k n s l m))] (.bool (yr k n s l m)):=by
 refine zu.go ir266 ck266 (Al4 _) fun KP Q hQ=>?_
 simp(disch:=first|omega|assumption) only[ir266,Zb,go_sem]
 refine zm fun b hb=>?_
 simp(disch:=first|omega|assumption) only[go_sem]
 refine zb (zqN k 0 [] l m) ?_
 cases hb:zbq 0 [] l m with
 | false =>
  simp(disch:=first|omega|assumption) only[hb,go_sem]
  exact hQ _ _ _ _ nofun rfl (by simp[zc,zf,AV.strip,AV.strip1,yr,hb])
 | true =>
  by_cases k0:k=0
  ·by_cases n0:n=0
   ·simp(disch:=first|omega|assumption) only[hb,k0,n0,go_sem]
    exact hQ _ _ _ _ nofun rfl (by simp[zc,zf,AV.strip,AV.strip1,yr,hb,k0,n0])
   ·simp(disch:=first|omega|assumption) only[hb,k0,n0,go_sem]
    exact hQ _ _ _ _ nofun rfl (by simp[zc,zf,AV.strip,AV.strip1,yr,hb,k0,n0])
  by_cases k1:k=1
  ·by_cases n0:n=0
   ·simp(disch:=first|omega|assumption) only[hb,k0,k1,n0,go_sem]
    exact hQ _ _ _ _ nofun rfl (by simp[zc,zf,AV.strip,AV.strip1,yr,hb,k1,n0])
   ·by_cases n1:n=1
    ·simp(disch:=first|omega|assumption) only[hb,k0,k1,n0,n1,go_sem]
     exact hQ _ _ _ _ nofun rfl (by simp[zc,zf,AV.strip,AV.strip1,yr,hb,k1,n1])
    ·simp(disch:=first|omega|assumption) only[hb,k0,k1,n0,n1,go_sem]
     exact hQ _ _ _ _ nofun rfl (by simp[zc,zf,AV.strip,AV.strip1,yr,hb,k1,n0,n1])
  by_cases k2:k=2
  ·simp(disch:=first|omega|assumption) only[hb,k0,k1,k2,go_sem]
   exact hQ _ _ _ _ nofun rfl (by simp[zc,zf,AV.strip,AV.strip1,yr,hb,k2])
  by_cases k3:k=3
  ·by_cases n0:n=0
   ·simp(disch:=first|omega|assumption) only[hb,k0,k1,k2,k3,n0,go_sem]
    refine zb (zw4 s hs) ?_
    simp(disch:=first|omega|assumption) only[go_sem]
    exact hQ _ _ _ _ nofun rfl (by simp[zc,zf,AV.strip,AV.strip1,yr,hb,k3,n0])
   ·simp(disch:=first|omega|assumption) only[hb,k0,k1,k2,k3,n0,go_sem]
    exact hQ _ _ _ _ nofun rfl (by simp[zc,zf,AV.strip,AV.strip1,yr,hb,k3,n0])
  by_cases k4:k=4
  ·by_cases n0:n=0
   ·simp(disch:=first|omega|assumption) only[hb,k0,k1,k2,k3,k4,n0,go_sem]
    refine zb (zuh s hs) ?_
    simp(disch:=first|omega|assumption) only[go_sem]
    exact hQ _ _ _ _ nofun rfl (by simp[zc,zf,AV.strip,AV.strip1,yr,hb,k4,n0])
   ·simp(disch:=first|omega|assumption) only[hb,k0,k1,k2,k3,k4,n0,go_sem]
    exact hQ _ _ _ _ nofun rfl (by simp[zc,zf,AV.strip,AV.strip1,yr,hb,k4,n0])
  by_cases k5:k=5
  ·by_cases n0:n=0
   ·simp(disch:=first|omega|assumption) only[hb,k0,k1,k2,k3,k4,k5,n0,go_sem]
    refine zb (zjY s hs) ?_
    cases hn:zZ s with
    | true =>
     simp(disch:=first|omega|assumption) only[hn,go_sem]
     refine zb (zw5 s) ?_
     simp(disch:=first|omega|assumption) only[go_sem]
     exact hQ _ _ _ _ nofun rfl (by simp[zc,zf,AV.strip,AV.strip1,yr,hb,k5,n0,hn])
    | false =>
     simp(disch:=first|omega|assumption) only[hn,go_sem]
     exact hQ _ _ _ _ nofun rfl (by simp[zc,zf,AV.strip,AV.strip1,yr,hb,k5,n0,hn])
   ·simp(disch:=first|omega|assumption) only[hb,k0,k1,k2,k3,k4,k5,n0,go_sem]
    exact hQ _ _ _ _ nofun rfl (by simp[zc,zf,AV.strip,AV.strip1,yr,hb,k5,n0])
  by_cases k8:k=8
  ·by_cases n0:n=0
   ·simp(disch:=first|omega|assumption) only[hb,k0,k1,k2,k3,k4,k5,k8,n0,go_sem]
    refine zb (zjY s hs) ?_
    simp(disch:=first|omega|assumption) only[go_sem]
    exact hQ _ _ _ _ nofun rfl (by simp[zc,zf,AV.strip,AV.strip1,yr,hb,k8,n0])
   ·simp(disch:=first|omega|assumption) only[hb,k0,k1,k2,k3,k4,k5,k8,n0,go_sem]
    exact hQ _ _ _ _ nofun rfl (by simp[zc,zf,AV.strip,AV.strip1,yr,hb,k8,n0])
  ·simp(disch:=first|omega|assumption) only[hb,k0,k1,k2,k3,k4,k5,k8,go_sem]
   exact hQ _ _ _ _ nofun rfl (by simp[zc,zf,AV.strip,AV.strip1,yr,hb,k0,k1,k2,k3,k4,k5,k8])
mutual
def zaD (may:List UInt8→Bool):Val→Bool
 | .mk k n s l m=>if k=6 then Y1 may l&&zbq n s [] m else if k=7 then zaO may m&&zbq n s l [] else yr k n s l m
def Y1 (may:List UInt8→Bool):List Val→Bool
 | []=>true
 | v::r=>zaD may v&&Y1 may r
def zk0 (may:List UInt8→Bool):Mem→Bool
 | .mk s v=>may s&&zaD may v
def zaO (may:List UInt8→Bool):List Mem→Bool
 | []=>true
 | x::r=>zk0 may x&&zaO may r
end
theorem zw1 (f:FuncId) (hf:Program.callable Tryz.prog f=true) (may:List UInt8→Bool) (hmay:∀ s:List UInt8,s.length≤Lim→zu Tryz.prog f [.str s] (.bool (may s))) :
  ∀ v,bV v≤Lim→zu Tryz.prog 201 [.agg (cV v),.clo f [] []] (.bool (zaD may v)):=by
 refine Val.ind fun k n s l m ihl ihm hb=>?_
 have hb':1+s.length+bVs l+bMs m≤Lim:=hb
 have hll:=zb9 l
 have hml:=YV m
 have h1:=zai l
 have h2:=ZW m
 simp only[Lim] at hb'
 refine zu.go ir201 ck201 (Al4 _) fun KP Q hQ=>?_
 simp(disch:=first|omega|assumption) only[ir201,Zb,go_sem]
 refine zm fun b hb=>?_
 by_cases k6:k=6
 ·subst k6
  simp(disch:=first|omega|assumption) only[h1,go_sem]
  refine zG l 22 (fun _:Unit=>[(6,.bool true)]) (fun done rest _ H=>Y1 may rest=Y1 may l∧H b=some (.cells [.int .i64 6,.int .i64 n,.str s,.sl .nil 5 [],.sl .no 6 (cMs m)])) () (by simp(disch:=first|omega|assumption) only[go_sem]) ⟨rfl,by simp[za.upd]⟩ ?_ ?_
  ·rintro _ H J ⟨hn,hH⟩ hlt
   simp only[Y1] at hn
   simp(disch:=first|omega|assumption) only[h1,hlt,hH,go_sem]
   refine zb (zu.low (zqN 6 n s [] m)) ?_
   simp(disch:=first|omega|assumption) only[go_sem]
   exact hQ _ _ _ _ nofun rfl (by simp[zc,zf,AV.strip,AV.strip1,zaD,← hn])
  ·rintro done x rest _ H J hd hlt _ ⟨hn,hH⟩ hJ
   have hg:=zbs hd
   have hbm:=zgO done x rest
   rw[← hd] at hbm
   simp only[Y1] at hn
   simp(disch:=first|omega|assumption) only[zl,zg,ze,zk,zh,zd,zr,h1,hlt,hg,go_sem]
   refine zm fun b2 hb2=>?_
   have hne:=zid hb2 hH
   simp(disch:=first|omega|assumption) only[zl,zg,ze,zk,zh,zd,zr,go_sem]
   refine zb (ihl x (by rw[hd];simp) (by simp only[Lim];omega)) ?_
   cases hx:zaD may x with
   | true =>
    simp only[hx,Bool.true_and] at hn
    simp(disch:=first|omega|assumption) only[hx,go_sem]
    exact goJ (hJ () _ ⟨hn,by simp[za.upd,Ne.symm hne,hH]⟩) (by simp(disch:=first|omega|assumption) only[wrap64,go_sem])
   | false =>
    simp only[hx,Bool.false_and] at hn
    simp(disch:=first|omega|assumption) only[hx,go_sem]
    exact hQ _ _ _ _ nofun rfl (by simp[zc,zf,AV.strip,AV.strip1,zaD,← hn])
 by_cases k7:k=7
 ·subst k7
  simp(disch:=first|omega|assumption) only[h2,go_sem]
  refine zG m 38 (fun _:Unit=>[(6,.bool true)]) (fun done rest _ H=>zaO may rest=zaO may m∧H b=some (.cells [.int .i64 7,.int .i64 n,.str s,.sl .no 5 (cVs l),.sl .nil 6 []])) () (by simp(disch:=first|omega|assumption) only[go_sem]) ⟨rfl,by simp[za.upd]⟩ ?_ ?_
  ·rintro _ H J ⟨hn,hH⟩ hlt
   simp only[zaO] at hn
   simp(disch:=first|omega|assumption) only[h2,hlt,hH,go_sem]
   refine zb (zu.low (zqN 7 n s l [])) ?_
   simp(disch:=first|omega|assumption) only[go_sem]
   exact hQ _ _ _ _ nofun rfl (by simp[zc,zf,AV.strip,AV.strip1,zaD,← hn])
  ·rintro done x rest _ H J hd hlt _ ⟨hn,hH⟩ hJ
   have hg:=zaV hd
   have hbm:=zcg done x rest
   rw[← hd] at hbm
   have hmem:x∈m:=by rw[hd];simp
   obtain⟨t,v⟩:=x
   simp only[zaO,zk0,bM] at hn hbm
   simp(disch:=first|omega|assumption) only[zl,zg,ze,zk,zh,zd,zr,h2,hlt,hg,go_sem]
   refine zm fun b2 hb2=>?_
   have hne:=zid hb2 hH
   simp(disch:=first|omega|assumption) only[zl,zg,ze,zk,zh,zd,zr,go_sem]
   refine⟨hf,zb (hmay t (by simp only[Lim];omega)) ?_⟩
   cases ht:may t with
   | true =>
    simp(disch:=first|omega|assumption) only[zl,zg,ze,zk,zh,zd,zr,ht,go_sem]
    refine zb (ihm t v hmem (by simp only[Lim];omega)) ?_
    cases hx:zaD may v with
    | true =>
     simp only[ht,hx,Bool.true_and] at hn
     simp(disch:=first|omega|assumption) only[hx,go_sem]
     exact goJ (hJ () _ ⟨hn,by simp[za.upd,Ne.symm hne,hH]⟩) (by simp(disch:=first|omega|assumption) only[wrap64,go_sem])
    | false =>
     simp only[ht,hx,Bool.true_and,Bool.false_and] at hn
     simp(disch:=first|omega|assumption) only[hx,go_sem]
     exact hQ _ _ _ _ nofun rfl (by simp[zc,zf,AV.strip,AV.strip1,zaD,← hn])
   | false =>
    simp only[ht,Bool.false_and] at hn
    simp(disch:=first|omega|assumption) only[zl,zg,ze,zk,zh,zd,zr,ht,go_sem]
    exact hQ _ _ _ _ nofun rfl (by simp[zc,zf,AV.strip,AV.strip1,zaD,← hn])
 ·simp(disch:=first|omega|assumption) only[k6,k7,go_sem]
  refine zb (ztI k n s l m (by simp only[Lim];omega)) ?_
  simp(disch:=first|omega|assumption) only[go_sem]
  exact hQ _ _ _ _ nofun rfl (by simp[zc,zf,AV.strip,AV.strip1,zaD,k6,k7])
def zlA (v:Val):Bool:=zaD Lib.validD v
def zaf (v:Val):Bool:=zaD zZ v&&decide (zN v≤16)
theorem ztm (v:Val) (hb:bV v≤Lim):zu Tryz.prog 117 [.agg (cV v)] (.bool (zaf v)):=by
 refine zu.go ir117 ck117 (Al4 _) fun KP Q hQ=>?_
 simp(disch:=first|omega|assumption) only[zl,zg,ze,zk,zh,zd,zr,ir117,go_sem]
 refine zb (zw1 _ (by kernel_rfl) zZ zjY v hb) ?_
 cases h:zaD zZ v with
 | true =>
  simp(disch:=first|omega|assumption) only[zl,zg,ze,zk,zh,zd,zr,h,go_sem]
  refine zb (zkQ v hb) ?_
  simp(disch:=first|omega|assumption) only[go_sem]
  exact hQ _ _ _ _ nofun rfl (by simp[zc,zf,AV.strip,AV.strip1,zaf,h])
 | false =>
  simp(disch:=first|omega|assumption) only[h,go_sem]
  exact hQ _ _ _ _ nofun rfl (by simp[zc,zf,AV.strip,AV.strip1,zaf,h])
theorem zly (s:List UInt8):zu Tryz.prog 204 [.str s] (.agg (cK ⟨2,s⟩)):=by
 refine zu.go ir204 ck204 (Al4 _) fun KP Q hQ=>?_
 simp(disch:=first|omega|assumption) only[ir204,go_sem]
 refine zm fun b hb=>?_
 simp(disch:=first|omega|assumption) only[go_sem]
 exact hQ _ _ _ [.agg [.int .i64 2,.str s]] nofun (by simp(disch:=first|omega|assumption) only[ir204,zP,yR,go_sem]) rfl
theorem zfv (s:List UInt8):zu Tryz.prog 208 [.str s] (.agg (cK ⟨1,s⟩)):=by
 refine zu.go ir208 ck208 (Al4 _) fun KP Q hQ=>?_
 simp(disch:=first|omega|assumption) only[ir208,go_sem]
 refine zm fun b hb=>?_
 simp(disch:=first|omega|assumption) only[go_sem]
 exact hQ _ _ _ [.agg [.int .i64 1,.str s]] nofun (by simp(disch:=first|omega|assumption) only[ir208,zP,yR,go_sem]) rfl
def boolT (b:Bool):List UInt8:=if b then [116,114,117,101] else [102,97,108,115,101]
theorem zqn (b:Bool):zu Tryz.prog 269 [.bool b] (.str (boolT b)):=by
 refine zu.go ir269 ck269 (Al4 _) fun KP Q hQ=>?_
 cases b
 ·simp(disch:=first|omega|assumption) only[ir269,go_sem]
  exact hQ _ _ _ _ nofun rfl (by simp[zc,zf,AV.strip,AV.strip1,boolT])
 ·simp(disch:=first|omega|assumption) only[ir269,go_sem]
  exact hQ _ _ _ _ nofun rfl (by simp[zc,zf,AV.strip,AV.strip1,boolT])
theorem ztb (b:Bool):zu Tryz.prog 205 [.bool b] (.str (boolT b)):=by
 refine zu.go ir205 ck205 (Al4 _) fun KP Q hQ=>?_
 simp(disch:=first|omega|assumption) only[ir205,go_sem]
 refine zb (zqn b) ?_
 simp(disch:=first|omega|assumption) only[go_sem]
 exact hQ _ _ _ _ nofun rfl (by simp[zc,zf,AV.strip,AV.strip1])
mutual
def yD:Val→List Tok
 | .mk k n s l m=>if k=0 then [⟨2,[110,117,108,108]⟩] else if k=1 then [⟨2,boolT (decide (n=1))⟩] else if k=2 then [⟨3,Lib.itoa n⟩] else if k=3 then [⟨Z1 s,s⟩] else if k=4 then [⟨5,s⟩]
  else if k=5 then [⟨2,s⟩] else if k=8 then [⟨1,[36]⟩,⟨2,s⟩] else if k=6 then ⟨1,[91]⟩::(YI l++[⟨1,[93]⟩]) else ⟨1,[123]⟩::(Zc m++[⟨1,[125]⟩])
def YI:List Val→List Tok
 | []=>[]
 | v::r=>yD v++YI r
def zbi:Mem→List Tok
 | .mk s v=>⟨2,s⟩::⟨1,[58]⟩::yD v
def Zc:List Mem→List Tok
 | []=>[]
 | x::r=>zbi x++Zc r
end
mutual
theorem ze9:∀ v,(yD v).length+2≤4*bV v
 | .mk k n s l m=>by
  have h1:=zg8 l
  have h2:=zhZ m
  simp only[yD,bV]
  repeat' split
  all_goals simp only[Al2,Al5,Al3]
  all_goals omega
theorem zg8:∀ l,(YI l).length≤4*bVs l
 | []=>by simp[YI]
 | v::r=>by
  have h1:=ze9 v
  have h2:=zg8 r
  simp only[YI,bVs,Al5];omega
theorem zsT:∀ x,(zbi x).length≤4*bM x
 | .mk s v=>by have:=ze9 v;simp only[zbi,bM,Al2];omega
theorem zhZ:∀ l,(Zc l).length≤4*bMs l
 | []=>by simp[Zc]
 | x::r=>by
  have h1:=zsT x
  have h2:=zhZ r
  simp only[Zc,bMs,Al5];omega
end
def inR (n:Int):Prop:=-9223372036854775808≤n∧n≤9223372036854775807
mutual
def wfV:Val→Prop
 | .mk _ n _ l m=>inR n∧zpw l∧zeY m
def zpw:List Val→Prop
 | []=>True
 | v::r=>wfV v∧zpw r
def wfM:Mem→Prop
 | .mk _ v=>wfV v
def zeY:List Mem→Prop
 | []=>True
 | x::r=>wfM x∧zeY r
end
theorem zeJ:∀ {l:List Val},zpw l→∀ v∈l,wfV v
 | _::_,h,v,hv=>(List.mem_cons.1 hv).elim (fun e=>e▸h.1) (zeJ h.2 v)
theorem zbP:∀ {l:List Mem},zeY l→∀ s v,Mem.mk s v∈l→wfV v
 | _::_,h,s,v,hv=>(List.mem_cons.1 hv).elim (fun e=>by have:=h.1;rw[← e] at this;exact this) (zbP h.2 s v)
theorem zbl (a:List Tok) (t:Tok):cKs a++[[.int .i64 t.k,.str t.s]]=cKs (a++[t]):=by simp[cKs,cK]
theorem zmB (a:List Tok) (t u:Tok):cKs a++[[.int .i64 t.k,.str t.s],[.int .i64 u.k,.str u.s]]=cKs (a++[t,u]):=by simp[cKs,cK]
theorem ztz:∀ v,wfV v→∀ acc H o,acc.length+4*bV v≤Lim→yh H o acc.length 2→zjE Tryz.prog 118 [.sl o 2 (cKs acc),.agg (cV v)] H o 2 (cKs (acc++yD v)):=by
 refine Val.ind fun k n s l m ihl ihm hwf acc H o hb ho=>?_
 obtain⟨hn,hwl,hwm⟩:=hwf
 have hb':acc.length+4*(1+s.length+bVs l+bMs m)≤Lim:=hb
 have hll:=zb9 l
 have hml:=YV m
 have h1:=zai l
 have h2:=ZW m
 have h3:=yM acc
 have hT:=zg8 l
 have hM:=zhZ m
 simp only[Lim] at hb'
 have hsl:s.length≤Lim:=by simp only[Lim];omega
 refine zj.goO ir118 ck118 (Al4 _) fun KP Q hQ hP=>?_
 have one:∀ t:Tok,yD (.mk k n s l m)=[t]→∀ o' H',OwnS H o H' o' (acc.length+1) 2→zvL H o 2 (cKs (acc++yD (.mk k n s l m))) (.sl o' 2 (cKs acc++[[.int .i64 t.k,.str t.s]])) H':=fun t e o' H' hs=>by
  rw[e];exact⟨o',by rw[zbl],by rw[yM];simpa using hs⟩
 have hq1:((cKs acc).length+1)*24≤140737488355328:=by rw[h3];omega
 have hq2:(cKs acc).length+1≤maxLen:=by rw[h3];simp only[maxLen];omega
 have hq3:((cKs acc).length+2)*24≤140737488355328:=by rw[h3];omega
 have hq4:(cKs acc).length+2≤maxLen:=by rw[h3];simp only[maxLen];omega
 have ho':yh H o (cKs acc).length 2:=by rw[h3];exact ho
 by_cases k0:k=0
 ·subst k0
  simp(disch:=first|omega|assumption) only[ir118,Zb,go_sem]
  refine zb (zly _) ?_
  simp(disch:=first|omega|assumption) only[cK,go_sem]
  refine zx ho' hq1 hq2 fun o' H' hs=>?_
  simp(disch:=first|omega|assumption) only[go_sem]
  exact hQ _ _ H' H' [_] nofun rfl (Low.refl _) (one ⟨2,[110,117,108,108]⟩ (by simp[yD]) o' H' (by simpa[h3] using hs))
 by_cases k1:k=1
 ·subst k1
  simp(disch:=first|omega|assumption) only[ir118,Zb,go_sem]
  refine zb (ztb _) ?_
  simp(disch:=first|omega|assumption) only[go_sem]
  refine zb (zly _) ?_
  simp(disch:=first|omega|assumption) only[cK,go_sem]
  refine zx ho' hq1 hq2 fun o' H' hs=>?_
  simp(disch:=first|omega|assumption) only[go_sem]
  exact hQ _ _ H' H' [_] nofun rfl (Low.refl _) (one ⟨2,boolT (decide (n=1))⟩ (by simp[yD]) o' H' (by simpa[h3] using hs))
 by_cases k2:k=2
 ·subst k2
  simp(disch:=first|omega|assumption) only[ir118,Zb,go_sem]
  refine zb (znC n hn.1 hn.2) ?_
  simp(disch:=first|omega|assumption) only[go_sem]
  refine zx ho' hq1 hq2 fun o' H' hs=>?_
  simp(disch:=first|omega|assumption) only[go_sem]
  exact hQ _ _ H' H' [_] nofun rfl (Low.refl _) (one ⟨3,Lib.itoa n⟩ (by simp[yD]) o' H' (by simpa[h3] using hs))
 by_cases k3:k=3
 ·subst k3
  simp(disch:=first|omega|assumption) only[ir118,Zb,go_sem]
  refine zb (zeX s hsl) ?_
  simp(disch:=first|omega|assumption) only[go_sem]
  refine zx ho' hq1 hq2 fun o' H' hs=>?_
  simp(disch:=first|omega|assumption) only[go_sem]
  exact hQ _ _ H' H' [_] nofun rfl (Low.refl _) (one ⟨Z1 s,s⟩ (by simp[yD]) o' H' (by simpa[h3] using hs))
 by_cases k4:k=4
 ·subst k4
  simp(disch:=first|omega|assumption) only[ir118,Zb,go_sem]
  refine zx ho' hq1 hq2 fun o' H' hs=>?_
  simp(disch:=first|omega|assumption) only[go_sem]
  exact hQ _ _ H' H' [_] nofun rfl (Low.refl _) (one ⟨5,s⟩ (by simp[yD]) o' H' (by simpa[h3] using hs))
 by_cases k5:k=5
 ·subst k5
  simp(disch:=first|omega|assumption) only[ir118,Zb,go_sem]
  refine zb (zly _) ?_
  simp(disch:=first|omega|assumption) only[cK,go_sem]
  refine zx ho' hq1 hq2 fun o' H' hs=>?_
  simp(disch:=first|omega|assumption) only[go_sem]
  exact hQ _ _ H' H' [_] nofun rfl (Low.refl _) (one ⟨2,s⟩ (by simp[yD]) o' H' (by simpa[h3] using hs))
 by_cases k8:k=8
 ·subst k8
  simp(disch:=first|omega|assumption) only[ir118,Zb,go_sem]
  refine zb (zfv _) ?_
  simp(disch:=first|omega|assumption) only[cK,go_sem]
  refine zb (zly _) ?_
  simp(disch:=first|omega|assumption) only[cK,go_sem]
  refine zx ho' hq3 hq4 fun o' H' hs=>?_
  simp(disch:=first|omega|assumption) only[go_sem]
  refine hQ _ _ H' H' [_] nofun rfl (Low.refl _) ?_
  have e:yD (.mk 8 n s l m)=[⟨1,[36]⟩,⟨2,s⟩]:=by simp[yD]
  rw[e]
  exact⟨o',by rw[← zmB];rfl,by rw[yM];simpa[h3] using hs⟩
 by_cases k6:k=6
 ·subst k6
  have e:yD (.mk 6 n s l m)=⟨1,[91]⟩::(YI l++[⟨1,[93]⟩]):=by simp[yD]
  have ea:=zbl acc ⟨1,[91]⟩
  simp only at ea
  simp(disch:=first|omega|assumption) only[ir118,Zb,go_sem]
  refine zb (zfv _) ?_
  simp(disch:=first|omega|assumption) only[cK,go_sem]
  refine zx ho' hq1 hq2 fun o1 H1 hs1=>?_
  have hs1':OwnS H o H1 o1 (acc++[(⟨1,[91]⟩:Tok)]).length 2:=by simpa[h3] using hs1
  simp(disch:=first|omega|assumption) only[ea,h1,go_sem]
  refine zG l 81 (fun x:Own×List Tok=>[(0,.sl x.1 2 (cKs x.2))]) (fun done rest x H'=>x.2++YI rest=acc++⟨1,[91]⟩::YI l∧x.2.length+4*bVs rest≤acc.length+1+4*bVs l∧OwnS H o H' x.1 x.2.length 2) (o1,acc++[⟨1,[91]⟩]) (by simp(disch:=first|omega|assumption) only[go_sem]) ⟨by simp,by simp,hs1'⟩ ?_ ?_
  ·rintro⟨o2,a⟩ H2 J ⟨hn,hle,hs⟩ hlt
   simp only[YI,List.append_nil,bVs] at hn hle
   have h4:=yM a
   simp(disch:=first|omega|assumption) only[h1,hlt,go_sem]
   refine zb (zfv _) ?_
   simp(disch:=first|omega|assumption) only[cK,go_sem]
   refine zx (by rw[h4];exact hs.own) (by simp only[h4,Al2,Al3];omega) (by simp only[h4,Al2,Al3,maxLen];omega) fun o3 H3 hs3=>?_
   simp(disch:=first|omega|assumption) only[go_sem]
   refine hQ _ _ H3 H3 [_] nofun rfl (Low.refl _) ?_
   have e2:acc++yD (.mk 6 n s l m)=a++[⟨1,[93]⟩]:=by rw[e,hn];simp
   rw[e2]
   exact⟨o3,by rw[← zbl];rfl,by rw[yM];exact hs.trans (by simpa[h4] using hs3)⟩
  ·rintro done x rest ⟨o2,a⟩ H2 J hd hlt _ ⟨hn,hle,hs⟩ hJ
   have hg:=zbs hd
   have hx:=ze9 x
   have hmem:x∈l:=by rw[hd];simp
   simp only[YI,bVs] at hn hle
   simp(disch:=first|omega|assumption) only[zl,zg,ze,zk,zh,zd,zr,h1,hlt,hg,go_sem]
   refine zm fun b hb=>?_
   simp(disch:=first|omega|assumption) only[zl,zg,ze,zk,zh,zd,zr,go_sem]
   refine ZB (ihl x hmem (zeJ hwl x hmem) a _ o2 (by simp only[Lim];omega) (hs.own.upd hb)) fun o3 H3 hs3=>?_
   rw[yM] at hs3
   simp(disch:=first|omega|assumption) only[wrap64,go_sem]
   exact goJ (hJ (o3,a++yD x) H3 ⟨by rw[← hn];simp,by simp only[Al5];omega,(hs.upd hb).trans hs3⟩) (by simp(disch:=first|omega|assumption) only[go_sem])
 ·have e:yD (.mk k n s l m)=⟨1,[123]⟩::(Zc m++[⟨1,[125]⟩]):=by simp[yD,k0,k1,k2,k3,k4,k5,k8,k6]
  have ea:=zbl acc ⟨1,[123]⟩
  simp only at ea
  simp(disch:=first|omega|assumption) only[ir118,Zb,k0,k1,k2,k3,k4,k5,k8,k6,go_sem]
  refine zb (zfv _) ?_
  simp(disch:=first|omega|assumption) only[cK,go_sem]
  refine zx ho' hq1 hq2 fun o1 H1 hs1=>?_
  have hs1':OwnS H o H1 o1 (acc++[(⟨1,[123]⟩:Tok)]).length 2:=by simpa[h3] using hs1
  simp(disch:=first|omega|assumption) only[ea,h2,go_sem]
  refine zG m 100 (fun x:Own×List Tok=>[(0,.sl x.1 2 (cKs x.2))]) (fun done rest x H'=>x.2++Zc rest=acc++⟨1,[123]⟩::Zc m∧x.2.length+4*bMs rest≤acc.length+1+4*bMs m∧OwnS H o H' x.1 x.2.length 2) (o1,acc++[⟨1,[123]⟩]) (by simp(disch:=first|omega|assumption) only[go_sem]) ⟨by simp,by simp,hs1'⟩ ?_ ?_
  ·rintro⟨o2,a⟩ H2 J ⟨hn,hle,hs⟩ hlt
   simp only[Zc,List.append_nil,bMs] at hn hle
   have h4:=yM a
   simp(disch:=first|omega|assumption) only[h2,hlt,go_sem]
   refine zb (zfv _) ?_
   simp(disch:=first|omega|assumption) only[cK,go_sem]
   refine zx (by rw[h4];exact hs.own) (by simp only[h4,Al2,Al3];omega) (by simp only[h4,Al2,Al3,maxLen];omega) fun o3 H3 hs3=>?_
   simp(disch:=first|omega|assumption) only[go_sem]
   refine hQ _ _ H3 H3 [_] nofun rfl (Low.refl _) ?_
   have e2:acc++yD (.mk k n s l m)=a++[⟨1,[125]⟩]:=by rw[e,hn];simp
   rw[e2]
   exact⟨o3,by rw[← zbl];rfl,by rw[yM];exact hs.trans (by simpa[h4] using hs3)⟩
  ·rintro done x rest ⟨o2,a⟩ H2 J hd hlt _ ⟨hn,hle,hs⟩ hJ
   have hg:=zaV hd
   have hmem:x∈m:=by rw[hd];simp
   obtain⟨t,v⟩:=x
   have hx:=ze9 v
   have h4:=yM a
   have hp:=zaG v
   simp only[Zc,zbi,bMs,bM] at hn hle
   have ea2:=zmB a ⟨2,t⟩ ⟨1,[58]⟩
   simp only at ea2
   simp(disch:=first|omega|assumption) only[zl,zg,ze,zk,zh,zd,zr,h2,hlt,hg,go_sem]
   refine zm fun b hb=>?_
   simp(disch:=first|omega|assumption) only[zl,zg,ze,zk,zh,zd,zr,go_sem]
   refine zb (zly _) ?_
   simp(disch:=first|omega|assumption) only[zl,zg,ze,zk,zh,zd,zr,cK,go_sem]
   refine zb (zfv _) ?_
   simp(disch:=first|omega|assumption) only[zl,zg,ze,zk,zh,zd,zr,cK,go_sem]
   refine zx (by rw[h4];exact hs.own.upd hb) (by simp only[h4,Al2,Al3];omega) (by simp only[h4,Al2,Al3,maxLen];omega) fun o3 H3 hs3=>?_
   have hs3':OwnS H o H3 o3 (a++[(⟨2,t⟩:Tok),⟨1,[58]⟩]).length 2:=(hs.upd hb).trans (by simpa[h4] using hs3)
   have hHb:H3 b=some (.cells (cM (.mk t v))):=hs3.kept b _ (by simp[za.upd,zr]) fun d e=>by
    have:=hs.own;subst e
    have hx:H2 b=_:=this
    rw[hb] at hx;cases hx
   simp(disch:=first|omega|assumption) only[zl,zg,ze,zk,zh,zd,zr,ea2,hHb,go_sem]
   refine ZB (ihm t v hmem (zbP hwm t v hmem) _ _ o3 (by simp only[Lim,Al5,Al2,Al3];omega) hs3'.own) fun o4 H4 hs4=>?_
   rw[yM] at hs4
   simp(disch:=first|omega|assumption) only[wrap64,go_sem]
   exact goJ (hJ (o4,a++[⟨2,t⟩,⟨1,[58]⟩]++yD v) H4 ⟨by rw[← hn];simp,by simp only[Al5,Al2,Al3];omega,hs3'.trans hs4⟩) (by simp(disch:=first|omega|assumption) only[go_sem])
def zcH (v:Val):List Tok:=if zaf v then yD v else []
theorem zg0 (v:Val) (hw:wfV v) (hb:4*bV v≤Lim):zu Tryz.prog 55 [.agg (cV v)] (.tup [.sl .no 2 (cKs (zcH v)),.bool (zaf v)]):=by
 have hb':bV v≤Lim:=by omega
 refine zu.go ir55 ck55 (Al4 _) fun KP Q hQ=>?_
 simp(disch:=first|omega|assumption) only[zl,zg,ze,zk,zh,zd,zr,ir55,go_sem]
 refine zb (ztm v hb') ?_
 cases h:zaf v with
 | false =>
  simp(disch:=first|omega|assumption) only[h,go_sem]
  exact hQ _ _ _ _ nofun rfl (by simp[zc,zf,AV.strip,AV.strip1,zcH,h,cKs])
 | true =>
  simp(disch:=first|omega|assumption) only[zl,zg,ze,zk,zh,zd,zr,h,go_sem]
  refine ZB (ztz v hw [] _ .nil (by simpa using hb) rfl) fun o' H' hs=>?_
  simp(disch:=first|omega|assumption) only[go_sem]
  exact hQ _ _ _ _ nofun rfl (by simp[zc,zf,AV.strip,AV.strip1,zcH,h])
end Go.Proofs.YticbbfbpeimkbaaGreatDoor
namespace Go.Proofs.YticbbfbpeimkbaaGreatDoor
def znF (P:Program) (f:FuncId) (fn:Func) (s:ChangeSpec) (c:OpenClaim):Bool:=c.wf (OpenSpec.ofChange s)&&laidOutB P&&mapsRowed P&&fn.params.all (P.readableRec ·)&&namedTie P c.named s.vars
def znB (P:Program) (f:FuncId) (fn:Func) (s:ChangeSpec) (c:OpenClaim):Bool:=(c.stops==[])&&(P.stops==[])&&(c.knobs==[])&&(P.stopKnobs==[])&&(c.maps==(fn.params.toList++s.plain.varTypes P).any (P.mapsRec ·))&&(c.ifaces==(fn.params.toList++s.plain.varTypes P).any (P.ifacesRec ·))&&(c.mapsOut==P.mapsAmong fn.resultTypes.toList)&&(c.loops==(fn.params.toList++s.plain.varTypes P).any (P.loopsFrom ·))&&(c.wideKeys==(fn.params.toList++s.plain.varTypes P++fn.resultTypes.toList).any (P.wideKeysFrom ·))&&s.vars.all (P.varReadable ·)&&fn.resultTypes.all (fun t=>P.readableRec t&&decide (t<P.types.size))&&(c.ifacesOut==fn.resultTypes.toList.any (P.ifacesRec ·))&&(c.loopsOut==fn.resultTypes.toList.any (P.loopsFrom ·))&&(c.veiled==(fn.params.toList++s.plain.varTypes P++fn.resultTypes.toList).any (P.veiledRec ·))&&c.veiledFits P fn.params.toList (fn.params.toList++s.plain.varTypes P++fn.resultTypes.toList)
def znz (P:Program) (f:FuncId) (fn:Func) (s:ChangeSpec) (c:OpenClaim):Bool:=(c.inPlace==P.inPlace f)&&(c.unfollowed==P.unfollowed f)&&(c.recurses==P.recurses f)&&(c.named==P.varsNamed f)
def zni (P:Program) (f:FuncId) (fn:Func) (s:ChangeSpec) (c:OpenClaim):Bool:=(c.plainKeys==P.plainKeys)&&c.shortTexts.isNone
def znk (P:Program) (f:FuncId) (fn:Func) (s:ChangeSpec) (c:OpenClaim):Bool:=P.stopsHeard
def zm4 (P:Program) (f:FuncId) (fn:Func) (s:ChangeSpec) (c:OpenClaim):Bool:=P.mayEnter
def znt (P:Program) (f:FuncId) (fn:Func) (s:ChangeSpec) (c:OpenClaim):Bool:=(c.lifted==P.liftsFinal)&&(P.make==some c.make)&&(c.kinds==(if c.domain.isEmpty then [] else fn.params.toList.map fun t=>match P.underlying t with|some (.int k)=>some k|_=>none))&&(c.pinned==c.pinnedBy)
theorem zpb {P:Program} {f:FuncId} {fn:Func} {s:ChangeSpec} {c:OpenClaim} (h0:znF P f fn s c=true) (h1:znB P f fn s c=true) (h2:znz P f fn s c=true) (h3:zni P f fn s c=true) (h4:znk P f fn s c=true) (h5:zm4 P f fn s c=true) (h6:znt P f fn s c=true):joinedFacts P f fn s c=true:=by
 simp only[znF,Al0] at h0
 obtain⟨⟨⟨⟨a0,a1⟩,a2⟩,a3⟩,a4⟩:=h0
 simp only[znB,Al0] at h1
 obtain⟨⟨⟨⟨⟨⟨⟨⟨⟨⟨⟨⟨⟨⟨a5,a6⟩,a7⟩,a8⟩,a13⟩,a14⟩,a15⟩,a16⟩,a17⟩,a18⟩,a19⟩,a20⟩,a21⟩,a30⟩,a31⟩:=h1
 simp only[znz,Al0] at h2
 obtain⟨⟨⟨a9,a10⟩,a11⟩,a12⟩:=h2
 simp only[zni,Al0] at h3
 obtain⟨a22,a23⟩:=h3
 simp only[znk,Al0] at h4
 have a24:=h4
 simp only[zm4,Al0] at h5
 have a25:=h5
 simp only[znt,Al0] at h6
 obtain⟨⟨⟨a26,a27⟩,a28⟩,a29⟩:=h6
 simp only[joinedFacts,Al0]
 exact⟨⟨⟨⟨⟨⟨⟨⟨⟨⟨⟨⟨⟨⟨⟨⟨⟨⟨⟨⟨⟨⟨⟨⟨⟨⟨⟨⟨⟨⟨⟨a0,a1⟩,a2⟩,a3⟩,a4⟩,a5⟩,a6⟩,a7⟩,a8⟩,a9⟩,a10⟩,a11⟩,a12⟩,a13⟩,a14⟩,a15⟩,a16⟩,a17⟩,a18⟩,a19⟩,a20⟩,a21⟩,a22⟩,a23⟩,a24⟩,a25⟩,a26⟩,a27⟩,a28⟩,a29⟩,a30⟩,a31⟩
open Go.Ab Go.ChangeAt Go.ChangeShapes Go.Lib Go.RowKit Go.WideElems Go.WideShapes
theorem own:ownKnob Tryz.prog.godebug=none:=by kernel_rfl
theorem laidOut:laidOutB Tryz.prog=true:=by kernel_rfl
theorem zp9 {H:Type} {s:ChangeSpec} {ds:List (DataW H)} (h:∀ k,(Rows.OpenSpec.upto s).cond=some k→k H ds=true):Yg ds≤1048576:=by
 have h1:Rows.uptoSmall H ds=true:=h _ rfl
 have h2:=of_decide_eq_true h1
 rwa [za5] at h2
end Go.Proofs.YticbbfbpeimkbaaGreatDoor
namespace Go.Proofs.YticbbfbpeimkbaaGreatDoor
open Go.Ab
structure DirD where
 nm:List UInt8
 args:List Mem
inductive SelD where
 | mk (k:Int) (al nm:List UInt8) (args:List Mem) (dirs:List DirD) (on:List UInt8) (sels:List SelD)
structure TyD where
 nm:List UInt8
 lists:Int
 musts:Int
structure VarD where
 nm:List UInt8
 t:TyD
 has:Bool
 d:Val
structure OpD where
 k:Int
 nm:List UInt8
 vars:List VarD
 dirs:List DirD
 sels:List SelD
structure FragD where
 nm:List UInt8
 on:List UInt8
 dirs:List DirD
 sels:List SelD
structure DocD where
 ops:List OpD
 frags:List FragD
def cD (x:DirD):List AV:=[.str x.nm,.sl .no 6 (cMs x.args)]
def cDs (l:List DirD):List (List AV):=l.map cD
mutual
def cS:SelD→List AV
 | .mk k al nm args dirs on sels=>[.int .i64 k,.str al,.str nm,.sl .no 6 (cMs args),.sl .no 2 (cDs dirs),.str on,.sl .no 7 (cSs sels)]
def cSs:List SelD→List (List AV)
 | []=>[]
 | x::r=>cS x::cSs r
end
def cTy (t:TyD):List AV:=[.str t.nm,.int .i64 t.lists,.int .i64 t.musts]
def cW (x:VarD):List AV:=cTy ⟨x.nm,0,0⟩ |>.take 1 |>.append (cTy x.t++(.bool x.has::cV x.d))
def cWs (l:List VarD):List (List AV):=l.map cW
def cO (x:OpD):List AV:=[.int .i64 x.k,.str x.nm,.sl .no 10 (cWs x.vars),.sl .no 2 (cDs x.dirs),.sl .no 7 (cSs x.sels)]
def cOs (l:List OpD):List (List AV):=l.map cO
def cF (x:FragD):List AV:=[.str x.nm,.str x.on,.sl .no 2 (cDs x.dirs),.sl .no 7 (cSs x.sels)]
def cFs (l:List FragD):List (List AV):=l.map cF
def zdv (d:DocD):List AV:=[.sl .no 5 (cOs d.ops),.sl .no 4 (cFs d.frags)]
theorem ze2 (nm:List UInt8) (t:TyD) (h:Bool) (d:Val):cW ⟨nm,t,h,d⟩=.str nm::.str t.nm::.int .i64 t.lists::.int .i64 t.musts::.bool h::cV d:=rfl
theorem ze0:∀ l,cSs l=l.map cS
 | []=>rfl
 | v::r=>by rw[cSs,ze0 r];rfl
theorem zgX (l:List DirD):(cDs l).length=l.length:=by simp[cDs]
theorem zdG (l:List SelD):(cSs l).length=l.length:=by rw[ze0];simp
theorem zfj (l:List VarD):(cWs l).length=l.length:=by simp[cWs]
theorem zgT (l:List OpD):(cOs l).length=l.length:=by simp[cOs]
theorem zg5 (l:List FragD):(cFs l).length=l.length:=by simp[cFs]
theorem zkf {l a:List DirD} {x:DirD} {b:List DirD} (h:l=a++x::b):(cDs l).getD a.length []=cD x:=Zz h
theorem zfl {l a:List SelD} {x:SelD} {b:List SelD} (h:l=a++x::b):(cSs l).getD a.length []=cS x:=by rw[ze0,Zz h]
theorem zbz {l a:List VarD} {x:VarD} {b:List VarD} (h:l=a++x::b):(cWs l).getD a.length []=cW x:=Zz h
theorem zkZ {l a:List OpD} {x:OpD} {b:List OpD} (h:l=a++x::b):(cOs l).getD a.length []=cO x:=Zz h
theorem zkt {l a:List FragD} {x:FragD} {b:List FragD} (h:l=a++x::b):(cFs l).getD a.length []=cF x:=Zz h
theorem zaP (k:Int) (al nm:List UInt8) (args:List Mem) (dirs:List DirD) (on:List UInt8) (sels:List SelD):cS (.mk k al nm args dirs on sels)=[.int .i64 k,.str al,.str nm,.sl .no 6 (cMs args),.sl .no 2 (cDs dirs),.str on,.sl .no 7 (cSs sels)]:=rfl
theorem zrm (x:DirD):(cD x).map AV.strip1=cD x:=rfl
theorem zfg (x:SelD):(cS x).map AV.strip1=cS x:=by cases x;rfl
theorem zdp (x:VarD):(cW x).map AV.strip1=cW x:=by rcases x with ⟨a,b,c,⟨⟩⟩;rfl
theorem zhO (x:SelD):(cS x).length=7:=by cases x;rfl
theorem zeQ (x:SelD):(cS x).take 7=cS x:=by cases x;rfl
theorem zbZ (a b c d e f g:AV) (x:SelD):splice [a,b,c,d,e,f,g] 0 (cS x)=cS x:=by cases x;rfl
theorem zcV (x:VarD):(cW x).length=10:=by rcases x with ⟨a,b,c,⟨⟩⟩;rfl
theorem zbw (x:VarD):(cW x).take 10=cW x:=by rcases x with ⟨a,b,c,⟨⟩⟩;rfl
def bD (x:DirD):Nat:=1+x.nm.length+bMs x.args
def bDs (l:List DirD):Nat:=(l.map bD).sum
mutual
def bS:SelD→Nat
 | .mk _ al nm args dirs on sels=>1+al.length+nm.length+on.length+bMs args+bDs dirs+bSs sels
def bSs:List SelD→Nat
 | []=>0
 | x::r=>bS x+bSs r
end
def bW (x:VarD):Nat:=x.nm.length+x.t.nm.length+bV x.d
def bWs (l:List VarD):Nat:=(l.map bW).sum
def bO (x:OpD):Nat:=1+x.nm.length+bWs x.vars+bDs x.dirs+bSs x.sels
def bOs (l:List OpD):Nat:=(l.map bO).sum
def bF (x:FragD):Nat:=1+x.nm.length+x.on.length+bDs x.dirs+bSs x.sels
def bFs (l:List FragD):Nat:=(l.map bF).sum
def zbk (d:DocD):Nat:=bOs d.ops+bFs d.frags
theorem ze5 {α:Type} {f:α→Nat} (hf:∀ x,1≤f x):∀ l:List α,l.length≤(l.map f).sum
 | []=>Nat.zero_le _
 | x::r=>by have:=ze5 hf r;have:=hf x;simp only[List.map_cons,List.sum_cons,Al2];omega
theorem zgU {α:Type} (f:α→Nat) (a:List α) (x:α) (b:List α):((a++x::b).map f).sum=(a.map f).sum+f x+(b.map f).sum:=by simp;omega
theorem zoy (l:List DirD):l.length≤bDs l:=ze5 (fun x=>by simp only[bD];omega) l
theorem zof (l:List VarD):l.length≤bWs l:=ze5 (fun x=>by have:=zaG x.d;simp only[bW];omega) l
theorem zo7 (l:List OpD):l.length≤bOs l:=ze5 (fun x=>by simp only[bO];omega) l
theorem zop (l:List FragD):l.length≤bFs l:=ze5 (fun x=>by simp only[bF];omega) l
theorem zuP (x:SelD):1≤bS x:=by cases x;simp only[bS];omega
theorem zkS:∀ l:List SelD,l.length≤bSs l
 | []=>by simp
 | v::r=>by have:=zkS r;have:=zuP v;simp only[bSs,Al2];omega
theorem zoG (a:List DirD) (x:DirD) (b:List DirD):bDs (a++x::b)=bDs a+bD x+bDs b:=zgU ..
theorem zb7 (a:List VarD) (x:VarD) (b:List VarD):bWs (a++x::b)=bWs a+bW x+bWs b:=zgU ..
theorem zo9 (a:List OpD) (x:OpD) (b:List OpD):bOs (a++x::b)=bOs a+bO x+bOs b:=zgU ..
theorem zoM (a:List FragD) (x:FragD) (b:List FragD):bFs (a++x::b)=bFs a+bF x+bFs b:=zgU ..
theorem zgZ (a:List SelD) (x:SelD) (b:List SelD):bSs (a++x::b)=bSs a+bS x+bSs b:=by
 induction a with
 | nil=>simp[bSs]
 | cons y a ih=>simp only[Al6,bSs,ih];omega
mutual
theorem SelD.ind {P:SelD→Prop} (h:∀ k al nm args dirs on sels,(∀ v∈sels,P v)→P (.mk k al nm args dirs on sels)):∀ v,P v
 | .mk k al nm args dirs on sels=>h k al nm args dirs on sels (SelD.indL h sels)
theorem SelD.indL {P:SelD→Prop} (h:∀ k al nm args dirs on sels,(∀ v∈sels,P v)→P (.mk k al nm args dirs on sels)):∀ l:List SelD,∀ v∈l,P v
 | [],_,hv=>by cases hv
 | x::r,v,hv=>(List.mem_cons.1 hv).elim (fun e=>e▸SelD.ind h x) (SelD.indL h r v)
end
theorem zta {t:List UInt8} {v:Val} {m:List Mem} (h:Mem.mk t v∈m):bV v≤bMs m:=by
 obtain⟨a,b,hd⟩:=List.append_of_mem h
 have:=zcg a (.mk t v) b
 rw[← hd] at this
 simp only[bM] at this
 omega
theorem zk9 (a b:List Mem) (ha:bMs a≤Lim):zu Tryz.prog 102 [.sl .no 6 (cMs a),.sl .no 6 (cMs b)] (.bool (eqd a b)) :=
 zk5 a b (by have:=YV a;omega) fun s v hm u=>zuy v (by have:=zta hm;omega) u
def hexL:List UInt8:=[48,49,50,51,52,53,54,55,56,57,97,98,99,100,101,102]
def hexD (c:UInt8):Option Nat:=if Lib.indexByte hexL (c ||| 32)<0∨c.toNat<48∨(57<c.toNat∧c.toNat<65) then none else some (Lib.indexByte hexL (c ||| 32)).toNat
def YL:Nat→List UInt8→Nat→Option Nat
 | 0,_,u=>some u
 | _+1,[],_=>none
 | n+1,c::t,u=>match hexD c with
  | none=>none
  | some k=>YL n t (16*u+k)
def Y2 (s:List UInt8):Option Nat:=YL 4 s 0
def ZF (n:Nat):List UInt8 :=
 if n≤127 then [UInt8.ofNat n]
 else if n≤2047 then [UInt8.ofNat (192+n / 64),UInt8.ofNat (128+n % 64)]
 else if n≤65535 then [UInt8.ofNat (224+n / 4096),UInt8.ofNat (128+n / 64 % 64),UInt8.ofNat (128+n % 64)]
 else [UInt8.ofNat (240+n / 262144),UInt8.ofNat (128+n / 4096 % 64),UInt8.ofNat (128+n / 64 % 64),UInt8.ofNat (128+n % 64)]
def z1:List Nat→Option (List UInt8)
 | []=>some []
 | u::r=>if 65535<u∨(56320≤u∧u≤57343) then none
  else if 55296≤u∧u<56320 then match r with
   | []=>none
   | v::r=>if v<56320∨57343<v then none else (z1 r).map (ZF (65536+1024*(u-55296)+(v-56320))++·)
  else (z1 r).map (ZF u++·)
structure Sd where
 b:List UInt8
 u:List Nat
 ok:Bool
def yN (q:Sd):Sd:=⟨q.b++(z1 q.u).getD [],[],q.ok&&(z1 q.u).isSome⟩
def Sd.put (q:Sd) (c:UInt8):Sd:=⟨(yN q).b++[c],[],(yN q).ok⟩
def zeo:List UInt8:=[34,92,47,98,102,110,114,116]
def zrB:List UInt8:=[34,92,47,8,12,10,13,9]
def Ys (q:Sd):List UInt8→Option (Sd×List UInt8)
 | []=>none
 | c::t=>if c=117 then (Y2 t).map fun u=>(⟨q.b,q.u++[u],q.ok⟩,t.drop 4)
  else if Lib.indexByte zeo c<0 then none else some (q.put (zrB.getD (Lib.indexByte zeo c).toNat 0),t)
def YZ (may:UInt8→Bool):Nat→List UInt8→Sd→Option (Sd×List UInt8)
 | 0,_,_=>none
 | _+1,[],_=>none
 | n+1,c::t,q=>if c=34 then some (yN q,t)
  else if c=92 then match Ys q t with
   | none=>none
   | some (q',t')=>YZ may n t' q'
  else if may c then YZ may n t (q.put c) else none
def YJ (may:UInt8→Bool) (t:List UInt8):Option (List UInt8×List UInt8):=match YZ may (t.length+1) t ⟨[],[],true⟩ with
 | some (q,t')=>if q.ok then some (q.b,t') else none
 | none=>none
def hiB (c:UInt8):Bool:=decide (32≤c.toNat)
def bk (c:UInt8):Bool:=decide (0≤Lib.indexByte [9,10,13,32] c)
def skB:List UInt8→List UInt8
 | []=>[]
 | c::t=>if bk c then skB t else c::t
def nch (c:UInt8):Bool:=decide (0≤Lib.indexByte [48,49,50,51,52,53,54,55,56,57,43,45,46,101,69] c)
def nst (c:UInt8):Bool:=decide (0≤Lib.indexByte [45,48,49,50,51,52,53,54,55,56,57] c)
abbrev RR (α:Type):=Except Int (α×List UInt8)
def RR.bind {α β:Type} (x:RR α) (f:α→List UInt8→RR β):RR β:=match x with
 | .ok (a,t)=>f a t
 | .error e=>.error e
def zd1 (p t:List UInt8):Option (List UInt8):=if p.isPrefixOf (skB t) then some ((skB t).drop p.length) else none
def zgc (p t:List UInt8):RR Unit:=match zd1 p t with
 | some t'=>.ok ((),t')
 | none=>.error 2
def zoK (t:List UInt8):RR (List UInt8):=if [34].isPrefixOf (skB t) then match YJ hiB (skB t).tail with
  | some x=>.ok x
  | none=>.error 2
 else .error 2
def zuc:Val:=.mk 0 0 [] [] []
def zcL (s:List UInt8):Val:=if ZS s then .mk 2 (zix s) [] [] [] else .mk 3 0 s [] []
def zs7 (t:List UInt8):RR Val:=if Z1 (t.takeWhile nch)=0 then .error 2 else .ok (zcL (t.takeWhile nch),t.dropWhile nch)
def zh4 (p:List UInt8→RR Val):Nat→List Val→List UInt8→RR (List Val)
 | 0,_,_=>.error 2
 | n+1,l,t=>match zd1 [93] t with
  | some t'=>.ok (l,t')
  | none=>(zgc [44] t).bind fun _ t=>(p t).bind fun v t=>zh4 p n (l++[v]) t
def zoh (p:List UInt8→RR Val) (t:List UInt8):RR Val:=match zd1 [93] t with
 | some t'=>.ok (.mk 6 0 [] [] [],t')
 | none=>(p t).bind fun v t=>(zh4 p (t.length+1) [v] t).bind fun l t=>.ok (.mk 6 0 [] l [],t)
def ztw (s:List UInt8):List Mem→Bool
 | []=>false
 | .mk t _::r=>decide (t=s)||ztw s r
def zg4 (p:List UInt8→RR Val) (l:List Mem) (t:List UInt8):RR (List Mem) :=
 (zoK t).bind fun s t=>if ztw s l then .error 5 else (zgc [58] t).bind fun _ t=>(p t).bind fun v t=>.ok (l++[.mk s v],t)
def zdu (p:List UInt8→RR Val):Nat→List Mem→List UInt8→RR (List Mem)
 | 0,_,_=>.error 2
 | n+1,l,t=>match zd1 [125] t with
  | some t'=>.ok (l,t')
  | none=>(zgc [44] t).bind fun _ t=>(zg4 p l t).bind fun l t=>zdu p n l t
def mapM (p:List UInt8→RR Val) (t:List UInt8):RR Val:=match zd1 [125] t with
 | some t'=>.ok (.mk 7 0 [] [] [],t')
 | none=>(zg4 p [] t).bind fun l t=>(zdu p (t.length+1) l t).bind fun l t=>.ok (.mk 7 0 [] [] l,t)
def zmC (t:List UInt8):RR Val:=match zd1 [110,117,108,108] t with
 | some t'=>.ok (zuc,t')
 | none=>match zd1 [116,114,117,101] t with
  | some t'=>.ok (.mk 1 1 [] [] [],t')
  | none=>(zgc [102,97,108,115,101] t).bind fun _ t=>.ok (.mk 1 0 [] [] [],t)
def zbL (t:List UInt8) (p:List UInt8→RR Val):RR Val:=match t with
 | []=>zmC []
 | c::r=>if c=123 then mapM p r else if c=91 then zoh p r
  else if c=34 then (zoK (c::r)).bind fun s t=>.ok (.mk 4 0 s [] [],t)
  else if nst c then zs7 (c::r) else zmC (c::r)
def zuw (_:List UInt8):RR Val:=.error 4
def zeF:Nat→List UInt8→RR Val
 | 0,t=>if (skB t).head?=some 123∨(skB t).head?=some 91 then .error 4 else zbL (skB t) zuw
 | n+1,t=>zbL (skB t) (zeF n)
theorem zfd {q q':Sd} {t t':List UInt8} (h:Ys q t=some (q',t')):t' <:+ t∧t'.length<t.length:=by
 cases t with
 | nil=>cases h
 | cons c t =>
  simp only[Ys] at h
  split at h
  ·cases hu:Y2 t with
   | none=>simp[hu] at h
   | some u =>
    simp only[hu,yU,Al1,Al8] at h
    obtain⟨_,rfl⟩:=h
    exact⟨(List.drop_suffix _ _).trans (List.suffix_cons ..),by simp;omega⟩
  ·split at h
   ·cases h
   ·simp only[Al1,Al8] at h
    obtain⟨_,rfl⟩:=h
    exact⟨List.suffix_cons ..,by simp⟩
theorem zil {may:UInt8→Bool}:∀(n:Nat) (t:List UInt8) (q q':Sd) (t':List UInt8),YZ may n t q=some (q',t')→t' <:+ t∧t'.length<t.length
 | 0,_,_,_,_,h=>by cases h
 | _+1,[],_,_,_,h=>by cases h
 | n+1,c::t,q,q',t',h=>by
  simp only[YZ] at h
  split at h
  ·simp only[Al1,Al8] at h
   obtain⟨_,rfl⟩:=h
   exact⟨List.suffix_cons ..,by simp⟩
  ·split at h
   ·cases he:Ys q t with
    | none=>simp[he] at h
    | some x =>
     obtain⟨q1,t1⟩:=x
     simp only[he] at h
     have h1:=zfd he
     have h2:=zil n t1 q1 q' t' h
     exact⟨(h2.1.trans h1.1).trans (List.suffix_cons ..),by simp;omega⟩
   ·split at h
    ·have h2:=zil n t _ q' t' h
     exact⟨h2.1.trans (List.suffix_cons ..),by simp;omega⟩
    ·cases h
theorem zlB {may:UInt8→Bool} {t t' b:List UInt8} (h:YJ may t=some (b,t')):t' <:+ t∧t'.length<t.length:=by
 unfold YJ at h
 split at h
 ·rename_i q t1 hq
  split at h
  ·cases h;exact zil _ _ _ _ _ hq
  ·cases h
 ·cases h
theorem zdP:∀(n:Nat) (t:List UInt8) (u v:Nat),YL n t u=some v→n≤t.length
 | 0,_,_,_,_=>Nat.zero_le _
 | n+1,[],_,_,h=>by cases h
 | n+1,c::t,u,v,h=>by
  simp only[YL] at h
  split at h
  ·cases h
  ·have:=zdP n t _ v h;simp;omega
theorem zcT (n:Nat):(ZF n).length≤4∧(n≤65535→(ZF n).length≤3):=by
 unfold ZF
 split
 ·simp
 ·split
  ·simp
  ·split
   ·simp
   ·refine⟨by simp,fun h=>by omega⟩
theorem zf0:∀(u:List Nat) (s:List UInt8),z1 u=some s→s.length≤3*u.length
 | [],s,h=>by cases h;simp
 | u::[],s,h=>by
  simp only[z1] at h
  split at h
  ·cases h
  ·rename_i h1
   split at h
   ·cases h
   ·simp only[yU,Al1] at h
    subst h
    have:=(zcT u).2 (by omega)
    simp;omega
 | u::v::r,s,h=>by
  rw[z1] at h
  split at h
  ·cases h
  ·rename_i h1
   split at h
   ·split at h
    ·cases h
    ·cases hr:z1 r with
     | none=>simp[hr] at h
     | some x =>
      simp only[hr,yU,Al1] at h
      subst h
      have h2:=zf0 r x hr
      have h3:=(zcT (65536+1024*(u-55296)+(v-56320))).1
      simp only[Al5,Al2];omega
   ·cases hr:z1 (v::r) with
    | none=>simp[hr] at h
    | some x =>
     simp only[hr,yU,Al1] at h
     subst h
     have h2:=zf0 (v::r) x hr
     have h3:=(zcT u).2 (by omega)
     simp only[Al5,Al2] at h2 ⊢;omega
def Sd.w (q:Sd):Nat:=q.b.length+3*q.u.length
theorem zeV (q:Sd):(yN q).b.length≤q.w:=by
 unfold yN Sd.w
 cases h:z1 q.u with
 | none=>simp
 | some s=>have:=zf0 _ _ h;simp;omega
theorem zsk (q:Sd) (c:UInt8):(q.put c).w≤q.w+1:=by
 have:=zeV q
 simp only[Sd.put,Sd.w,Al5,Al2,Al3] at this ⊢;omega
theorem zra {q q':Sd} {t t':List UInt8} (h:Ys q t=some (q',t')):q'.w+t'.length≤q.w+t.length:=by
 cases t with
 | nil=>cases h
 | cons c t =>
  simp only[Ys] at h
  split at h
  ·cases hu:Y2 t with
   | none=>simp[hu] at h
   | some u =>
    simp only[hu,yU,Al1,Al8] at h
    obtain⟨rfl,rfl⟩:=h
    have:=zdP _ _ _ _ hu
    simp only[Sd.w,Al5,Al2,Al3,Yv];omega
  ·split at h
   ·cases h
   ·simp only[Al1,Al8] at h
    obtain⟨rfl,rfl⟩:=h
    have:=zsk q (zrB.getD (Lib.indexByte zeo c).toNat 0)
    simp only[Al2];omega
theorem zne {may:UInt8→Bool}:∀(n:Nat) (t:List UInt8) (q q':Sd) (t':List UInt8),YZ may n t q=some (q',t')→q'.b.length+t'.length+1≤q.w+t.length
 | 0,_,_,_,_,h=>by cases h
 | _+1,[],_,_,_,h=>by cases h
 | n+1,c::t,q,q',t',h=>by
  simp only[YZ] at h
  split at h
  ·simp only[Al1,Al8] at h
   obtain⟨rfl,rfl⟩:=h
   have:=zeV q
   simp only[Al2];omega
  ·split at h
   ·cases he:Ys q t with
    | none=>simp[he] at h
    | some x =>
     obtain⟨q1,t1⟩:=x
     simp only[he] at h
     have h1:=zra he
     have h2:=zne n t1 q1 q' t' h
     simp only[Al2];omega
   ·split at h
    ·have h2:=zne n t _ q' t' h
     have h3:=zsk q c
     simp only[Al2];omega
    ·cases h
theorem zvm {may:UInt8→Bool} {t t' b:List UInt8} (h:YJ may t=some (b,t')):b.length+t'.length+1≤t.length:=by
 unfold YJ at h
 split at h
 ·rename_i q t1 hq
  split at h
  ·cases h;have:=zne _ _ _ _ _ hq;simpa[Sd.w] using this
  ·cases h
 ·cases h
theorem zkF:inR 0:=by simp[inR]
theorem zpy {s:List UInt8} {n:Int} (h:Lib.parseIntB 64 s=.ok n):inR n:=by
 cases s with
 | nil=>cases h
 | cons c r =>
  simp only[Lib.parseIntB] at h
  split at h
  ·cases h
  ·cases h
  ·split at h
   ·cases h
   ·split at h
    ·cases h
    ·rename_i h1 h2
     cases h
     simp only[inR]
     split<;>simp_all<;>omega
theorem zqu (s:List UInt8):bV (zcL s)≤1+s.length∧wfV (zcL s):=by
 unfold zcL
 split
 ·rename_i h
  refine⟨by simp only[bV,bVs,bMs,Al3];omega,?_,trivial,trivial⟩
  unfold ZS at h
  unfold zix
  rcases hp:Lib.parseIntB 64 s with v|_|_
  ·exact zpy hp
  ·exact zkF
  ·rw[hp] at h;simp[okI] at h
 ·exact⟨by simp only[bV,bVs,bMs];omega,zkF,trivial,trivial⟩
abbrev TS:=List Tok
def hdT (t:TS):Tok:=t.headD ⟨0,[]⟩
def isP (m:List UInt8) (t:TS):Bool:=decide ((hdT t).k=1)&&decide ((hdT t).s=m)
def isW (w:List UInt8) (t:TS):Bool:=decide ((hdT t).k=2)&&decide ((hdT t).s=w)
abbrev PR (α:Type):=Except Int (α×TS)
def pb {α β:Type} (x:PR α) (f:α→TS→PR β):PR β:=match x with
 | .ok (a,t)=>f a t
 | .error e=>.error e
theorem zF {α β:Type} (a:α) (t:TS) (f:α→TS→PR β):pb (.ok (a,t)) f=f a t:=rfl
def ZY (m:List UInt8) (t:TS):PR Unit:=if isP m t then .ok ((),t.tail) else .error 2
def yT (t:TS):PR (List UInt8):=if (hdT t).k=2 then .ok ((hdT t).s,t.tail) else .error 2
def YO (w:List UInt8) (t:TS):TS:=if isW w t then t.tail else t
def yA {α:Type} (m:List UInt8) (f:TS→PR α):Nat→List α→TS→PR (List α)
 | 0,_,_=>.error 0
 | n+1,l,t=>if isP m t then .ok (l,t.tail) else pb (f t) fun x t=>yA m f n (l++[x]) t
def zaA {α:Type} (m:List UInt8) (f:TS→PR α) (t:TS):PR (List α):=pb (f t) fun x t=>yA m f (t.length+1) [x] t
def Yu {α:Type} (m:List UInt8) (f:TS→PR α):Nat→List α→TS→PR (List α)
 | 0,_,_=>.error 0
 | n+1,l,t=>if isP m t then pb (f t.tail) fun x t=>Yu m f n (l++[x]) t else .ok (l,t)
def zbM (ty:TyD) (t:TS):PR TyD:=if isP [33] t then .ok (⟨ty.nm,ty.lists,ty.musts+1⟩,t.tail) else .ok (ty,t)
def zmM {α:Type} (f:Nat→α):Nat→Option α
 | 0=>none
 | k+1=>some (f k)
theorem zkV {α:Type} (f:Nat→α) (k:Nat):zmM f (k+1)=some (f k):=rfl
def zeU (sub:Option (TS→PR TyD)) (t:TS):PR TyD:=if isP [91] t then (match sub with
   | none=>.error 4
   | some f=>pb (f t.tail) fun ty t=>pb (ZY [93] t) fun _ t=>zbM ⟨ty.nm,ty.lists+1,ty.musts*2⟩ t)
  else pb (yT t) fun s t=>zbM ⟨s,0,0⟩ t
def zb1:Nat→TS→PR TyD
 | 0=>zeU none
 | k+1=>zeU (some (zb1 k))
theorem YP (k:Nat) (t:TS):zb1 k t=zeU (zmM zb1 k) t:=by cases k<;>rfl
def zaM (s:List UInt8):Val:=if s=[110,117,108,108] then zV else if s=[116,114,117,101] then .mk 1 1 [] [] [] else if s=[102,97,108,115,101] then .mk 1 0 [] [] [] else .mk 5 0 s [] []
def yP (v:TS→PR Val) (t:TS):PR Mem:=pb (yT t) fun s t=>pb (ZY [58] t) fun _ t=>pb (v t) fun x t=>.ok (.mk s x,t)
def zaH (fixed:Bool) (sub:Option (TS→PR Val)) (t:TS):PR Val :=
  if (hdT t).k=2 then .ok (zaM (hdT t).s,t.tail)
  else if (hdT t).k=3∨(hdT t).k=4 then .ok (zcL (hdT t).s,t.tail)
  else if (hdT t).k=5 then .ok (.mk 4 0 (hdT t).s [] [],t.tail)
  else if isP [91] t then (match sub with
   | none=>.error 4
   | some f=>pb (yA [93] f (t.tail.length+1) [] t.tail) fun l t=>.ok (.mk 6 0 [] l [],t))
  else if isP [123] t then (match sub with
   | none=>.error 4
   | some f=>pb (yA [125] (yP f) (t.tail.length+1) [] t.tail) fun l t=>.ok (.mk 7 0 [] [] l,t))
  else if fixed then .error 2
  else pb (ZY [36] t) fun _ t=>pb (yT t) fun s t=>.ok (.mk 8 0 s [] [],t)
def Zq (fixed:Bool):Nat→TS→PR Val
 | 0=>zaH fixed none
 | k+1=>zaH fixed (some (Zq fixed k))
theorem yX (fixed:Bool) (k:Nat) (t:TS):Zq fixed k t=zaH fixed (zmM (Zq fixed) k) t:=by cases k<;>rfl
def Y0 (fixed:Bool) (k:Nat) (t:TS):PR (List Mem):=if isP [40] t then zaA [41] (yP (Zq fixed k)) t.tail else .ok ([],t)
def zfY (fixed:Bool) (k:Nat) (t:TS):PR DirD:=pb (yT t) fun s t=>pb (Y0 fixed k t) fun a t=>.ok (⟨s,a⟩,t)
def Yx (fixed:Bool) (k:Nat) (t:TS):PR (List DirD):=Yu [64] (zfY fixed k) (t.length+1) [] t
def Zp (sels:TS→PR (List SelD)) (k:Nat) (t:TS):PR SelD :=
 if (hdT t).k=2∧isW [111,110] t=false then pb (yT t) fun s t=>pb (Yx false k t) fun d t=>.ok (.mk 1 [] s [] d [] [],t)
 else pb (if isW [111,110] t then yT t.tail else .ok ([],t)) fun o t=>pb (Yx false k t) fun d t=>pb (sels t) fun l t=>.ok (.mk 2 [] [] [] d o l,t)
def zay (sels:TS→PR (List SelD)) (k:Nat) (t:TS):PR SelD :=
 if isP [46,46,46] t then Zp sels k t.tail
 else pb (yT t) fun s t=>pb (if isP [58] t then pb (yT t.tail) fun s2 t=>.ok ((s,s2),t) else .ok (([],s),t)) fun an t =>
  pb (Y0 false k t) fun a t=>pb (Yx false k t) fun d t=>pb (if isP [123] t then sels t else .ok ([],t)) fun l t=>.ok (.mk 0 an.1 an.2 a d [] l,t)
def yo:Nat→TS→PR (List SelD)
 | 0,t=>if isP [123] t then .error 4 else .error 2
 | k+1,t=>if isP [123] t then zaA [125] (zay (yo k) k) t.tail else .error 2
def zaX (t:TS):PR VarD:=pb (ZY [36] t) fun _ t=>pb (yT t) fun s t=>pb (ZY [58] t) fun _ t=>pb (zb1 4 t) fun ty t =>
 if isP [61] t then pb (Zq true 16 t.tail) fun v t=>.ok (⟨s,ty,true,v⟩,t) else .ok (⟨s,ty,false,zV⟩,t)
def opP (kind:Int) (t:TS):PR OpD :=
 pb (if (hdT t).k=2 then yT t else .ok ([],t)) fun s t=>pb (if isP [40] t then zaA [41] zaX t.tail else .ok ([],t)) fun vs t =>
 pb (Yx true 16 t) fun d t=>pb (yo 16 t) fun l t=>.ok (⟨kind,s,vs,d,l⟩,t)
def zcG (t:TS):PR FragD :=
 pb (if isW [111,110] t then .error 2 else yT t) fun s t=>pb (if isW [111,110] t then .ok ((),t.tail) else .error 2) fun _ t=>pb (yT t) fun o t =>
 pb (Yx true 16 t) fun d t=>pb (yo 16 t) fun l t=>.ok (⟨s,o,d,l⟩,t)
def Yj (d:DocD) (t:TS):PR DocD :=
 if isP [123] t then pb (yo 16 t) fun l t=>.ok (⟨d.ops++[⟨0,[],[],[],l⟩],d.frags⟩,t)
 else if isW [113,117,101,114,121] t then pb (opP 0 t.tail) fun o t=>.ok (⟨d.ops++[o],d.frags⟩,t)
 else if isW [109,117,116,97,116,105,111,110] t then pb (opP 1 t.tail) fun o t=>.ok (⟨d.ops++[o],d.frags⟩,t)
 else if isW [102,114,97,103,109,101,110,116] t then pb (zcG t.tail) fun f t=>.ok (⟨d.ops,d.frags++[f]⟩,t)
 else .error 2
def Yk:Nat→DocD→TS→PR DocD
 | 0,_,_=>.error 0
 | n+1,d,t=>if t=[] then .ok (d,t) else pb (Yj d t) fun d t=>Yk n d t
def ze8 (t:TS):PR DocD:=pb (Yj ⟨[],[]⟩ t) fun d t=>Yk (t.length+1) d t
def wK (t:Tok):Nat:=t.s.length+4
def wT (l:TS):Nat:=(l.map wK).sum
theorem y0 (x:Tok) (l:TS):wT (x::l)=wK x+wT l:=by simp[wT]
structure Fp {α:Type} (b:α→Nat) (ok:α→Prop) (c:Nat) (t:TS) (a:α) (t':TS):Prop where
 suf:t' <:+ t
 w:b a+c+wT t'≤wT t
 ok:ok a
def GP {α:Type} (b:α→Nat) (ok:α→Prop) (c:Nat) (f:TS→PR α):Prop:=∀ t a t',f t=.ok (a,t')→Fp b ok c t a t'
theorem Fp.lt {α:Type} {b:α→Nat} {ok:α→Prop} {c:Nat} {t t':TS} {a:α} (h:Fp b ok c t a t') (hc:0<c):t'.length<t.length:=by
 obtain⟨p,hp⟩:=h.suf
 have h2:=h.w
 cases p with
 | nil=>simp at hp;subst hp;omega
 | cons x p=>rw[← hp];simp;omega
theorem zam {t:TS} (h:(hdT t).k≠0):t=hdT t::t.tail:=by
 cases t with
 | nil=>exact absurd rfl h
 | cons x t=>rfl
theorem zh8 {m:List UInt8} {t:TS} (h:isP m t=true):(hdT t).k≠0:=by
 simp only[isP,Al0,zL] at h;rw[h.1];decide
theorem zc4 {m:List UInt8} {t:TS} (h:isW m t=true):(hdT t).k≠0:=by
 simp only[isW,Al0,zL] at h;rw[h.1];decide
theorem zfZ {t:TS} (h:(hdT t).k≠0):t.tail <:+ t∧(hdT t).s.length+4+wT t.tail=wT t:=by
 refine⟨List.tail_suffix t,?_⟩
 conv=>rhs;rw[zam h,y0]
 rfl
theorem zae {m:List UInt8} {t:TS} (h:isP m t=true):t.tail <:+ t∧4+wT t.tail≤wT t:=by
 have:=zfZ (zh8 h);exact⟨this.1,by omega⟩
theorem ze1 {m:List UInt8} {t:TS} (h:isW m t=true):t.tail <:+ t∧4+wT t.tail≤wT t:=by
 have:=zfZ (zc4 h);exact⟨this.1,by omega⟩
def T1 {α:Type} (_:α):Prop:=True
def b0 {α:Type} (_:α):Nat:=0
theorem zbX (m:List UInt8):GP b0 T1 4 (ZY m):=fun t a t' h=>by
 unfold ZY at h
 split at h
 ·rename_i hp;simp only[Zh,Al8] at h;obtain⟨_,rfl⟩:=h
  have:=zae hp;exact⟨this.1,by simp only[b0];omega,trivial⟩
 ·cases h
theorem Zo:GP List.length T1 4 yT:=fun t a t' h=>by
 unfold yT at h
 split at h
 ·rename_i hp;simp only[Zh,Al8] at h;obtain⟨rfl,rfl⟩:=h
  have:=zfZ (t:=t) (by rw[hp];decide);exact⟨this.1,by omega,trivial⟩
 ·cases h
theorem zq {α β:Type} {x:PR α} {f:α→TS→PR β} {b:β} {t':TS} (h:pb x f=.ok (b,t')):∃ a t,x=.ok (a,t)∧f a t=.ok (b,t'):=by
 rcases x with e|⟨a,t⟩
 ·cases h
 ·exact⟨a,t,rfl,h⟩
def sm {α:Type} (b:α→Nat) (l:List α):Nat:=(l.map b).sum+l.length
theorem zoR {α:Type} (b:α→Nat) (l:List α) (x:α):sm b (l++[x])=sm b l+b x+1:=by simp[sm];omega
theorem zcz {α:Type} {ok:α→Prop} {l:List α} {x:α} (h:∀ y∈l,ok y) (hx:ok x):∀ y∈l++[x],ok y:=fun y hy=>by
 rcases List.mem_append.1 hy with h1|h1
 ·exact h y h1
 ·simp at h1;subst h1;exact hx
theorem zdN {α:Type} {b:α→Nat} {ok:α→Prop} {m:List UInt8} {f:TS→PR α} (hf:GP b ok 1 f):∀(n:Nat) (l:List α) (t:TS) (l':List α) (t':TS),(∀ x∈l,ok x)→yA m f n l t=.ok (l',t')→t' <:+ t∧sm b l'+4+wT t'≤sm b l+wT t∧∀ x∈l',ok x
 | 0,_,_,_,_,_,h=>by cases h
 | n+1,l,t,l',t',hl,h=>by
  simp only[yA] at h
  split at h
  ·rename_i hp;simp only[Zh,Al8] at h;obtain⟨rfl,rfl⟩:=h
   have:=zae hp;exact⟨this.1,by omega,hl⟩
  ·obtain⟨x,t1,h1,h2⟩:=zq h
   have g1:=hf _ _ _ h1
   have w:=g1.w
   have g2:=zdN hf n _ _ _ _ (zcz hl g1.ok) h2
   rw[zoR] at g2
   exact⟨g2.1.trans g1.suf,by omega,g2.2.2⟩
theorem zhj {α:Type} {b:α→Nat} {ok:α→Prop} {m:List UInt8} {f:TS→PR α} (hf:GP b ok 1 f):∀(n:Nat) (l:List α) (t:TS) (l':List α) (t':TS),(∀ x∈l,ok x)→Yu m f n l t=.ok (l',t')→t' <:+ t∧sm b l'+wT t'≤sm b l+wT t∧∀ x∈l',ok x
 | 0,_,_,_,_,_,h=>by cases h
 | n+1,l,t,l',t',hl,h=>by
  simp only[Yu] at h
  split at h
  ·rename_i hp
   have h0:=zae hp
   obtain⟨x,t1,h1,h2⟩:=zq h
   have g1:=hf _ _ _ h1
   have w:=g1.w
   have g2:=zhj hf n _ _ _ _ (zcz hl g1.ok) h2
   rw[zoR] at g2
   exact⟨(g2.1.trans g1.suf).trans h0.1,by omega,g2.2.2⟩
  ·simp only[Zh,Al8] at h;obtain⟨rfl,rfl⟩:=h
   exact⟨List.suffix_refl t,by omega,hl⟩
theorem zem {α:Type} {b:α→Nat} {ok:α→Prop} {m:List UInt8} {f:TS→PR α} (hf:GP b ok 1 f):GP (sm b) (fun l=>∀ x∈l,ok x) 4 (zaA m f):=fun t l t' h=>by
 obtain⟨x,t1,h1,h2⟩:=zq h
 have g1:=hf _ _ _ h1
 have w:=g1.w
 have g2:=zdN hf _ [x] _ _ _ (fun y hy=>by simp at hy;subst hy;exact g1.ok) h2
 have e:sm b [x]=b x+1:=by simp[sm]
 exact⟨g2.1.trans g1.suf,by omega,g2.2.2⟩
theorem zki {m:List UInt8} {t:TS} (h:isP m t=true):t.tail.length<t.length:=by
 conv=>rhs;rw[zam (zh8 h)]
 simp
theorem GP.lt {α:Type} {b:α→Nat} {ok:α→Prop} {c:Nat} {f:TS→PR α} (h:GP b ok c f) (hc:0<c):∀ t a t',f t=.ok (a,t')→t'.length<t.length:=fun t a t' e=>(h t a t' e).lt hc
def zwX (ty:TyD) (n:Nat):Prop:=0≤ty.lists∧ty.lists≤n∧0≤ty.musts∧ty.musts<2 ^ (ty.lists.toNat+1)∧ty.musts % 2=0
def zl8 (n:Nat) (ty:TyD):Prop:=0≤ty.lists∧ty.lists≤n∧0≤ty.musts∧ty.musts<2 ^ (ty.lists.toNat+1)
theorem zjP {ty:TyD} {n:Nat} (h:zwX ty n):∀ t a t',zbM ty t=.ok (a,t')→t' <:+ t∧a.nm=ty.nm∧wT t'≤wT t∧zl8 n a:=fun t a t' e=>by
 obtain⟨h1,h2,h3,h4,h5⟩:=h
 unfold zbM at e
 split at e
 ·rename_i hp;simp only[Zh,Al8] at e;obtain⟨rfl,rfl⟩:=e
  have:=zae hp
  refine⟨this.1,rfl,by omega,h1,h2,by simp only;omega,?_⟩
  have e2:(2:Int) ^ (ty.lists.toNat+1) % 2=0:=by rw[Int.pow_succ];omega
  simp only;omega
 ·simp only[Zh,Al8] at e;obtain⟨rfl,rfl⟩:=e
  exact⟨List.suffix_refl t,rfl,Al4 _,h1,h2,h3,h4⟩
theorem ziI (n:Nat) (ih:∀ m,n=m+1→GP (fun ty=>ty.nm.length) (zl8 m) 4 (zb1 m)):GP (fun ty=>ty.nm.length) (zl8 n) 4 (zb1 n):=fun t a t' h=>by
 rw[YP,zeU.eq_def] at h
 split at h
 ·rename_i hp
  have h0:=zae hp
  cases n with
  | zero=>cases h
  | succ n =>
   obtain⟨ty,t1,h1,h2⟩:=zq h
   obtain⟨_,t2,h3,h4⟩:=zq h2
   have g1:=ih n rfl _ _ _ h1
   have g3:=zbX _ _ _ _ h3
   obtain⟨a1,a2,a3,a4⟩:=g1.ok
   have e1:(ty.lists+1).toNat=ty.lists.toNat+1:=by omega
   have g4:=zjP (n:=n+1) ⟨by simp only;omega,by simp only;omega,by simp only;omega,by simp only;rw[e1,Int.pow_succ];omega,by simp only;omega⟩ _ _ _ h4
   have w1:=g1.w
   have w3:=g3.w
   simp only[b0] at w1 w3
   exact⟨((g4.1.trans g3.suf).trans g1.suf).trans h0.1,by rw[g4.2.1];simp only;omega,g4.2.2.2⟩
 ·obtain⟨s,t1,h1,h2⟩:=zq h
  have g1:=Zo _ _ _ h1
  have g4:=zjP (n:=n) ⟨by simp,by simp,by simp,by simp,by simp⟩ _ _ _ h2
  have w1:=g1.w
  exact⟨g4.1.trans g1.suf,by rw[g4.2.1];simp only;omega,g4.2.2.2⟩
theorem zib:∀ n,GP (fun ty=>ty.nm.length) (zl8 n) 4 (zb1 n)
 | 0=>ziI 0 fun m h=>by cases h
 | k+1=>ziI (k+1) fun m h=>by cases h;exact zib k
def Yw (x:Tok):AV:=.agg [.int .i64 x.k,.str x.s]
def zbg:Own→Option Nat
 | .tip b _=>some b
 | _=>none
structure Sep (H:za) (l:List (Own×Nat×Nat)):Prop where
 own:∀ x∈l,yh H x.1 x.2.1 x.2.2
 nd:(l.filterMap fun x=>zbg x.1).Nodup
theorem zcn {o:Own} {b:Nat} (h:zbg o=some b):∃ d,o=.tip b d:=by
 cases o<;>simp[zbg] at h
 rename_i c d;subst h;exact⟨d,rfl⟩
theorem yh.ofKept {H H':za} {o o2:Own} {n sz:Nat} (h:yh H o n sz) (hk:Kept H o2 H') (hne:∀ b d d2,o=.tip b d→o2≠.tip b d2):yh H' o n sz:=by
 cases o with
 | tip b d=>exact hk b _ h fun d2 e=>hne b d d2 rfl e
 | no=>exact h
 | nil=>exact h
 | full=>exact h
theorem Sep.step {H H':za} {a b:List (Own×Nat×Nat)} {o o':Own} {n n' sz:Nat} (h:Sep H (a++(o,n,sz)::b)) (h':OwnS H o H' o' n' sz):Sep H' (a++(o',n',sz)::b):=by
 have hnd:=h.nd
 simp only[List.filterMap_append,List.filterMap_cons] at hnd
 have hother:∀ x,x∈a∨x∈b→∀ c d d2,x.1=.tip c d→o≠.tip c d2:=fun x hx c d d2 hxe e=>by
  subst e
  simp only[zbg] at hnd
  rw[List.nodup_append] at hnd
  obtain⟨_,hb,hab⟩:=hnd
  rcases hx with hx|hx
  ·exact hab c (List.mem_filterMap.2 ⟨x,hx,by rw[hxe]⟩) c (zac ..) rfl
  ·exact(List.nodup_cons.1 hb).1 (List.mem_filterMap.2 ⟨x,hx,by rw[hxe]⟩)
 refine⟨fun x hx=>?_,?_⟩
 ·rcases List.mem_append.1 hx with hx|hx
  ·exact yh.ofKept (h.own x (by simp[hx])) h'.kept fun c d d2=>hother x (.inl hx) c d d2
  ·rcases List.mem_cons.1 hx with rfl|hx
   ·exact h'.own
   ·exact yh.ofKept (h.own x (by simp[hx])) h'.kept fun c d d2=>hother x (.inr hx) c d d2
 ·simp only[List.filterMap_append,List.filterMap_cons]
  have hsub:∀ c,c∈a.filterMap (fun x=>zbg x.1)∨c∈b.filterMap (fun x=>zbg x.1)→zbg o'≠some c:=fun c hc e=>by
   obtain⟨d',e⟩:=zcn e
   have hH:H c≠none∧∀ d0,o≠.tip c d0:=by
    rcases hc with hc|hc<;>obtain⟨x,hx,hxe⟩:=List.mem_filterMap.1 hc<;>obtain⟨d,hxe⟩:=zcn hxe
    ·have:=h.own x (by simp[hx]);rw[hxe] at this
     have h2:H c=some _:=this
     exact⟨by simp[h2],fun d0=>hother x (.inl hx) c d d0 hxe⟩
    ·have:=h.own x (by simp[hx]);rw[hxe] at this
     have h2:H c=some _:=this
     exact⟨by simp[h2],fun d0=>hother x (.inr hx) c d d0 hxe⟩
   rcases h'.new c d' e with h1|⟨d0,h1⟩
   ·exact hH.1 h1
   ·exact hH.2 d0 h1
  have hnd2:(a.filterMap (fun x=>zbg x.1)++b.filterMap (fun x=>zbg x.1)).Nodup:=by
   cases ho:zbg o with
   | none=>rw[ho] at hnd;exact hnd
   | some c =>
    rw[ho] at hnd
    rw[List.nodup_append] at hnd ⊢
    exact⟨hnd.1,(List.nodup_cons.1 hnd.2.1).2,fun x hx y hy=>hnd.2.2 x hx y (zba _ hy)⟩
  cases ho:zbg o' with
  | none=>exact hnd2
  | some c =>
   have hc:=hsub c
   rw[List.nodup_append] at hnd2 ⊢
   refine⟨hnd2.1,List.nodup_cons.2 ⟨fun hm=>hc (.inr hm) ho,hnd2.2.1⟩,fun x hx y hy=>?_⟩
   rcases List.mem_cons.1 hy with rfl|hy
   ·exact fun e=>hc (.inl (e▸hx)) ho
   ·exact hnd2.2.2 x hx y hy
theorem Sep.mono {H H':za} {l:List (Own×Nat×Nat)} (h:Sep H l) (hk:∀ c n sz,H c=some (.tip n sz)→H' c=some (.tip n sz)):Sep H' l :=
 ⟨fun x hx=>by
  have:=h.own x hx
  obtain⟨o,n,sz⟩:=x
  cases o with
  | tip c d=>exact hk c _ _ this
  | no=>exact this
  | nil=>exact this
  | full=>exact this,h.nd⟩
open Go.Lib Go.RowKit Go.Sort
theorem zie (s:List UInt8) (c:UInt8):zu Tryz.prog 222 [.str s,.int .u8 c.toNat] (.int .i64 (Lib.indexByte s c)):=by
 refine zu.of_calls fun γ w vs ht hv=>?_
 obtain⟨hl,hr⟩:=hv
 match vs,hl with
 | [v,u],_ =>
  cases hr 0 _ _ rfl rfl
  cases hr 1 _ _ rfl rfl
  refine(Tryz.strings_IndexByte ⟨s.toArray⟩ c.toNat w).mono fun e w' ⟨he,hw⟩=>⟨hw,_,he,?_⟩
  have e1:((c.toNat:Int)).toNat.toUInt8=c:=by simp
  rw[e1]
  exact .int _ _
theorem znf (s:List UInt8) (c:UInt8):zu Tryz.prog 209 [.str s,.str [c]] (.bool (decide (0≤Lib.indexByte s c))):=by
 refine zu.of_calls fun γ w vs ht hv=>?_
 obtain⟨hl,hr⟩:=hv
 match vs,hl with
 | [v,u],_ =>
  cases hr 0 _ _ rfl rfl
  cases hr 1 _ _ rfl rfl
  exact(Tryz.strings_Contains_one ⟨s.toArray⟩ c w).mono fun e w' ⟨he,hw⟩=>⟨hw,_,he,.bool _⟩
end Go.Proofs.YticbbfbpeimkbaaGreatDoor
namespace Go.Proofs.YticbbfbpeimkbaaGreatDoor
open Go.Ab
theorem yd (l:List UInt8):(bytesOf l).length=l.length:=by simp[bytesOf]
theorem y1 (a b:List UInt8):bytesOf a++bytesOf b=bytesOf (a++b):=by simp[bytesOf]
theorem ZO (l:List UInt8):(bytesOf l).map (·.map AV.strip1)=bytesOf l:=by simp[bytesOf,AV.strip1]
theorem zg3 (l:List UInt8):zis (bytesOf l)=some l:=by
 induction l with
 | nil=>rfl
 | cons c r ih =>
  have h:=c.toNat_lt
  simp only[bytesOf,List.map_cons] at ih ⊢
  simp only[zis,ih,yU]
  rw[if_pos ⟨by omega,by omega⟩]
  simp
theorem zbv (acc:List UInt8) (c:UInt8):bytesOf acc++[[.int .u8 c.toNat]]=bytesOf (acc++[c]):=y1 acc [c]
theorem zc0 (acc:List UInt8) (c d:UInt8):bytesOf acc++[[.int .u8 c.toNat],[.int .u8 d.toNat]]=bytesOf (acc++[c,d]):=y1 acc [c,d]
theorem zvU {n:Nat} (h:n<4294967296):IntKind.wrap .u32 (n:Int)=n:=by
 have e:IntKind.wrap .u32 (n:Int)=(n:Int) % 4294967296:=rfl
 rw[e];omega
theorem zqL {n:Nat} (h:n<2147483648):IntKind.wrap .i32 (n:Int)=n:=by
 have e:IntKind.wrap .i32 (n:Int)=if (n:Int) % 4294967296≥2147483648 then (n:Int) % 4294967296-4294967296 else (n:Int) % 4294967296:=by
  simp[IntKind.wrap,IntKind.bits,IntKind.signed]
 rw[e];split<;>omega
theorem wr8 (n:Nat):IntKind.wrap .u8 (n:Int)=((n % 256:Nat):Int):=by
 have e:IntKind.wrap .u8 (n:Int)=(n:Int) % 256:=rfl
 rw[e];omega
theorem fd6 (n:Nat):(n:Int).fdiv (2 ^ min 6 IntKind.i32.bits)=((n / 64:Nat):Int):=by
 show (n:Int).fdiv 64=_
 rw[Int.fdiv_eq_ediv_of_nonneg _ (by decide)];omega
theorem zvH (n:Nat):(n:Int).fdiv (2 ^ min 12 IntKind.i32.bits)=((n / 4096:Nat):Int):=by
 show (n:Int).fdiv 4096=_
 rw[Int.fdiv_eq_ediv_of_nonneg _ (by decide)];omega
theorem zwQ (n:Nat):(n:Int).fdiv (2 ^ min 18 IntKind.i32.bits)=((n / 262144:Nat):Int):=by
 show (n:Int).fdiv 262144=_
 rw[Int.fdiv_eq_ediv_of_nonneg _ (by decide)];omega
theorem zwb:∀ x:Fin 32,IntKind.wrap .u8 ((BitVec.ofInt IntKind.u8.bits 192 ||| BitVec.ofInt IntKind.u8.bits ((x.val:Nat):Int)).toNat:Int)=((UInt8.ofNat (192+x.val)).toNat:Int):=by decide +kernel
theorem zwM:∀ x:Fin 16,IntKind.wrap .u8 ((BitVec.ofInt IntKind.u8.bits 224 ||| BitVec.ofInt IntKind.u8.bits ((x.val:Nat):Int)).toNat:Int)=((UInt8.ofNat (224+x.val)).toNat:Int):=by decide +kernel
theorem zwt:∀ x:Fin 8,IntKind.wrap .u8 ((BitVec.ofInt IntKind.u8.bits 240 ||| BitVec.ofInt IntKind.u8.bits ((x.val:Nat):Int)).toNat:Int)=((UInt8.ofNat (240+x.val)).toNat:Int):=by decide +kernel
theorem zwp:∀ x:Fin 256,IntKind.wrap .u8 ((BitVec.ofInt IntKind.u8.bits 128 ||| BitVec.ofInt IntKind.u8.bits (IntKind.wrap .u8 ((BitVec.ofInt IntKind.u8.bits ((x.val:Nat):Int) &&& BitVec.ofInt IntKind.u8.bits 63).toNat:Int))).toNat:Int)=((UInt8.ofNat (128+x.val % 64)).toNat:Int):=by decide +kernel
theorem zv8 {m:Nat} (h:m<32):IntKind.wrap .u8 ((BitVec.ofInt IntKind.u8.bits 192 ||| BitVec.ofInt IntKind.u8.bits (IntKind.wrap .u8 (m:Int))).toNat:Int)=((UInt8.ofNat (192+m)).toNat:Int):=by
 rw[wr8 m,Nat.mod_eq_of_lt (show m<256 by omega)];exact zwb ⟨m,h⟩
theorem ztT {m:Nat} (h:m<16):IntKind.wrap .u8 ((BitVec.ofInt IntKind.u8.bits 224 ||| BitVec.ofInt IntKind.u8.bits (IntKind.wrap .u8 (m:Int))).toNat:Int)=((UInt8.ofNat (224+m)).toNat:Int):=by
 rw[wr8 m,Nat.mod_eq_of_lt (show m<256 by omega)];exact zwM ⟨m,h⟩
theorem zwA {m:Nat} (h:m<8):IntKind.wrap .u8 ((BitVec.ofInt IntKind.u8.bits 240 ||| BitVec.ofInt IntKind.u8.bits (IntKind.wrap .u8 (m:Int))).toNat:Int)=((UInt8.ofNat (240+m)).toNat:Int):=by
 rw[wr8 m,Nat.mod_eq_of_lt (show m<256 by omega)];exact zwt ⟨m,h⟩
theorem zs9 (m:Nat):IntKind.wrap .u8 ((BitVec.ofInt IntKind.u8.bits 128 ||| BitVec.ofInt IntKind.u8.bits (IntKind.wrap .u8 ((BitVec.ofInt IntKind.u8.bits (IntKind.wrap .u8 (m:Int)) &&& BitVec.ofInt IntKind.u8.bits 63).toNat:Int))).toNat:Int)=((UInt8.ofNat (128+m % 64)).toNat:Int):=by
 rw[wr8 m]
 have:=zwp ⟨m % 256,Nat.mod_lt _ (by decide)⟩
 simp only at this
 rw[this,Nat.mod_mod_of_dvd m (by decide)]
theorem zu5 (n:Nat) (h0:127<n) (h1:n≤1114111) (h2:¬ (55296≤n∧n≤57343)) (acc:List UInt8) (H:za) (o:Own) (ho:yh H o acc.length 1) (hb:acc.length≤Lim) :
  zjE Tryz.prog 356 [.sl o 1 (bytesOf acc),.int .i32 n] H o 1 (bytesOf (acc++ZF n)):=by
 refine zj.goO ir356 ck356 (Al4 _) fun KP Q hQ hP=>?_
 have e1:=zvU (n:=n) (by omega)
 have hal:=yd acc
 simp only[Lim] at hb
 have ho':yh H o (bytesOf acc).length 1:=by rw[hal];exact ho
 have fin:∀(e:List UInt8) o' H',ZF n=e→OwnS H o H' o' ((bytesOf acc).length+e.length) 1→zvL H o 1 (bytesOf (acc++ZF n)) (.sl o' 1 (bytesOf acc++bytesOf e)) H':=fun e o' H' he hs=>by
  rw[he];exact⟨o',by rw[y1],by rw[yd,Al5];rw[hal] at hs;exact hs⟩
 by_cases h3:n≤2047
 ·have g1:((n:Int)≤2047)=True:=eq_true (by omega)
  simp(disch:=first|omega|assumption) only[ir356,e1,g1,steps,st2,pev,rev,oev,z8,yf,ym,yl,bound,zI,mm2,mk,zt,AV.cells,AV.boxable,AV.one,AV.strip1,zH,zE,Nat.reduceEqDiff,reduceCtorEq,↓reduceIte,Nat.reduceAdd,Int.reduceNeg,Nat.reduceLeDiff,Int.reduceToNat,Int.reduceEq,Int.reduceLT,Int.reduceLE,Int.reduceAdd,Io,Im,If,Il,Jt,Jf,AC.rg,Jm,Jl,Ja,Fm,Fl,Fa,Imv,Imb,Iai,Iei,Igi,Isi,Ipf,Ipt,Ilb,Iia,Ilt,Iap,Ink,Iln,Ils,Iad,Iex,Ibx,Ing]
  simp only[fd6,zv8 (show n / 64<32 by omega),zs9]
  refine zx ho' (by simp[hal];omega) (by simp[hal,maxLen];omega) fun o' H' hs=>?_
  simp(disch:=first|omega|assumption) only[steps,st2,pev,rev,oev,z8,yf,ym,yl,bound,zI,mm2,mk,zt,AV.cells,AV.boxable,AV.one,AV.strip1,zH,zE,Nat.reduceEqDiff,reduceCtorEq,↓reduceIte,Nat.reduceAdd,Int.reduceNeg,Nat.reduceLeDiff,Int.reduceToNat,Int.reduceEq,Int.reduceLT,Int.reduceLE,Int.reduceAdd]
  exact hQ _ _ H' H' [_] nofun rfl (Low.refl _) (fin [_,_] o' H' (by unfold ZF;rw[if_neg (by omega),if_pos h3]) hs)
 ·have g1:¬ ((n:Int)≤2047):=by omega
  by_cases h4:n≤65535
  ·by_cases h5:n<55296
   ·have g2:((n:Int)<55296)=True:=eq_true (by omega)
    simp(disch:=first|omega|assumption) only[ir356,e1,g1,g2,steps,st2,pev,rev,oev,z8,yf,ym,yl,bound,zI,mm2,mk,zt,AV.cells,AV.boxable,AV.one,AV.strip1,zH,zE,Nat.reduceEqDiff,reduceCtorEq,↓reduceIte,Nat.reduceAdd,Int.reduceNeg,Nat.reduceLeDiff,Int.reduceToNat,Int.reduceEq,Int.reduceLT,Int.reduceLE,Int.reduceAdd,Io,Im,If,Il,Jt,Jf,AC.rg,Jm,Jl,Ja,Fm,Fl,Fa,Imv,Imb,Iai,Iei,Igi,Isi,Ipf,Ipt,Ilb,Iia,Ilt,Iap,Ink,Iln,Ils,Iad,Iex,Ibx,Ing]
    simp only[fd6,zvH,ztT (show n / 4096<16 by omega),zs9]
    refine zx ho' (by simp[hal];omega) (by simp[hal,maxLen];omega) fun o' H' hs=>?_
    simp(disch:=first|omega|assumption) only[steps,st2,pev,rev,oev,z8,yf,ym,yl,bound,zI,mm2,mk,zt,AV.cells,AV.boxable,AV.one,AV.strip1,zH,zE,Nat.reduceEqDiff,reduceCtorEq,↓reduceIte,Nat.reduceAdd,Int.reduceNeg,Nat.reduceLeDiff,Int.reduceToNat,Int.reduceEq,Int.reduceLT,Int.reduceLE,Int.reduceAdd]
    exact hQ _ _ H' H' [_] nofun rfl (Low.refl _) (fin [_,_,_] o' H' (by unfold ZF;rw[if_neg (by omega),if_neg h3,if_pos h4]) hs)
   ·have g2:¬ ((n:Int)<55296):=by omega
    have g3:((57343:Int)<n)=True:=eq_true (by omega)
    have g4:((n:Int)≤65535)=True:=eq_true (by omega)
    simp(disch:=first|omega|assumption) only[ir356,e1,g1,g2,g3,g4,steps,st2,pev,rev,oev,z8,yf,ym,yl,bound,zI,mm2,mk,zt,AV.cells,AV.boxable,AV.one,AV.strip1,zH,zE,Nat.reduceEqDiff,reduceCtorEq,↓reduceIte,Nat.reduceAdd,Int.reduceNeg,Nat.reduceLeDiff,Int.reduceToNat,Int.reduceEq,Int.reduceLT,Int.reduceLE,Int.reduceAdd,Io,Im,If,Il,Jt,Jf,AC.rg,Jm,Jl,Ja,Fm,Fl,Fa,Imv,Imb,Iai,Iei,Igi,Isi,Ipf,Ipt,Ilb,Iia,Ilt,Iap,Ink,Iln,Ils,Iad,Iex,Ibx,Ing]
    simp only[fd6,zvH,ztT (show n / 4096<16 by omega),zs9]
    refine zx ho' (by simp[hal];omega) (by simp[hal,maxLen];omega) fun o' H' hs=>?_
    simp(disch:=first|omega|assumption) only[steps,st2,pev,rev,oev,z8,yf,ym,yl,bound,zI,mm2,mk,zt,AV.cells,AV.boxable,AV.one,AV.strip1,zH,zE,Nat.reduceEqDiff,reduceCtorEq,↓reduceIte,Nat.reduceAdd,Int.reduceNeg,Nat.reduceLeDiff,Int.reduceToNat,Int.reduceEq,Int.reduceLT,Int.reduceLE,Int.reduceAdd]
    exact hQ _ _ H' H' [_] nofun rfl (Low.refl _) (fin [_,_,_] o' H' (by unfold ZF;rw[if_neg (by omega),if_neg h3,if_pos h4]) hs)
  ·have g2:¬ ((n:Int)<55296):=by omega
   have g3:((57343:Int)<n)=True:=eq_true (by omega)
   have g4:¬ ((n:Int)≤65535):=by omega
   have g5:((65535:Int)<n)=True:=eq_true (by omega)
   have g6:((n:Int)≤1114111)=True:=eq_true (by omega)
   simp(disch:=first|omega|assumption) only[ir356,e1,g1,g2,g3,g4,g5,g6,steps,st2,pev,rev,oev,z8,yf,ym,yl,bound,zI,mm2,mk,zt,AV.cells,AV.boxable,AV.one,AV.strip1,zH,zE,Nat.reduceEqDiff,reduceCtorEq,↓reduceIte,Nat.reduceAdd,Int.reduceNeg,Nat.reduceLeDiff,Int.reduceToNat,Int.reduceEq,Int.reduceLT,Int.reduceLE,Int.reduceAdd,Io,Im,If,Il,Jt,Jf,AC.rg,Jm,Jl,Ja,Fm,Fl,Fa,Imv,Imb,Iai,Iei,Igi,Isi,Ipf,Ipt,Ilb,Iia,Ilt,Iap,Ink,Iln,Ils,Iad,Iex,Ibx,Ing]
   simp only[fd6,zvH,zwQ,zwA (show n / 262144<8 by omega),zs9]
   refine zx ho' (by simp[hal];omega) (by simp[hal,maxLen];omega) fun o' H' hs=>?_
   simp(disch:=first|omega|assumption) only[steps,st2,pev,rev,oev,z8,yf,ym,yl,bound,zI,mm2,mk,zt,AV.cells,AV.boxable,AV.one,AV.strip1,zH,zE,Nat.reduceEqDiff,reduceCtorEq,↓reduceIte,Nat.reduceAdd,Int.reduceNeg,Nat.reduceLeDiff,Int.reduceToNat,Int.reduceEq,Int.reduceLT,Int.reduceLE,Int.reduceAdd]
   exact hQ _ _ H' H' [_] nofun rfl (Low.refl _) (fin [_,_,_,_] o' H' (by unfold ZF;rw[if_neg (by omega),if_neg h3,if_neg h4]) hs)
theorem zkK (n:Nat) (h1:n≤1114111) (h2:¬ (55296≤n∧n≤57343)) (acc:List UInt8) (H:za) (o:Own) (ho:yh H o acc.length 1) (hb:acc.length≤Lim) :
  zjE Tryz.prog 346 [.sl o 1 (bytesOf acc),.int .i32 n] H o 1 (bytesOf (acc++ZF n)):=by
 refine zj.goO ir346 ck346 (Al4 _) fun KP Q hQ hP=>?_
 have e1:=zvU (n:=n) (by omega)
 have hal:=yd acc
 by_cases h3:n≤127
 ·have g1:((n:Int)≤127)=True:=eq_true (by omega)
  have g2:IntKind.wrap .u8 (n:Int)=((UInt8.ofNat n).toNat:Int):=by rw[wr8];simp
  simp only[Lim] at hb
  simp(disch:=first|omega|assumption) only[ir346,e1,g1,g2,go_sem]
  refine zx (by rw[hal];exact ho) (by simp[hal];omega) (by simp[hal,maxLen];omega) fun o' H' hs=>?_
  simp(disch:=first|omega|assumption) only[go_sem]
  refine hQ _ _ H' H' [_] nofun rfl (Low.refl _) ⟨o',?_,?_⟩
  ·have:ZF n=[UInt8.ofNat n]:=by unfold ZF;rw[if_pos h3]
   rw[this];exact congrArg _ (zbv _ _)
  ·have:ZF n=[UInt8.ofNat n]:=by unfold ZF;rw[if_pos h3]
   rw[this,yd];simpa[hal] using hs
 ·have g1:¬ ((n:Int)≤127):=by omega
  simp(disch:=first|omega|assumption) only[ir346,e1,g1,go_sem]
  refine ZB (zu5 n (by omega) h1 h2 acc H o ho hb) fun o' H' hs=>?_
  simp(disch:=first|omega|assumption) only[go_sem]
  exact hQ _ _ H' H' [_] nofun rfl (Low.refl _) ⟨o',rfl,hs⟩
theorem zwD:∀ x:Fin 256,IntKind.wrap .u8 ((BitVec.ofInt IntKind.u8.bits ((x.val:Nat):Int) ||| BitVec.ofInt IntKind.u8.bits 32).toNat:Int)=((UInt8.ofNat x.val ||| 32).toNat:Int):=by decide +kernel
theorem zwZ (c:UInt8):IntKind.wrap .u8 ((BitVec.ofInt IntKind.u8.bits (c.toNat:Int) ||| BitVec.ofInt IntKind.u8.bits 32).toNat:Int)=((c ||| 32).toNat:Int):=by
 have:=zwD ⟨c.toNat,c.toNat_lt⟩
 simpa using this
theorem zrb (l:List UInt8) (c:UInt8):-1≤Lib.indexByte l c∧Lib.indexByte l c<l.length:=by
 induction l with
 | nil=>simp[Lib.indexByte]
 | cons x r ih =>
  simp only[Lib.indexByte,Al2]
  split
  ·omega
  ·split
   ·omega
   ·omega
theorem zwf (s:List UInt8) (hs:s.length≤Lim):zu Tryz.prog 326 [.str s] (.tup [.int .i64 ((Y2 s).getD 0:Nat),.bool (Y2 s).isSome]):=by
 refine zu.go ir326 ck326 (Al4 _) fun KP Q hQ=>?_
 simp only[Lim] at hs
 by_cases h4:s.length<4
 ·have g1:((s.length:Int)<4)=True:=eq_true (by omega)
  have:Y2 s=none:=by
   cases h:Y2 s with
   | none=>rfl
   | some u=>have:=zdP _ _ _ _ h;omega
  simp(disch:=first|omega|assumption) only[ir326,g1,steps,st2,pev,rev,oev,z8,yf,ym,yl,bound,zI,mm2,mk,zt,AV.cells,AV.boxable,AV.one,AV.strip1,zH,zE,Nat.reduceEqDiff,reduceCtorEq,↓reduceIte,Nat.reduceAdd,Int.reduceNeg,Nat.reduceLeDiff,Int.reduceToNat,Int.reduceEq,Int.reduceLT,Int.reduceLE,Int.reduceAdd,Io,Im,If,Il,Jt,Jf,AC.rg,Jm,Jl,Ja,Fm,Fl,Fa,Imv,Imb,Iai,Iei,Igi,Isi,Ipf,Ipt,Ilb,Iia,Ilt,Iap,Ink,Iln,Ils,Iad,Iex,Ibx,Ing]
  exact hQ _ _ _ _ nofun rfl (by simp[zc,zf,AV.strip,AV.strip1,this])
 ·have g1:¬ ((s.length:Int)<4):=by omega
  obtain⟨l,r,hl,hsr⟩:∃ l r:List UInt8,l.length=4∧s=l++r:=⟨s.take 4,s.drop 4,by simp;omega,by simp⟩
  have hl':(l.length:Int)=4:=by omega
  have key:∀(a b:List UInt8) (u:Nat),l=a++b→YL b.length (b++r) u=YL (4-a.length) (s.drop a.length) u:=fun a b u h=>by
   have:a.length+b.length=4:=by rw[← hl,h];simp
   rw[hsr,h,ZJ,List.drop_left];congr 1;omega
  simp(disch:=first|omega|assumption) only[ir326,g1,steps,st2,pev,rev,oev,z8,yf,ym,yl,bound,zI,mm2,mk,zt,AV.cells,AV.boxable,AV.one,AV.strip1,zH,zE,Nat.reduceEqDiff,reduceCtorEq,↓reduceIte,Nat.reduceAdd,Int.reduceNeg,Nat.reduceLeDiff,Int.reduceToNat,Int.reduceEq,Int.reduceLT,Int.reduceLE,Int.reduceAdd,Io,Im,If,Il,Jt,Jf,AC.rg,Jm,Jl,Ja,Fm,Fl,Fa,Imv,Imb,Iai,Iei,Igi,Isi,Ipf,Ipt,Ilb,Iia,Ilt,Iap,Ink,Iln,Ils,Iad,Iex,Ibx,Ing]
  refine zG l 10 (fun u:Nat=>[(4,.int .i64 u)]) (fun done rest u H=>YL rest.length (rest++r) u=Y2 s∧u<16 ^ done.length∧H=za.emp) 0 (by simp(disch:=first|omega|assumption) only[steps,st2,pev,rev,oev,z8,yf,ym,yl,bound,zI,mm2,mk,zt,AV.cells,AV.boxable,AV.one,AV.strip1,zH,zE,Nat.reduceEqDiff,reduceCtorEq,↓reduceIte,Nat.reduceAdd,Int.reduceNeg,Nat.reduceLeDiff,Int.reduceToNat,Int.reduceEq,Int.reduceLT,Int.reduceLE,Int.reduceAdd]) ⟨by rw[hl,← hsr];rfl,by simp,rfl⟩ ?_ ?_
  ·rintro u H J ⟨hu,_,rfl⟩ hlt
   simp only[Al3,YL] at hu
   simp(disch:=first|omega|assumption) only[hl',steps,st2,pev,rev,oev,z8,yf,ym,yl,bound,zI,mm2,mk,zt,AV.cells,AV.boxable,AV.one,AV.strip1,zH,zE,Nat.reduceEqDiff,reduceCtorEq,↓reduceIte,Nat.reduceAdd,Int.reduceNeg,Nat.reduceLeDiff,Int.reduceToNat,Int.reduceEq,Int.reduceLT,Int.reduceLE,Int.reduceAdd]
   exact hQ _ _ _ _ nofun rfl (by simp[zc,zf,AV.strip,AV.strip1,← hu])
  ·rintro done c rest u H J hd hlt hlt2 ⟨hu,hb,rfl⟩ hJ
   have hd4:done.length<4:=by omega
   have hlt':(done.length:Int)<4:=by omega
   have hlt3:(done.length:Int)<s.length:=by omega
   have hg:s.getD done.length 0=c:=by rw[hsr,hd];simp
   have hpow:16 ^ done.length≤4096:=by
    have:done.length≤3:=by omega
    calc 16 ^ done.length≤16 ^ 3:=Nat.pow_le_pow_right (by decide) this
     _=4096:=rfl
   simp only[Al2,Al6,YL] at hu
   have hidx:=zrb hexL (c ||| 32)
   have hc:=c.toNat_lt
   simp only[hexL,Al2,Al3] at hidx
   simp(disch:=first|omega|assumption) only[hlt',hlt3,hg,zwZ,steps,st2,pev,rev,oev,z8,yf,ym,yl,bound,zI,mm2,mk,zt,AV.cells,AV.boxable,AV.one,AV.strip1,zH,zE,Nat.reduceEqDiff,reduceCtorEq,↓reduceIte,Nat.reduceAdd,Int.reduceNeg,Nat.reduceLeDiff,Int.reduceToNat,Int.reduceEq,Int.reduceLT,Int.reduceLE,Int.reduceAdd]
   refine zb (zie hexL (c ||| 32)) ?_
   have no:hexD c=none→(Y2 s)=none:=fun e=>by rw[e] at hu;exact hu.symm
   by_cases n1:Lib.indexByte hexL (c ||| 32)<0
   ·have e:hexD c=none:=by unfold hexD;rw[if_pos (.inl n1)]
    simp(disch:=first|omega|assumption) only[n1,steps,st2,pev,rev,oev,z8,yf,ym,yl,bound,zI,mm2,mk,zt,AV.cells,AV.boxable,AV.one,AV.strip1,zH,zE,Nat.reduceEqDiff,reduceCtorEq,↓reduceIte,Nat.reduceAdd,Int.reduceNeg,Nat.reduceLeDiff,Int.reduceToNat,Int.reduceEq,Int.reduceLT,Int.reduceLE,Int.reduceAdd]
    exact hQ _ _ _ _ nofun rfl (by simp[zc,zf,AV.strip,AV.strip1,no e])
   obtain⟨k,hk⟩:∃ k:Nat,Lib.indexByte hexL (c ||| 32)=(k:Int):=⟨(Lib.indexByte hexL (c ||| 32)).toNat,by omega⟩
   have hk16:k<16:=by rw[show Lib.indexByte [48,49,50,51,52,53,54,55,56,57,97,98,99,100,101,102] (c ||| 32)=(k:Int) from hk] at hidx;omega
   have hu4:u<4096:=by omega
   have hkn:¬ ((k:Int)<0):=by omega
   have hnext:hexD c=some k→YL rest.length (rest++r) (16*u+k)=Y2 s∧16*u+k<16 ^ (done++[c]).length∧za.emp=za.emp:=fun e=>by
    rw[e] at hu
    refine⟨hu,?_,rfl⟩
    rw[Al5,Al2,Al3,Nat.pow_succ];omega
   have hpush:((16*u+k:Nat):Int)=16*(u:Int)+k:=by omega
   by_cases n2:c.toNat<48
   ·have e:hexD c=none:=by unfold hexD;rw[if_pos (.inr (.inl n2))]
    have n2':((c.toNat:Int)<48)=True:=eq_true (by omega)
    simp(disch:=first|omega|assumption) only[hk,hkn,n2',hlt3,hg,steps,st2,pev,rev,oev,z8,yf,ym,yl,bound,zI,mm2,mk,zt,AV.cells,AV.boxable,AV.one,AV.strip1,zH,zE,Nat.reduceEqDiff,reduceCtorEq,↓reduceIte,Nat.reduceAdd,Int.reduceNeg,Nat.reduceLeDiff,Int.reduceToNat,Int.reduceEq,Int.reduceLT,Int.reduceLE,Int.reduceAdd]
    exact hQ _ _ _ _ nofun rfl (by simp[zc,zf,AV.strip,AV.strip1,no e])
   have n2':¬ ((c.toNat:Int)<48):=by omega
   by_cases n3:57<c.toNat
   ·have n3':((57:Int)<c.toNat)=True:=eq_true (by omega)
    by_cases n4:c.toNat<65
    ·have e:hexD c=none:=by unfold hexD;rw[if_pos (.inr (.inr ⟨n3,n4⟩))]
     have n4':((c.toNat:Int)<65)=True:=eq_true (by omega)
     simp(disch:=first|omega|assumption) only[hk,hkn,n2',n3',n4',hlt3,hg,steps,st2,pev,rev,oev,z8,yf,ym,yl,bound,zI,mm2,mk,zt,AV.cells,AV.boxable,AV.one,AV.strip1,zH,zE,Nat.reduceEqDiff,reduceCtorEq,↓reduceIte,Nat.reduceAdd,Int.reduceNeg,Nat.reduceLeDiff,Int.reduceToNat,Int.reduceEq,Int.reduceLT,Int.reduceLE,Int.reduceAdd]
     exact hQ _ _ _ _ nofun rfl (by simp[zc,zf,AV.strip,AV.strip1,no e])
    ·have e:hexD c=some k:=by unfold hexD;rw[if_neg (by omega),hk];rfl
     have n4':¬ ((c.toNat:Int)<65):=by omega
     simp(disch:=first|omega|assumption) only[hk,hkn,n2',n3',n4',hlt3,hg,wrap64,steps,st2,pev,rev,oev,z8,yf,ym,yl,bound,zI,mm2,mk,zt,AV.cells,AV.boxable,AV.one,AV.strip1,zH,zE,Nat.reduceEqDiff,reduceCtorEq,↓reduceIte,Nat.reduceAdd,Int.reduceNeg,Nat.reduceLeDiff,Int.reduceToNat,Int.reduceEq,Int.reduceLT,Int.reduceLE,Int.reduceAdd]
     refine goJ (hJ (16*u+k) _ (hnext e)) (by simp(disch:=first|omega|assumption) only[hpush,steps,st2,pev,rev,oev,z8,yf,ym,yl,bound,zI,mm2,mk,zt,AV.cells,AV.boxable,AV.one,AV.strip1,zH,zE,Nat.reduceEqDiff,reduceCtorEq,↓reduceIte,Nat.reduceAdd,Int.reduceNeg,Nat.reduceLeDiff,Int.reduceToNat,Int.reduceEq,Int.reduceLT,Int.reduceLE,Int.reduceAdd])
   ·have e:hexD c=some k:=by unfold hexD;rw[if_neg (by omega),hk];rfl
    have n3':¬ ((57:Int)<c.toNat):=by omega
    simp(disch:=first|omega|assumption) only[hk,hkn,n2',n3',hlt3,hg,wrap64,steps,st2,pev,rev,oev,z8,yf,ym,yl,bound,zI,mm2,mk,zt,AV.cells,AV.boxable,AV.one,AV.strip1,zH,zE,Nat.reduceEqDiff,reduceCtorEq,↓reduceIte,Nat.reduceAdd,Int.reduceNeg,Nat.reduceLeDiff,Int.reduceToNat,Int.reduceEq,Int.reduceLT,Int.reduceLE,Int.reduceAdd]
    refine goJ (hJ (16*u+k) _ (hnext e)) (by simp(disch:=first|omega|assumption) only[hpush,steps,st2,pev,rev,oev,z8,yf,ym,yl,bound,zI,mm2,mk,zt,AV.cells,AV.boxable,AV.one,AV.strip1,zH,zE,Nat.reduceEqDiff,reduceCtorEq,↓reduceIte,Nat.reduceAdd,Int.reduceNeg,Nat.reduceLeDiff,Int.reduceToNat,Int.reduceEq,Int.reduceLT,Int.reduceLE,Int.reduceAdd])
def cU (l:List Nat):List (List AV):=l.map fun(n:Nat)=>[AV.int .i64 (n:Int)]
theorem zkg (l:List Nat):(cU l).length=l.length:=by simp[cU]
theorem zrn (l:List Nat):(cU l).map (·.map AV.strip1)=cU l:=by simp[cU,AV.strip1]
theorem zv7 (us:List Nat) (hl:us.length≤68719476736):zu Tryz.prog 327 [.sl .no 1 (cU us)] (.tup [.str ((z1 us).getD []),.bool (z1 us).isSome]):=by
 refine zu.go ir327 ck327 (Al4 _) fun KP Q hQ=>?_
 have hll:=zkg us
 simp(disch:=first|omega|assumption) only[ir327,go_sem]
 refine yK (fun s:List Nat×List Nat×Own×List UInt8=>[(4,.sl s.2.2.1 1 (bytesOf s.2.2.2)),(5,.int .i64 s.1.length)]) (fun s H=>us=s.1++s.2.1∧z1 us=(z1 s.2.1).map (s.2.2.2++·)∧s.2.2.2.length≤2*s.1.length*2∧yh H s.2.2.1 s.2.2.2.length 1) (fun s=>s.2.1.length) ([],us,.nil,[]) (by simp(disch:=first|omega|assumption) only[go_sem];rfl) ⟨rfl,by cases z1 us<;>rfl,by simp,rfl⟩ ?_
 rintro⟨done,rest,o,out⟩ H J ⟨hd,hj,hle,ho⟩ hJ
 simp only at hd hj hle ho
 have hdl:done.length+rest.length=us.length:=by rw[hd];simp
 cases rest with
 | nil =>
  simp only[List.append_nil] at hd
  have hlt:¬ ((done.length:Int)<us.length):=by rw[hd];omega
  simp(disch:=first|omega|assumption) only[hll,hlt,go_sem]
  simp only[z1,yU,List.append_nil] at hj
  simp(disch:=first|omega|assumption) only[zg3,go_sem]
  exact hQ _ _ _ _ nofun rfl (by simp[zc,zf,AV.strip,AV.strip1,hj])
 | cons u r =>
  have hlt:((done.length:Int)<us.length):=by simp at hdl;omega
  have hg:(cU us).getD done.length []=[.int .i64 u]:=by rw[hd];simp[cU]
  have hu0:¬ ((u:Int)<0):=by omega
  have hrl:r.length+1+done.length=us.length:=by simp at hdl;omega
  have none_of:z1 (u::r)=none→z1 us=none:=fun e=>by rw[hj,e];rfl
  have hmax:maxLen=9223372036854775807:=rfl
  by_cases a1:65535<u
  ·have e:=none_of (by rw[z1.eq_def];simp only;rw[if_pos (.inl a1)])
   have a1':((65535:Int)<u)=True:=eq_true (by omega)
   simp(disch:=first|omega|assumption) only[hll,hlt,hg,hu0,a1',go_sem]
   exact hQ _ _ _ _ nofun rfl (by simp[zc,zf,AV.strip,AV.strip1,e])
  have a1':¬ ((65535:Int)<u):=by omega
  by_cases a2:56320≤u∧u≤57343
  ·have e:=none_of (by rw[z1.eq_def];simp only;rw[if_pos (.inr a2)])
   have a2':((56320:Int)≤u)=True:=eq_true (by omega)
   have a3':((u:Int)≤57343)=True:=eq_true (by omega)
   simp(disch:=first|omega|assumption) only[hll,hlt,hg,hu0,a1',a2',a3',go_sem]
   exact hQ _ _ _ _ nofun rfl (by simp[zc,zf,AV.strip,AV.strip1,e])
  by_cases a3:55296≤u∧u<56320
  ·have b1:¬ ((56320:Int)≤u):=by omega
   have b2:((55296:Int)≤u)=True:=eq_true (by omega)
   have b3:((u:Int)<56320)=True:=eq_true (by omega)
   cases r with
   | nil =>
    have e:=none_of (by rw[z1.eq_def];simp only;rw[if_neg (by omega),if_pos a3])
    have b4:((done.length:Int)+1=us.length)=True:=eq_true (by simp at hrl;omega)
    simp(disch:=first|omega|assumption) only[hll,hlt,hg,hu0,a1',b1,b2,b3,wrap64,b4,go_sem]
    exact hQ _ _ _ _ nofun rfl (by simp[zc,zf,AV.strip,AV.strip1,e])
   | cons v r =>
    have b4:¬ ((done.length:Int)+1=us.length):=by simp at hrl;omega
    have b5:((done.length:Int)+1<us.length):=by simp at hrl;omega
    have b6:((done.length:Int)+1).toNat=done.length+1:=by omega
    have hg2:(cU us).getD (done.length+1) []=[.int .i64 v]:=by rw[hd];simp[cU]
    by_cases c1:v<56320
    ·have e:=none_of (by rw[z1.eq_def];simp only;rw[if_neg (by omega),if_pos a3,if_pos (.inl c1)])
     have c1':((v:Int)<56320)=True:=eq_true (by omega)
     simp(disch:=first|omega|assumption) only[hll,hlt,hg,hu0,a1',b1,b2,b3,wrap64,b4,b5,b6,hg2,c1',go_sem]
     exact hQ _ _ _ _ nofun rfl (by simp[zc,zf,AV.strip,AV.strip1,e])
    have c1':¬ ((v:Int)<56320):=by omega
    by_cases c2:57343<v
    ·have e:=none_of (by rw[z1.eq_def];simp only;rw[if_neg (by omega),if_pos a3,if_pos (.inr c2)])
     have c2':((57343:Int)<v)=True:=eq_true (by omega)
     simp(disch:=first|omega|assumption) only[hll,hlt,hg,hu0,a1',b1,b2,b3,wrap64,b4,b5,b6,hg2,c1',c2',go_sem]
     exact hQ _ _ _ _ nofun rfl (by simp[zc,zf,AV.strip,AV.strip1,e])
    have c2':¬ ((57343:Int)<v):=by omega
    have ej:z1 (u::v::r)=(z1 r).map (ZF (65536+1024*(u-55296)+(v-56320))++·):=by rw[z1.eq_def];simp only;rw[if_neg (by omega),if_pos a3,if_neg (by omega)]
    obtain⟨m,hm⟩:∃ m,65536+1024*(u-55296)+(v-56320)=m:=⟨_,rfl⟩
    rw[hm] at ej
    have hm2:(65536+1024*((u:Int)-55296)+v-56320)=(m:Int):=by omega
    have hm3:=(zcT m).1
    simp(disch:=first|omega|assumption) only[hll,hlt,hg,hu0,a1',b1,b2,b3,wrap64,b4,b5,b6,hg2,c1',c2',hm2,zqL (show m<2147483648 by omega),go_sem]
    refine ZB (zkK m (by omega) (by omega) out _ o ho (by simp only[Lim];omega)) fun o' H' hs=>?_
    simp(disch:=first|omega|assumption) only[wrap64,go_sem]
    have hown:=hs.own
    rw[yd] at hown
    have e5:(((done++[u,v]).length:Nat):Int)=(done.length:Int)+1+1:=by simp;omega
    refine goJ (hJ (done++[u,v],r,o',out++ZF m) _ (by simp;omega) ⟨by simp[hd],?_,?_,hown⟩) (by simp(disch:=first|omega|assumption) only[e5,go_sem])
    ·simp only[hj,ej];cases z1 r<;>simp
    ·simp;omega
  have ej:z1 (u::r)=(z1 r).map (ZF u++·):=by
   rw[z1.eq_def];simp only;rw[if_neg (by omega),if_neg a3]
  have hm3:=(zcT u).1
  have e5:(((done++[u]).length:Nat):Int)=(done.length:Int)+1:=by simp
  by_cases h:u<55296
  ·have b1:¬ ((56320:Int)≤u):=by omega
   have b2:¬ ((55296:Int)≤u):=by omega
   simp(disch:=first|omega|assumption) only[hll,hlt,hg,hu0,a1',b1,b2,zqL (show u<2147483648 by omega),go_sem]
   refine ZB (zkK u (by omega) (by omega) out _ o ho (by simp only[Lim];omega)) fun o' H' hs=>?_
   simp(disch:=first|omega|assumption) only[wrap64,go_sem]
   have hown:=hs.own
   rw[yd] at hown
   refine goJ (hJ (done++[u],r,o',out++ZF u) _ (by simp) ⟨by simp[hd],?_,?_,hown⟩) (by simp(disch:=first|omega|assumption) only[e5,go_sem])
   ·simp only[hj,ej];cases z1 r<;>simp
   ·simp;omega
  ·have b1:((56320:Int)≤u)=True:=eq_true (by omega)
   have b2:¬ ((u:Int)≤57343):=by omega
   have b3:((55296:Int)≤u)=True:=eq_true (by omega)
   have b4:¬ ((u:Int)<56320):=by omega
   simp(disch:=first|omega|assumption) only[hll,hlt,hg,hu0,a1',b1,b2,b3,b4,zqL (show u<2147483648 by omega),go_sem]
   refine ZB (zkK u (by omega) (by omega) out _ o ho (by simp only[Lim];omega)) fun o' H' hs=>?_
   simp(disch:=first|omega|assumption) only[wrap64,go_sem]
   have hown:=hs.own
   rw[yd] at hown
   refine goJ (hJ (done++[u],r,o',out++ZF u) _ (by simp) ⟨by simp[hd],?_,?_,hown⟩) (by simp(disch:=first|omega|assumption) only[e5,go_sem])
   ·simp only[hj,ej];cases z1 r<;>simp
   ·simp;omega
abbrev zbH:Nat:=68719476736
theorem zgN (H:za) (b:Nat) (x y:AObj):(H.upd b x).upd b y=H.upd b y:=by
 funext c;by_cases e:c=b<;>simp[za.upd,e]
theorem ZL {P:Program} {f:FuncId} {args:List AV} {H:za} {R RP:AV→za→Prop} (h:zj P f args H (fun e H'=>match e with|.ret v=>R v.strip H'|.pan v=>RP v H')) :
  zj P f args H (fun e H'=>match e with|.ret v=>R v H'|.pan v=>RP v H'):=by
 intro γ w vs ht hs hv
 refine(h γ w vs ht hs hv).mono fun e w' ⟨γ',H',r,h1,h2,h3,h4,h5⟩=>?_
 cases r with
 | ret v =>
  cases e with
  | returned u=>exact⟨γ',H',.ret v.strip,h1,h2,h3,Rep.strip h4,h5⟩
  | panicked ch=>exact h4.elim
  | outgrown=>exact h4.elim
 | pan v=>exact⟨γ',H',.pan v,h1,h2,h3,h4,h5⟩
theorem own_ne {H:za} {c b d n sz:Nat} {cs:List AV} (h:yh H (.tip b d) n sz) (hc:H c=some (.cells cs)):b≠c:=fun e=>by
 subst e
 have:H b=some (.tip (d+n) sz):=h
 rw[hc] at this;cases this
theorem Ze {H H':za} {o:Own} {n sz c:Nat} {cs:List AV} (h:yh H o n sz) (hc:H c=some (.cells cs)) (hk:Kept H o H'):H' c=some (.cells cs) :=
 hk c _ hc fun d e=>by subst e;exact own_ne h hc rfl
theorem Zw {H:za} {o:Own} {n sz c:Nat} {cs:List AV} {x:AObj} (h:yh H o n sz) (hc:H c=some (.cells cs)):yh (H.upd c x) o n sz:=by
 cases o with
 | tip b d=>have:=own_ne h hc;show (H.upd c x) b=_;rw[upd_ne this];exact h
 | no=>exact h
 | nil=>exact h
 | full=>exact h
structure SaidAt (H:za) (q:Nat) (x:Sd) (o o2:Own):Prop where
 hq:H q=some (.cells [.sl o 1 (bytesOf x.b),.sl o2 1 (cU x.u),.bool x.ok])
 ho:yh H o x.b.length 1
 ho2:yh H o2 x.u.length 1
 ne:∀ b d d2,o=.tip b d→o2≠.tip b d2
theorem znP {H:za} {q:Nat} {x:Sd} {o o2:Own} (hs:SaidAt H q x o o2) (hw:x.w≤zbH) :
  zj Tryz.prog 282 [.ptr q 0] H (fun e H'=>∃ v,e=.ret v∧(v=.tup []∧∃ o',SaidAt H' q (yN x) o' .nil)):=by
 refine zj.go ir282 ck282 (Al4 _) fun KP Q hQ=>?_
 obtain⟨hq,ho,ho2,hne⟩:=hs
 have hbl:=yd x.b
 simp only[zbH,Sd.w] at hw
 simp(disch:=first|omega|assumption) only[ir282,hq,go_sem]
 refine zb (zu.low (zv7 x.u (by omega))) ?_
 have hfw:=zeV x
 simp only[yN,Sd.w,Al5] at hfw
 simp(disch:=first|omega|assumption) only[hq,go_sem]
 refine zx (by rw[hbl];exact ho) (by simp[yd];omega) (by simp[maxLen,yd];omega) fun o' H1 hs=>?_
 have h1:H1 q=some (.cells [.sl o 1 (bytesOf x.b),.sl o2 1 (cU x.u),.bool x.ok]):=Ze ho hq hs.kept
 have hown:=hs.own
 simp only[Al5,yd] at hown
 cases hok:x.ok
 ·rw[hok] at h1
  simp(disch:=first|omega|assumption) only[h1,ZO,y1,go_sem]
  refine hQ _ _ _ _ _ nofun rfl (Low.refl _) ⟨rfl,o',?_,?_,rfl,nofun⟩
  ·simp[yN,hok,upd_same,cU,y1,ZO]
  ·simp only[yN,Al5]
   exact Zw hown h1
 ·rw[hok] at h1
  simp(disch:=first|omega|assumption) only[h1,ZO,y1,go_sem]
  refine hQ _ _ _ _ _ nofun rfl (Low.refl _) ⟨rfl,o',?_,?_,rfl,nofun⟩
  ·simp[yN,hok,upd_same,cU,y1,ZO]
  ·simp only[yN,Al5]
   exact Zw hown h1
def znJ (H':za) (q:Nat) (x:Sd) (s:List UInt8) (v:AV):Prop:=match Ys x s with
 | none=>v=.int .i64 0
 | some (x',t')=>v=.int .i64 ((s.length-t'.length:Nat):Int)∧∃ o o2,SaidAt H' q x' o o2
theorem zw0 {H:za} {q:Nat} {x:Sd} {o o2:Own} (hs:SaidAt H q x o o2) (hw:x.w≤zbH) (s:List UInt8) (hl:s.length≤Lim) :
  zj Tryz.prog 281 [.ptr q 0,.str s] H (fun e H'=>∃ v,e=.ret v∧znJ H' q x s v):=by
 refine zj.go ir281 ck281 (Al4 _) fun KP Q hQ=>?_
 have hs0:=hs
 obtain⟨hq,ho,ho2,hne⟩:=hs
 have hul:=zkg x.u
 have hw0:=hw
 simp only[zbH,Sd.w] at hw
 simp only[Lim] at hl
 simp(disch:=first|omega|assumption) only[ir281,go_sem]
 refine zb (zbx s [117]) ?_
 cases s with
 | nil =>
  simp(disch:=first|omega|assumption) only[List.isPrefixOf,go_sem]
  exact hQ _ _ _ _ [_] nofun rfl (Low.refl _) (by simp[znJ,Ys,zc,zf,AV.strip,AV.strip1])
 | cons c t =>
  simp only[Al2] at hl
  by_cases hc:c=117
  ·subst hc
   have hp:[117].isPrefixOf ((117:UInt8)::t)=true:=rfl
   have h1:((1:Int)≤((t.length+1:Nat):Int))=True:=eq_true (by omega)
   simp(disch:=first|omega|assumption) only[hp,h1,go_sem]
   refine zb (zwf t (by simp only[Lim];omega)) ?_
   cases hu:Y2 t with
   | none =>
    simp(disch:=first|omega|assumption) only[Option.isSome_none,go_sem]
    exact hQ _ _ _ _ [_] nofun rfl (Low.refl _) (by simp[znJ,Ys,hu,zc,zf,AV.strip,AV.strip1])
   | some u =>
    have h4:=zdP _ _ _ _ hu
    simp(disch:=first|omega|assumption) only[Option.isSome_some,Option.getD_some,hq,go_sem]
    refine zx (by rw[hul];exact ho2) (by simp[hul];omega) (by simp[maxLen,hul];omega) fun o' H1 hs1=>?_
    have h2:=Ze ho2 hq hs1.kept
    simp(disch:=first|omega|assumption) only[h2,zrn,go_sem]
    refine hQ _ _ _ _ [_] nofun rfl (Low.refl _) ?_
    have hsp:=Sep.step (a:=[(o,x.b.length,1)]) (b:=[]) (n:=x.u.length) (n':=x.u.length+1) (sz:=1) ⟨by intro y hy;simp at hy;rcases hy with rfl|rfl<;>assumption,?_⟩ (by simpa[hul] using hs1)
    ·simp only[znJ,Ys,if_true,hu,yU]
     refine⟨?_,o,o',?_,?_,?_,?_⟩
     ·show AV.int .i64 5=_
      simp only[Al2,Yv]
      congr 1;omega
     ·simp[upd_same,cU]
     ·exact Zw (hsp.own (o,x.b.length,1) (by simp)) h2
     ·simp only[Al5,Al2,Al3]
      exact Zw (hsp.own (o',x.u.length+1,1) (by simp)) h2
     ·intro b d d2 e1 e2
      have:=hsp.nd
      simp[e1,e2,zbg] at this
    ·cases h5:zbg o with
     | none=>cases h6:zbg o2<;>simp[h5,h6]
     | some b =>
      obtain⟨d,h7⟩:=zcn h5
      cases h6:zbg o2 with
      | none=>simp[h5,h6]
      | some b2 =>
       obtain⟨d2,h8⟩:=zcn h6
       simp only[Al6,Zg,List.filterMap_cons,List.filterMap_nil,h5,h6,List.nodup_cons,List.mem_singleton,List.not_mem_nil,not_false_eq_true,List.nodup_nil,and_true]
       rintro rfl
       exact hne b d d2 h7 h8
  ·have hp:[117].isPrefixOf (c::t)=false:=by
    simp only[List.isPrefixOf,Bool.and_true,beq_eq_false_iff_ne,ne_eq];exact fun e=>hc e.symm
   have hcl:¬ (c::t=[]):=by simp
   have h1:((0:Int)<((t.length+1:Nat):Int))=True:=eq_true (by omega)
   simp(disch:=first|omega|assumption) only[hp,hcl,h1,go_sem]
   refine zb (zie zeo c) ?_
   have hidx:=zrb zeo c
   by_cases hk:Lib.indexByte zeo c<0
   ·simp(disch:=first|omega|assumption) only[hk,go_sem]
    exact hQ _ _ _ _ [_] nofun rfl (Low.refl _) (by simp[znJ,Ys,hc,hk,zc,zf,AV.strip,AV.strip1])
   ·obtain⟨k,hk2⟩:∃ k:Nat,Lib.indexByte zeo c=(k:Int):=⟨(Lib.indexByte zeo c).toNat,by omega⟩
    have hk8:k<8:=by simp[zeo] at hidx;rw[show Lib.indexByte [34,92,47,98,102,110,114,116] c=(k:Int) from hk2] at hidx;omega
    have hk0:¬ ((k:Int)<0):=by omega
    simp(disch:=first|omega|assumption) only[hk2,hk0,go_sem]
    refine zK (znP hs0 hw0) fun v H1 ⟨hv,o',hs1⟩=>?_
    subst hv
    obtain⟨hq1,ho1,_,_⟩:=hs1
    have hfw:=zeV x
    have hbl:=yd (yN x).b
    simp only[Sd.w] at hfw
    have hk8':((k:Int)<8)=True:=eq_true (by omega)
    simp(disch:=first|omega|assumption) only[hq1,hk8',go_sem]
    refine zx (by rw[hbl];exact ho1) (by simp[hbl];omega) (by simp[maxLen,hbl];omega) fun o3 H2 hs3=>?_
    have hq2:=Ze ho1 hq1 hs3.kept
    simp(disch:=first|omega|assumption) only[hq2,go_sem]
    refine hQ _ _ _ _ [_] nofun rfl (Low.refl _) ?_
    simp only[znJ,Ys,hc,if_false,hk2,hk0]
    refine⟨?_,o3,.nil,?_,?_,rfl,nofun⟩
    ·show AV.int .i64 1=_
     simp only[Al2]
     congr 1;omega
    ·simp only[upd_same,Sd.put,Int.toNat_natCast]
     rw[← y1];rfl
    ·simp only[Sd.put,Al5,Al2,Al3]
     exact Zw (by simpa[hbl] using hs3.own) hq2
def Zj (n:Int):AV:=.ifc 186 (.agg [.int .i64 n])
def prc (L p:TS) (dp:Nat):AObj:=.cells [.sl .no 2 (cKs L),.int .i64 (p.length:Int),.int .i64 (dp:Int)]
def Pat (H:za) (r:Nat) (L t:TS) (dp:Nat) (H':za):Prop:=∃ p,p++t=L∧H'=H.upd r (prc L p dp)
def zel {α:Type} (H:za) (r:Nat) (L:TS) (dp:Nat) (x:PR α) (f:α→AV) (v:AV) (H':za):Prop:=∃ a t',x=.ok (a,t')∧v=f a∧Pat H r L t' dp H'
def zfm {α:Type} (x:PR α) (v:AV) (_:za):Prop:=∃ n,x=.error n∧v=Zj n
abbrev yS:Nat:=1000000
abbrev RpE {α:Type} (H:za) (r:Nat) (L:TS) (dp:Nat) (x:PR α) (f:α→AV):AEnd→za→Prop:=fun e H'=>match e with|.ret v=>zel H r L dp x f v H'|.pan v=>zfm x v H'
theorem Pat.again {H H1 H2:za} {r:Nat} {L t t':TS} {dp dp':Nat} (h:Pat H r L t dp H1) (h':Pat H1 r L t' dp' H2):Pat H r L t' dp' H2:=by
 obtain⟨p,_,rfl⟩:=h
 obtain⟨q,hq,rfl⟩:=h'
 exact⟨q,hq,zgN ..⟩
theorem Pat.at {H H1:za} {r:Nat} {L t:TS} {dp:Nat} (h:Pat H r L t dp H1):∃ p,p++t=L∧H1 r=some (prc L p dp):=by
 obtain⟨p,hp,rfl⟩:=h
 exact⟨p,hp,upd_same ..⟩
theorem Pat.self {H:za} {r:Nat} {L p t:TS} {dp:Nat} (hs:p++t=L) (hr:H r=some (prc L p dp)):Pat H r L t dp H :=
 ⟨p,hs,by funext c;by_cases e:c=r<;>simp[za.upd,e,hr]⟩
structure KI (H:za) (r:Nat) (L t:TS) (dp:Nat) (H1:za):Prop where
 keep:∀ c x,c≠r→H c=some x→H1 c=some x
 here:∃ p,p++t=L∧H1 r=some (prc L p dp)
 hr:∃ x,H r=some x
theorem KI.start {H:za} {r:Nat} {L p t:TS} {dp:Nat} (hs:p++t=L) (hr:H r=some (prc L p dp)):KI H r L t dp H:=⟨fun _ _ _ h=>h,⟨p,hs,hr⟩,⟨_,hr⟩⟩
theorem KI.call {H H1 H2:za} {r:Nat} {L t t':TS} {dp dp':Nat} (h:KI H r L t dp H1) (ha:Pat H1 r L t' dp' H2):KI H r L t' dp' H2:=by
 obtain⟨q,hq,rfl⟩:=ha
 exact⟨fun c x hc hx=>by rw[upd_ne hc];exact h.keep c x hc hx,⟨q,hq,upd_same ..⟩,h.hr⟩
theorem KI.ne {H H1:za} {r b:Nat} {L t:TS} {dp:Nat} (h:KI H r L t dp H1) (hb:H b=none):r≠b:=fun e=>by
 subst e;obtain⟨x,hx⟩:=h.hr;rw[hb] at hx;cases hx
theorem KI.none {H H1:za} {r b:Nat} {L t:TS} {dp:Nat} (h:KI H r L t dp H1) (hb:H1 b=.none):H b=.none:=by
 cases hx:H b with
 | none=>rfl
 | some x =>
  by_cases e:b=r
  ·subst e;obtain⟨p,_,h2⟩:=h.here;rw[hb] at h2;cases h2
  ·have:=h.keep b x e hx;rw[hb] at this;cases this
theorem KI.box {H H1:za} {r b:Nat} {L t:TS} {dp:Nat} {x:AObj} (h:KI H r L t dp H1) (hb:H b=.none):KI H r L t dp (H1.upd b x):=by
 obtain⟨p,hp,h2⟩:=h.here
 exact⟨fun c y hc hy=>by rw[upd_ne (fun e=>by subst e;rw[hb] at hy;cases hy)];exact h.keep c y hc hy,⟨p,hp,by rw[upd_ne (h.ne hb)];exact h2⟩,h.hr⟩
theorem KI.low {H H1:za} {r:Nat} {L t:TS} {dp:Nat} (h:KI H r L t dp H1):∃ H2,Low H2 H1∧Pat H r L t dp H2:=by
 obtain⟨p,hp,h1⟩:=h.here
 refine⟨_,Low.of_sub fun c x hc=>?_,p,hp,rfl⟩
 by_cases e:c=r
 ·subst e;rw[upd_same] at hc;rw[← hc];exact h1
 ·rw[upd_ne e] at hc;exact h.keep c x e hc
structure KO (H:za) (r:Nat) (L t:TS) (dp:Nat) (H1:za) (o:Own) (n sz:Nat):Prop extends KI H r L t dp H1 where
 own:yh H1 o n sz
 tip:∀ b d,o=.tip b d→H b=.none
theorem KO.call {H H1 H2:za} {r:Nat} {L t t':TS} {dp dp':Nat} {o:Own} {n sz:Nat} (h:KO H r L t dp H1 o n sz) (ha:Pat H1 r L t' dp' H2):KO H r L t' dp' H2 o n sz:=by
 obtain⟨p,hp,h1⟩:=h.here
 refine⟨h.toKI.call ha,?_,h.tip⟩
 obtain⟨q,hq,rfl⟩:=ha
 exact Zw h.own h1
theorem KO.box {H H1:za} {r b:Nat} {L t:TS} {dp:Nat} {o:Own} {n sz:Nat} {cs cs':List AV} (h:KO H r L t dp H1 o n sz) (hb:H b=.none) (h1:H1 b=some (.cells cs)):KO H r L t dp (H1.upd b (.cells cs')) o n sz :=
 ⟨h.toKI.box hb,Zw h.own h1,h.tip⟩
theorem KO.app {H H1 H2:za} {r:Nat} {L t:TS} {dp:Nat} {o o':Own} {n n' sz:Nat} (h:KO H r L t dp H1 o n sz) (hs:OwnS H1 o H2 o' n' sz):KO H r L t dp H2 o' n' sz:=by
 obtain⟨p,hp,h1⟩:=h.here
 refine⟨⟨fun c x hc hx=>hs.kept c x (h.keep c x hc hx) fun d e=>?_,⟨p,hp,Ze h.own h1 hs.kept⟩,h.hr⟩,hs.own,fun b d e=>?_⟩
 ·have:=h.tip c d e;rw[hx] at this;cases this
 ·rcases hs.new b d e with h2|⟨d0,e2⟩
  ·exact h.toKI.none h2
  ·exact h.tip b d0 e2
theorem KO.stay {H H1 H2:za} {r b:Nat} {L t:TS} {dp:Nat} {o o':Own} {n n' sz:Nat} {cs:List AV} (h:KO H r L t dp H1 o n sz) (hs:OwnS H1 o H2 o' n' sz) (hb:H1 b=some (.cells cs)):H2 b=some (.cells cs) :=
 Ze h.own hb hs.kept
theorem KI.done {α:Type} {H:za} {r:Nat} {L:TS} {dp:Nat} {x:PR α} {f:α→AV} {Q:AExit→Env→za→Prop} {res:List ARes}
  (hQ:∀ e ρ H1 H2 vs,(∀ i,e≠.exit i)→zP ρ H1 res=some vs→Low H2 H1→zel H r L dp x f (zc vs).strip H2→Q e ρ H1)
  (ρ1:Env) (H1:za) (vs:List AV) (a:α) (t':TS) (h1:zP ρ1 H1 res=some vs) (h2:x=.ok (a,t')) (h3:KI H r L t' dp H1) (h4:(zc vs).strip=f a):Q .ret ρ1 H1:=by
 obtain⟨H2,hl,ha⟩:=h3.low
 exact hQ .ret ρ1 H1 H2 vs nofun h1 hl ⟨a,t',h2,h4,ha⟩
theorem zbf:∀ L:TS,L.length≤wT L
 | []=>Al4 _
 | x::L=>by have:=zbf L;rw[y0];simp only[Al2,wK];omega
theorem zwW {p t L:TS} (h:p++t=L):(hdT t).s.length≤wT L:=by
 subst h
 cases t with
 | nil=>simp[hdT]
 | cons x t =>
  have:wT (p++x::t)=wT p+wT (x::t):=by simp[wT]
  rw[this,y0];simp only[hdT,List.headD_cons,wK];omega
theorem Pat.other {H H1:za} {r c:Nat} {L t:TS} {dp:Nat} (h:Pat H r L t dp H1) (hc:c≠r):H1 c=H c:=by
 obtain⟨p,_,rfl⟩:=h
 exact upd_ne hc
theorem zd7 (H:za) (r:Nat) (n:Int):zj Tryz.prog 160 [.ptr r 0,.int .i64 n] H (fun e H'=>match e with|.ret v=>False|.pan v=>v=Zj n):=by
 refine zj.goO (R:=fun _ _=>False) (RP:=fun v _=>v=Zj n) ir160 ck160 (Al4 _) fun KP Q hQ hP=>?_
 simp(disch:=first|omega|assumption) only[ir160,go_sem]
 exact hP _ _ H (Low.refl _) rfl
section
variable {H:za} {r:Nat} {L p t:TS} {dp:Nat}
theorem zr8 (hs:p++t=L) (hr:H r=some (prc L p dp)):zj Tryz.prog 92 [.ptr r 0] H (fun e H'=>∃ v,e=.ret v∧(v=.bool (decide (t≠[]))∧H'=H)):=by
 refine zj.go ir92 ck92 (Al4 _) fun KP Q hQ=>?_
 simp only[prc] at hr
 have hcl:=yM L
 have hlen:p.length+t.length=L.length:=by rw[← hs];simp
 simp(disch:=first|omega|assumption) only[ir92,hr,hcl,go_sem]
 cases t with
 | nil =>
  have h1:¬ ((p.length:Int)<(L.length:Int)):=by simp at hlen;omega
  simp(disch:=first|omega|assumption) only[h1,go_sem]
  exact hQ _ _ _ _ [_] nofun rfl (Low.refl _) ⟨(by simp[zc,zf,AV.strip,AV.strip1]),rfl⟩
 | cons c u =>
  have h1:((p.length:Int)<(L.length:Int))=True:=eq_true (by simp at hlen;omega)
  simp(disch:=first|omega|assumption) only[h1,go_sem]
  exact hQ _ _ _ _ [_] nofun rfl (Low.refl _) ⟨(by simp[zc,zf,AV.strip,AV.strip1]),rfl⟩
theorem zjq (hs:p++t=L) (hr:H r=some (prc L p dp)):zj Tryz.prog 174 [.ptr r 0] H (fun e H'=>∃ v,e=.ret v∧(v=Yw (hdT t)∧H'=H)):=by
 refine zj.go ir174 ck174 (Al4 _) fun KP Q hQ=>?_
 have hcl:=yM L
 have hlen:p.length+t.length=L.length:=by rw[← hs];simp
 simp(disch:=first|omega|assumption) only[ir174,go_sem]
 refine zm fun b hb=>?_
 have hbr:r≠b:=fun e=>by subst e;rw[hb] at hr;cases hr
 have hr2:(H.upd b (.cells [.int .i64 0,.str []])) r=some (prc L p dp):=by rw[upd_ne hbr];exact hr
 simp(disch:=first|omega|assumption) only[go_sem]
 refine zK (zr8 hs hr2) fun v H1 ⟨hv,hH⟩=>?_
 subst hv;subst hH
 have hlow:∀ x,Low H (H.upd b x):=fun x=>(Low.refl _).upd hb
 cases t with
 | nil =>
  simp(disch:=first|omega|assumption) only[go_sem]
  exact hQ _ _ _ H [.agg [.int .i64 0,.str []]] nofun (by simp(disch:=first|omega|assumption) only[ir174,zP,yR,go_sem]) (hlow _) ⟨rfl,rfl⟩
 | cons c u =>
  simp only[prc] at hr2
  have h1:((p.length:Int)<(L.length:Int))=True:=eq_true (by simp at hlen;omega)
  have hg:(cKs L).getD p.length []=[.int .i64 c.k,.str c.s]:=by rw[← hs];simp[cKs,cK]
  simp(disch:=first|omega|assumption) only[hr2,hcl,h1,hg,go_sem]
  exact hQ _ _ _ H [.agg [.int .i64 c.k,.str c.s]] nofun (by simp(disch:=first|omega|assumption) only[ir174,zP,yR,go_sem]) (hlow _) ⟨rfl,rfl⟩
theorem zpW (hs:p++t=L) (hr:H r=some (prc L p dp)) (m:List UInt8):zj Tryz.prog 161 [.ptr r 0,.str m] H (fun e H'=>∃ v,e=.ret v∧(v=.bool (isP m t)∧H'=H)):=by
 refine zj.go ir161 ck161 (Al4 _) fun KP Q hQ=>?_
 simp(disch:=first|omega|assumption) only[ir161,go_sem]
 refine zK (zjq hs hr) fun v H1 ⟨hv,hH⟩=>?_
 subst hv;subst hH
 simp(disch:=first|omega|assumption) only[Yw,yn,K1.fits,zco,AV.keq1,Bool.and_true,go_sem]
 exact hQ _ _ _ _ [_] nofun rfl (Low.refl _) ⟨by simp[zc,zf,AV.strip,AV.strip1,isP],rfl⟩
theorem ztq (hs:p++t=L) (hr:H r=some (prc L p dp)) (m:List UInt8):zj Tryz.prog 248 [.ptr r 0,.str m] H (fun e H'=>∃ v,e=.ret v∧(v=.bool (isW m t)∧H'=H)):=by
 refine zj.go ir248 ck248 (Al4 _) fun KP Q hQ=>?_
 simp(disch:=first|omega|assumption) only[ir248,go_sem]
 refine zK (zjq hs hr) fun v H1 ⟨hv,hH⟩=>?_
 subst hv;subst hH
 simp(disch:=first|omega|assumption) only[Yw,yn,K1.fits,zco,AV.keq1,Bool.and_true,go_sem]
 exact hQ _ _ _ _ [_] nofun rfl (Low.refl _) ⟨by simp[zc,zf,AV.strip,AV.strip1,isW],rfl⟩
theorem zpd (hs:p++t=L) (hk:(hdT t).k≠0):(p++[hdT t])++t.tail=L:=by
 rw[ZJ,List.singleton_append,← zam hk];exact hs
theorem zbD (hs:p++t=L) (hk:(hdT t).k≠0) (H:za):Pat H r L t.tail dp (H.upd r (.cells [.sl .no 2 (cKs L),.int .i64 ((p.length:Int)+1),.int .i64 (dp:Int)])) :=
 ⟨p++[hdT t],zpd hs hk,by simp[prc]⟩
def Y8 (m:List UInt8) (t:TS):TS:=if isP m t then t.tail else t
theorem zaJ (hs:p++t=L) (hl:L.length≤yS) (hr:H r=some (prc L p dp)) (m:List UInt8):zj Tryz.prog 191 [.ptr r 0,.str m] H (fun e H'=>∃ v,e=.ret v∧(v=.bool (isP m t)∧Pat H r L (Y8 m t) dp H')):=by
 refine zj.go ir191 ck191 (Al4 _) fun KP Q hQ=>?_
 simp only[yS] at hl
 have hlen:p.length+t.length=L.length:=by rw[← hs];simp
 simp(disch:=first|omega|assumption) only[ir191,go_sem]
 refine zK (zpW hs hr m) fun v H1 ⟨hv,hH⟩=>?_
 subst hv;subst hH
 have hr':=hr
 simp only[prc] at hr'
 cases hi:isP m t with
 | true =>
  simp(disch:=first|omega|assumption) only[hr',wrap64,go_sem]
  refine hQ _ _ _ _ [_] nofun rfl (Low.refl _) ⟨(by simp[zc,zf,AV.strip,AV.strip1,hi]),?_⟩
  simp only[Y8,hi,if_true]
  exact zbD hs (zh8 hi) _
 | false =>
  simp(disch:=first|omega|assumption) only[go_sem]
  refine hQ _ _ _ _ [_] nofun rfl (Low.refl _) ⟨(by simp[zc,zf,AV.strip,AV.strip1,hi]),?_⟩
  simp only[Y8,hi,Al7,if_false]
  exact Pat.self hs hr
theorem zjF (hs:p++t=L) (hl:L.length≤yS) (hr:H r=some (prc L p dp)) (m:List UInt8):zj Tryz.prog 163 [.ptr r 0,.str m] H (fun e H'=>∃ v,e=.ret v∧(v=.bool (isW m t)∧Pat H r L (YO m t) dp H')):=by
 refine zj.go ir163 ck163 (Al4 _) fun KP Q hQ=>?_
 simp only[yS] at hl
 have hlen:p.length+t.length=L.length:=by rw[← hs];simp
 simp(disch:=first|omega|assumption) only[ir163,go_sem]
 refine zK (ztq hs hr m) fun v H1 ⟨hv,hH⟩=>?_
 subst hv;subst hH
 have hr':=hr
 simp only[prc] at hr'
 cases hi:isW m t with
 | true =>
  simp(disch:=first|omega|assumption) only[hr',wrap64,go_sem]
  refine hQ _ _ _ _ [_] nofun rfl (Low.refl _) ⟨(by simp[zc,zf,AV.strip,AV.strip1,hi]),?_⟩
  simp only[YO,hi,if_true]
  exact zbD hs (zc4 hi) _
 | false =>
  simp(disch:=first|omega|assumption) only[go_sem]
  refine hQ _ _ _ _ [_] nofun rfl (Low.refl _) ⟨(by simp[zc,zf,AV.strip,AV.strip1,hi]),?_⟩
  simp only[YO,hi,Al7,if_false]
  exact Pat.self hs hr
theorem zhn (hs:p++t=L) (hl:L.length≤yS) (hr:H r=some (prc L p dp)) (m:List UInt8):zj Tryz.prog 182 [.ptr r 0,.str m] H (RpE H r L dp (ZY m t) fun _=>.tup []):=by
 refine zj.goO ir182 ck182 (Al4 _) fun KP Q hQ hP=>?_
 simp(disch:=first|omega|assumption) only[ir182,go_sem]
 refine zK (zaJ hs hl hr m) fun v H1 ⟨hv,hH⟩=>?_
 subst hv
 cases hi:isP m t with
 | true =>
  rw[Y8,hi] at hH
  simp(disch:=first|omega|assumption) only[go_sem]
  exact hQ _ _ _ _ [] nofun rfl (Low.refl _) ⟨(),t.tail,by unfold ZY;rw[hi];rfl,rfl,hH⟩
 | false =>
  simp(disch:=first|omega|assumption) only[go_sem]
  exact zp (zd7 H1 r 2) (fun _ _ h=>h.elim) fun v H2 h=>hP v H2 H2 (Low.refl _) ⟨2,by unfold ZY;rw[hi];rfl,h⟩
theorem zaC (hs:p++t=L) (hl:L.length≤yS) (hr:H r=some (prc L p dp)):zj Tryz.prog 183 [.ptr r 0] H (RpE H r L dp (yT t) AV.str):=by
 refine zj.goO ir183 ck183 (Al4 _) fun KP Q hQ hP=>?_
 simp only[yS] at hl
 have hlen:p.length+t.length=L.length:=by rw[← hs];simp
 simp(disch:=first|omega|assumption) only[ir183,go_sem]
 refine zK (zjq hs hr) fun v H1 ⟨hv,hH⟩=>?_
 subst hv;subst hH
 simp(disch:=first|omega|assumption) only[go_sem]
 refine zm fun b hb=>?_
 have hbr:r≠b:=fun e=>by subst e;rw[hb] at hr;cases hr
 have hr':=hr
 simp only[prc] at hr'
 by_cases hk:(hdT t).k=2
 ·have hk':((hdT t).k=2)=True:=eq_true hk
  simp(disch:=first|omega|assumption) only[Yw,hk',hr',hbr,Ne.symm hbr,wrap64,go_sem]
  refine hQ _ _ _ (H1.upd r (.cells [.sl .no 2 (cKs L),.int .i64 ((p.length:Int)+1),.int .i64 (dp:Int)])) [_] nofun rfl ?_ ⟨(hdT t).s,t.tail,by unfold yT;rw[if_pos hk],(by simp[zc,zf,AV.strip,AV.strip1]),zbD hs (by rw[hk];decide) _⟩
  refine Low.of_sub fun c x hc=>?_
  by_cases e:c=r
  ·subst e;rw[upd_same] at hc ⊢;exact hc
  ·rw[upd_ne e] at hc ⊢
   rw[upd_ne (fun e2=>by subst e2;rw[hb] at hc;cases hc)];exact hc
 ·simp(disch:=first|omega|assumption) only[Yw,hk,go_sem]
  exact zp (zd7 _ r 2) (fun _ _ h=>h.elim) fun v H2 h=>hP v H2 H2 (Low.refl _) ⟨2,by unfold yT;rw[if_neg hk],h⟩
theorem zkk (hs:p++t=L) (hl:L.length≤yS) (hd:dp≤16) (hr:H r=some (prc L p dp)) (m:List UInt8):zj Tryz.prog 179 [.ptr r 0,.str m] H
  (fun e H'=>match e with
   | .ret v=>v=.bool (isP m t)∧(isP m t=true→dp<16∧Pat H r L t.tail (dp+1) H')∧(isP m t=false→Pat H r L t dp H')
   | .pan v=>isP m t=true∧dp=16∧v=Zj 4):=by
 refine zj.goO (R:=fun v H'=>v=.bool (isP m t)∧(isP m t=true→dp<16∧Pat H r L t.tail (dp+1) H')∧(isP m t=false→Pat H r L t dp H')) (RP:=fun v _=>isP m t=true∧dp=16∧v=Zj 4) ir179 ck179 (Al4 _) fun KP Q hQ hP=>?_
 have hlen:p.length+t.length=L.length:=by rw[← hs];simp
 simp(disch:=first|omega|assumption) only[ir179,go_sem]
 refine zK (zpW hs hr m) fun v H1 ⟨hv,hH⟩=>?_
 subst hv;subst hH
 have hr':=hr
 simp only[prc] at hr'
 cases hi:isP m t with
 | true =>
  by_cases h16:(16:Int)≤(dp:Int)
  ·simp(disch:=first|omega|assumption) only[hr',h16,go_sem]
   exact zp (zd7 _ r 4) (fun _ _ h=>h.elim) fun v H2 h=>hP v H2 H2 (Low.refl _) ⟨hi,by omega,h⟩
  ·simp(disch:=first|omega|assumption) only[hr',h16,go_sem]
   refine zK (zaJ hs hl hr m) fun v H2 ⟨hv,hH⟩=>?_
   subst hv
   rw[Y8,hi] at hH
   obtain⟨q,hq,h2⟩:=hH.at
   simp only[prc] at h2
   rw[hi]
   simp(disch:=first|omega|assumption) only[h2,wrap64,go_sem]
   exact hQ _ _ _ _ [_] nofun rfl (Low.refl _) ⟨(by simp[zc,zf,AV.strip,AV.strip1,hi]),fun _=>⟨by omega,hH.again ⟨q,hq,by simp[prc]⟩⟩,fun h=>(by rw[hi] at h;cases h)⟩
 | false =>
  simp(disch:=first|omega|assumption) only[go_sem]
  refine zK (zaJ hs hl hr m) fun v H2 ⟨hv,hH⟩=>?_
  subst hv
  rw[Y8,hi] at hH
  rw[hi]
  simp(disch:=first|omega|assumption) only[go_sem]
  exact hQ _ _ _ _ [_] nofun rfl (Low.refl _) ⟨(by simp[zc,zf,AV.strip,AV.strip1,hi]),fun h=>(by rw[hi] at h;cases h),fun _=>by simpa using hH⟩
theorem zko (hs:p++t=L) (hl:L.length≤yS) (hd:1≤dp∧dp≤16) (hr:H r=some (prc L p dp)) (m:List UInt8):zj Tryz.prog 180 [.ptr r 0,.str m] H
  (fun e H'=>∃ v,e=.ret v∧(v=.bool (isP m t)∧(isP m t=true→Pat H r L t.tail (dp-1) H')∧(isP m t=false→Pat H r L t dp H'))):=by
 refine zj.go ir180 ck180 (Al4 _) fun KP Q hQ=>?_
 simp(disch:=first|omega|assumption) only[ir180,go_sem]
 refine zK (zaJ hs hl hr m) fun v H2 ⟨hv,hH⟩=>?_
 subst hv
 cases hi:isP m t with
 | true =>
  rw[Y8,hi] at hH
  obtain⟨q,hq,h2⟩:=hH.at
  simp only[prc] at h2
  simp(disch:=first|omega|assumption) only[h2,wrap64,go_sem]
  refine hQ _ _ _ _ [_] nofun rfl (Low.refl _) ⟨(by simp[zc,zf,AV.strip,AV.strip1,hi]),fun _=>hH.again ⟨q,hq,?_⟩,fun h=>(by rw[hi] at h;cases h)⟩
  have e:((dp-1:Nat):Int)=(dp:Int)-1:=by omega
  simp only[prc,e]
 | false =>
  rw[Y8,hi] at hH
  simp(disch:=first|omega|assumption) only[go_sem]
  exact hQ _ _ _ _ [_] nofun rfl (Low.refl _) ⟨(by simp[zc,zf,AV.strip,AV.strip1,hi]),fun h=>(by rw[hi] at h;cases h),fun _=>by simpa using hH⟩
end
end Go.Proofs.YticbbfbpeimkbaaGreatDoor
