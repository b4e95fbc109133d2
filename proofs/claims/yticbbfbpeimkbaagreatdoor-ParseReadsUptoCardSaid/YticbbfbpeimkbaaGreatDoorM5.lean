import Derived.JoinedOf
import Derived.Lib.ItoaMem
import Derived.Lib.ParseIntBTie
import Derived.Lib.ItoaLen
import Derived.Test.YticbbfbpeimkbaaGreatDoorM1
import Derived.Test.YticbbfbpeimkbaaGreatDoorM2
import Derived.Test.YticbbfbpeimkbaaGreatDoorM3
import Derived.Test.YticbbfbpeimkbaaGreatDoorM4
set_option maxRecDepth 100000
set_option linter.all false
namespace Go.Proofs.YticbbfbpeimkbaaGreatDoor
open Go.Ab
def zV:Val:=.mk 0 0 [] [] []
theorem zs5 (n:Int):zr Tryz.prog 177 [.int .i64 n] (.agg (cV (.mk 2 n [] [] []))):=by
 refine zr.go ir177 ck177 (Al4 _) fun KP Q hQ=>?_
 simp(disch:=first|omega|assumption) only[ir177,go_sem]
 refine zh fun b hb=>?_
 simp(disch:=first|omega|assumption) only[go_sem]
 exact hQ _ _ _ [.agg [.int .i64 2,.int .i64 n,.str [],.sl .nil 5 [],.sl .nil 6 []]] nofun (by simp(disch:=first|omega|assumption) only[ir177,zo,zL,go_sem]) rfl
theorem zt1 (n:Int):zr Tryz.prog 185 [.int .i64 n] (.agg (cV (.mk 2 n [] [] []))):=by
 refine zr.go ir185 ck185 (Al4 _) fun KP Q hQ=>?_
 simp(disch:=first|omega|assumption) only[ir185,go_sem]
 refine zh fun b hb=>?_
 simp(disch:=first|omega|assumption) only[go_sem]
 exact hQ _ _ _ [.agg [.int .i64 2,.int .i64 n,.str [],.sl .nil 5 [],.sl .nil 6 []]] nofun (by simp(disch:=first|omega|assumption) only[ir185,zo,zL,go_sem]) rfl
theorem ztH (t:List UInt8):zr Tryz.prog 178 [.str t] (.agg (cV (.mk 4 0 t [] []))):=by
 refine zr.go ir178 ck178 (Al4 _) fun KP Q hQ=>?_
 simp(disch:=first|omega|assumption) only[ir178,go_sem]
 refine zh fun b hb=>?_
 simp(disch:=first|omega|assumption) only[go_sem]
 exact hQ _ _ _ [.agg [.int .i64 4,.int .i64 0,.str t,.sl .nil 5 [],.sl .nil 6 []]] nofun (by simp(disch:=first|omega|assumption) only[ir178,zo,zL,go_sem]) rfl
theorem ztl (t:List UInt8):zr Tryz.prog 186 [.str t] (.agg (cV (.mk 4 0 t [] []))):=by
 refine zr.go ir186 ck186 (Al4 _) fun KP Q hQ=>?_
 simp(disch:=first|omega|assumption) only[ir186,go_sem]
 refine zh fun b hb=>?_
 simp(disch:=first|omega|assumption) only[go_sem]
 exact hQ _ _ _ [.agg [.int .i64 4,.int .i64 0,.str t,.sl .nil 5 [],.sl .nil 6 []]] nofun (by simp(disch:=first|omega|assumption) only[ir186,zo,zL,go_sem]) rfl
structure Tok where
 k:Int
 s:List UInt8
def cK (t:Tok):List AV:=[.int .i64 t.k,.str t.s]
def cKs (l:List Tok):List (List AV):=l.map cK
theorem zcQ (l:List Tok):(cKs l).length=l.length:=by simp[cKs]
theorem zhB (l:List Tok):(cKs l).map (·.map AV.strip1)=cKs l:=by simp[cKs,cK,AV.strip1]
theorem zjS (a b:List Mem) (ha:a.length≤Lim) (hc:∀ s v,Mem.mk s v∈a→∀ u,zr Tryz.prog 46 [.agg (cV v),.agg (cV u)] (.bool (eqd v u))) :
  zr Tryz.prog 102 [.sl .no 6 (cMs a),.sl .no 6 (cMs b)] (.bool (eqd a b)):=by
 refine zr.go ir102 ck102 (Al4 _) fun KP Q hQ=>?_
 have h1:=zcS a
 have h2:=zcS b
 simp only[Lim] at ha
 by_cases hl:a.length=b.length
 case neg =>
  have hl':¬ ((a.length:Int)=b.length):=by omega
  have hne:a≠b:=fun e=>hl (by rw[e])
  simp(disch:=first|omega|assumption) only[ir102,h1,h2,hl',go_sem]
  exact hQ _ _ _ _ nofun rfl (by simp[zb,ze,AV.strip,AV.strip1,zp hne])
 have hl':((a.length:Int)=b.length)=True:=eq_true (by omega)
 simp(disch:=first|omega|assumption) only[ir102,h1,h2,hl',go_sem]
 refine Zf a 5 (fun _:Unit=>[]) (fun done rest n H=>b.take done.length=done) () (by simp(disch:=first|omega|assumption) only[go_sem]) rfl ?_ ?_
 ·rintro n H J hp hlt
  simp(disch:=first|omega|assumption) only[h1,hlt,go_sem]
  exact hQ _ _ _ _ nofun rfl (by simp[zb,ze,AV.strip,AV.strip1,yw (zb0 hl hp)])
 ·rintro done x rest n H J hd hlt _ hp hJ
  obtain⟨y,r,hb⟩:=zb1 hd hl hp
  have g1:=zll hd
  have g2:=zll hb
  have hlt2:(done.length:Int)<b.length:=by omega
  have hmem:x∈a:=by rw[hd];simp
  have hst:=zaF hb
  have hne:x≠y→a≠b:=zdS hd hb
  obtain⟨s,v⟩:=x
  obtain⟨t,u⟩:=y
  by_cases hs:s=t
  case neg =>
   have hne2:=hne (by simp[hs])
   simp(disch:=first|omega|assumption) only[zH,zt,zl,zG,zu,zm,ya,h1,h2,hlt,hlt2,g1,g2,hs,go_sem]
   exact hQ _ _ _ _ nofun rfl (by simp[zb,ze,AV.strip,AV.strip1,zp hne2])
  simp(disch:=first|omega|assumption) only[zH,zt,zl,zG,zu,zm,ya,h1,h2,hlt,hlt2,g1,g2,hs,go_sem]
  refine zd (hc s v hmem u) ?_
  by_cases hv:v=u
  ·simp(disch:=first|omega|assumption) only[yw hv,go_sem]
   exact goJ (hJ () _ (by rw[hs,hv];exact hst)) (by simp(disch:=first|omega|assumption) only[wrap64,go_sem])
  ·have:=hne (by simp[hv])
   simp(disch:=first|omega|assumption) only[zp hv,go_sem]
   exact hQ _ _ _ _ nofun rfl (by simp[zb,ze,AV.strip,AV.strip1,zp this])
theorem zqR:∀ v,bV v≤Lim→∀ u,zr Tryz.prog 46 [.agg (cV v),.agg (cV u)] (.bool (eqd v u)):=by
 refine Val.ind fun k n s l m ihl ihm hb u=>?_
 obtain⟨k',n',s',l',m'⟩:=u
 have hb':1+s.length+bVs l+bMs m≤Lim:=hb
 have hll:=zlZ l
 have hml:=zjd m
 have il:∀ x∈l,∀ y,zr Tryz.prog 46 [.agg (cV x),.agg (cV y)] (.bool (eqd x y)):=fun x hx y=>by
  obtain⟨a,b,hd⟩:=List.append_of_mem hx
  have:=zqB a x b
  rw[← hd] at this
  exact ihl x hx (by omega) y
 have im:∀ s v,Mem.mk s v∈m→∀ u,zr Tryz.prog 46 [.agg (cV v),.agg (cV u)] (.bool (eqd v u)):=fun t v hx u=>by
  obtain⟨a,b,hd⟩:=List.append_of_mem hx
  have:=zl2 a (.mk t v) b
  rw[← hd] at this
  simp only[bM] at this
  exact ihm t v hx (by omega) u
 refine zr.go ir46 ck46 (Al4 _) fun KP Q hQ=>?_
 have hlb:=zfS l
 have hlb':=zfS l'
 by_cases h1:k=k'
 case neg =>
  have hne:¬ (Val.mk k n s l m=Val.mk k' n' s' l' m'):=by simp[h1]
  simp(disch:=first|omega|assumption) only[ir46,zhJ,h1,go_sem]
  exact hQ _ _ _ _ nofun rfl (by simp[zb,ze,AV.strip,AV.strip1,zp hne])
 by_cases h2:n=n'
 case neg =>
  have hne:¬ (Val.mk k n s l m=Val.mk k' n' s' l' m'):=by simp[h2]
  simp(disch:=first|omega|assumption) only[ir46,zhJ,h1,h2,go_sem]
  exact hQ _ _ _ _ nofun rfl (by simp[zb,ze,AV.strip,AV.strip1,zp hne])
 by_cases h3:s=s'
 case neg =>
  have hne:¬ (Val.mk k n s l m=Val.mk k' n' s' l' m'):=by simp[h3]
  simp(disch:=first|omega|assumption) only[ir46,zhJ,h1,h2,h3,go_sem]
  exact hQ _ _ _ _ nofun rfl (by simp[zb,ze,AV.strip,AV.strip1,zp hne])
 by_cases hl:l.length=l'.length
 case neg =>
  have hl':¬ ((l.length:Int)=l'.length):=by omega
  have hne:¬ (Val.mk k n s l m=Val.mk k' n' s' l' m'):=by simp only[Val.mk.injEq];rintro⟨_,_,_,e,_⟩;exact hl (by rw[e])
  simp(disch:=first|omega|assumption) only[ir46,zhJ,h1,h2,h3,hlb,hlb',hl',go_sem]
  exact hQ _ _ _ _ nofun rfl (by simp[zb,ze,AV.strip,AV.strip1,zp hne])
 have hl':((l.length:Int)=l'.length)=True:=eq_true (by omega)
 simp(disch:=first|omega|assumption) only[ir46,zhJ,h1,h2,h3,hlb,hlb',hl',go_sem]
 simp only[Lim] at hb'
 refine Zf l 5 (fun _:Unit=>[]) (fun done rest n H=>l'.take done.length=done) () (by simp(disch:=first|omega|assumption) only[go_sem]) rfl ?_ ?_
 ·rintro _ H J hp hlt
  have e4:=zb0 hl hp
  simp(disch:=first|omega|assumption) only[hlb,hlt,go_sem]
  refine zd (zjS m m' (by simp only[Lim];omega) im) ?_
  simp(disch:=first|omega|assumption) only[go_sem]
  have:eqd (Val.mk k n s l m) (Val.mk k' n' s' l' m')=eqd m m':=by
   by_cases h:m=m'
   ·rw[yw h,yw (by rw[h1,h2,h3,e4,h])]
   ·rw[zp h,zp (by simp[h])]
  exact hQ _ _ _ _ nofun rfl (by simp[zb,ze,AV.strip,AV.strip1,this])
 ·rintro done x rest _ H J hd hlt _ hp hJ
  obtain⟨y,r,hb⟩:=zb1 hd hl hp
  have g1:=zlT hd
  have g2:=zlT hb
  have hlt2:(done.length:Int)<l'.length:=by omega
  simp(disch:=first|omega|assumption) only[zH,zt,zl,zG,zu,zm,ya,hlb,hlb',hlt,hlt2,g1,g2,go_sem]
  refine zd (il x (by rw[hd];simp) y) ?_
  by_cases hxy:x=y
  ·simp(disch:=first|omega|assumption) only[yw hxy,go_sem]
   exact goJ (hJ () _ (by rw[hxy];exact zaF hb)) (by simp(disch:=first|omega|assumption) only[wrap64,go_sem])
  ·have hne:¬ (Val.mk k n s l m=Val.mk k' n' s' l' m'):=by simp only[Val.mk.injEq];rintro⟨_,_,_,e,_⟩;exact zdS hd hb hxy e
   simp(disch:=first|omega|assumption) only[zp hxy,go_sem]
   exact hQ _ _ _ _ nofun rfl (by simp[zb,ze,AV.strip,AV.strip1,zp hne])
abbrev ztb (H:za) (o:Own) (sz:Nat) (xs:List (List AV)):AV→za→Prop:=fun v H'=>∃ o',v=.sl o' sz xs∧OwnS H o H' o' xs.length sz
abbrev zoF (P:Program) (f:FuncId) (args:List AV) (H:za) (o:Own) (sz:Nat) (xs:List (List AV)):Prop :=
 zf P f args H (fun e H'=>match e with|.ret v=>ztb H o sz xs v H'|.pan _=>False)
theorem zcW {P:Program} {KP:AV→za→Prop} {Q:AExit→Env→za→Prop} {st:List Fr} {ρ:Env} {H:za} {all l:List AItem} {d:Option Nat} {R:List Chk} {f:FuncId} {args:List AV} {o:Own} {sz:Nat} {xs:List (List AV)}
  (h:zoF P f args H o sz xs) (hk:∀ o' H',OwnS H o H' o' xs.length sz→goR P KP Q all l st R (ρ.set d (.sl o' sz xs)) H'):goK P KP Q all l st d R ρ f args H :=
 zk (XP:=fun _ _=>False) h (fun v H' ⟨o',e,hs⟩=>by subst e;exact hk o' H' hs) (fun _ _ h=>h.elim)
def isD (c:UInt8):Bool:=decide (48≤c.toNat)&&decide (c.toNat≤57)
def isL (c:UInt8):Bool:=(decide (97≤c.toNat)&&decide (c.toNat≤122))||((decide (65≤c.toNat)&&decide (c.toNat≤90))||decide (c.toNat=95))
theorem zkC (c:UInt8):zr Tryz.prog 226 [.int .u8 (c.toNat:Int)] (.bool (isD c)):=by
 refine zr.go ir226 ck226 (Al4 _) fun KP Q hQ=>?_
 by_cases h:(48:Int)≤c.toNat
 ·simp(disch:=first|omega|assumption) only[ir226,h,go_sem]
  have h':48≤c.toNat:=by omega
  have e:decide ((c.toNat:Int)≤57)=decide (c.toNat≤57):=by rw[decide_eq_decide];omega
  exact hQ _ _ _ _ nofun rfl (by simp[zb,ze,AV.strip,AV.strip1,isD,h',e])
 ·simp(disch:=first|omega|assumption) only[ir226,h,go_sem]
  have h':¬ 48≤c.toNat:=by omega
  exact hQ _ _ _ _ nofun rfl (by simp[zb,ze,AV.strip,AV.strip1,isD,h'])
theorem zga (c:UInt8):zr Tryz.prog 148 [.int .u8 (c.toNat:Int)] (.bool (isD c)):=by
 refine zr.go ir148 ck148 (Al4 _) fun KP Q hQ=>?_
 by_cases h:(48:Int)≤c.toNat
 ·simp(disch:=first|omega|assumption) only[ir148,h,go_sem]
  have h':48≤c.toNat:=by omega
  have e:decide ((c.toNat:Int)≤57)=decide (c.toNat≤57):=by rw[decide_eq_decide];omega
  exact hQ _ _ _ _ nofun rfl (by simp[zb,ze,AV.strip,AV.strip1,isD,h',e])
 ·simp(disch:=first|omega|assumption) only[ir148,h,go_sem]
  have h':¬ 48≤c.toNat:=by omega
  exact hQ _ _ _ _ nofun rfl (by simp[zb,ze,AV.strip,AV.strip1,isD,h'])
theorem zi8 (c:UInt8):zr Tryz.prog 223 [.int .u8 (c.toNat:Int)] (.bool (isL c)):=by
 refine zr.go ir223 ck223 (Al4 _) fun KP Q hQ=>?_
 have e:decide ((c.toNat:Int)=95)=decide (c.toNat=95):=by rw[decide_eq_decide];omega
 by_cases h:(97:Int)≤c.toNat
 ·have h':97≤c.toNat:=by omega
  by_cases h2:(c.toNat:Int)≤122
  ·have h2':c.toNat≤122:=by omega
   simp(disch:=first|omega|assumption) only[ir223,h,h2,go_sem]
   exact hQ _ _ _ _ nofun rfl (by simp[zb,ze,AV.strip,AV.strip1,isL,h',h2'])
  ·have h2':¬ c.toNat≤122:=by omega
   have h3:(65:Int)≤c.toNat:=by omega
   have h4:¬ (c.toNat:Int)≤90:=by omega
   have h4':¬ c.toNat≤90:=by omega
   simp(disch:=first|omega|assumption) only[ir223,h,h2,h3,h4,go_sem]
   exact hQ _ _ _ _ nofun rfl (by simp[zb,ze,AV.strip,AV.strip1,isL,h',h2',h4',e])
 ·have h':¬ 97≤c.toNat:=by omega
  by_cases h3:(65:Int)≤c.toNat
  ·have h3':65≤c.toNat:=by omega
   by_cases h4:(c.toNat:Int)≤90
   ·have h4':c.toNat≤90:=by omega
    simp(disch:=first|omega|assumption) only[ir223,h,h3,h4,go_sem]
    exact hQ _ _ _ _ nofun rfl (by simp[zb,ze,AV.strip,AV.strip1,isL,h',h3',h4'])
   ·have h4':¬ c.toNat≤90:=by omega
    simp(disch:=first|omega|assumption) only[ir223,h,h3,h4,go_sem]
    exact hQ _ _ _ _ nofun rfl (by simp[zb,ze,AV.strip,AV.strip1,isL,h',h3',h4',e])
  ·have h3':¬ 65≤c.toNat:=by omega
   simp(disch:=first|omega|assumption) only[ir223,h,h3,go_sem]
   exact hQ _ _ _ _ nofun rfl (by simp[zb,ze,AV.strip,AV.strip1,isL,h',h3',e])
theorem ziA (c:UInt8):zr Tryz.prog 147 [.int .u8 (c.toNat:Int)] (.bool (isL c)):=by
 refine zr.go ir147 ck147 (Al4 _) fun KP Q hQ=>?_
 have e:decide ((c.toNat:Int)=95)=decide (c.toNat=95):=by rw[decide_eq_decide];omega
 by_cases h:(97:Int)≤c.toNat
 ·have h':97≤c.toNat:=by omega
  by_cases h2:(c.toNat:Int)≤122
  ·have h2':c.toNat≤122:=by omega
   simp(disch:=first|omega|assumption) only[ir147,h,h2,go_sem]
   exact hQ _ _ _ _ nofun rfl (by simp[zb,ze,AV.strip,AV.strip1,isL,h',h2'])
  ·have h2':¬ c.toNat≤122:=by omega
   have h3:(65:Int)≤c.toNat:=by omega
   have h4:¬ (c.toNat:Int)≤90:=by omega
   have h4':¬ c.toNat≤90:=by omega
   simp(disch:=first|omega|assumption) only[ir147,h,h2,h3,h4,go_sem]
   exact hQ _ _ _ _ nofun rfl (by simp[zb,ze,AV.strip,AV.strip1,isL,h',h2',h4',e])
 ·have h':¬ 97≤c.toNat:=by omega
  by_cases h3:(65:Int)≤c.toNat
  ·have h3':65≤c.toNat:=by omega
   by_cases h4:(c.toNat:Int)≤90
   ·have h4':c.toNat≤90:=by omega
    simp(disch:=first|omega|assumption) only[ir147,h,h3,h4,go_sem]
    exact hQ _ _ _ _ nofun rfl (by simp[zb,ze,AV.strip,AV.strip1,isL,h',h3',h4'])
   ·have h4':¬ c.toNat≤90:=by omega
    simp(disch:=first|omega|assumption) only[ir147,h,h3,h4,go_sem]
    exact hQ _ _ _ _ nofun rfl (by simp[zb,ze,AV.strip,AV.strip1,isL,h',h3',h4',e])
  ·have h3':¬ 65≤c.toNat:=by omega
   simp(disch:=first|omega|assumption) only[ir147,h,h3,go_sem]
   exact hQ _ _ _ _ nofun rfl (by simp[zb,ze,AV.strip,AV.strip1,isL,h',h3',e])
def zjB:List UInt8→Nat→Bool
 | [],_=>true
 | c::r,i=>if isL c||(decide (i≠0)&&isD c) then zjB r (i+1) else false
def zf5 (s:List UInt8):Bool:=zjB s 0&&decide (s≠[])
theorem zpi {s a:List UInt8} {x:UInt8} {b:List UInt8} (h:s=a++x::b):s.getD a.length 0=x:=by subst h;simp
def zR:List UInt8→Nat
 | []=>0
 | c::r=>if isD c then zR r+1 else 0
theorem ZI:∀ l,zR l≤l.length
 | []=>Al4 _
 | c::r=>by have:=ZI r;simp only[zR,Al2];split<;>omega
theorem yJ (s:List UInt8) (k:Nat):(s.drop k=[]∧s.length≤k)∨(k<s.length∧s.drop k=s.getD k 0::s.drop (k+1)):=by
 rcases Nat.lt_or_ge k s.length with h|h
 ·right
  refine⟨h,?_⟩
  rw[List.drop_eq_getElem_cons h]
  simp[h]
 ·left;exact⟨List.drop_of_length_le h,h⟩
theorem Yu (s:List UInt8) (hs:s.length≤Lim):zr Tryz.prog 285 [.str s] (.int .i64 (zR s)):=by
 refine zr.go ir285 ck285 (Al4 _) fun KP Q hQ=>?_
 simp only[Lim] at hs
 have hr1:=ZI s
 simp(disch:=first|omega|assumption) only[ir285,go_sem]
 refine zI (fun n:Nat=>[(3,.int .i64 n)]) (fun n H=>zR s=n+zR (s.drop n)∧n≤s.length) (fun n=>s.length-n) 0 (by simp(disch:=first|omega|assumption) only[go_sem]) ⟨by simp,by omega⟩ ?_
 rintro n H J ⟨hn,hle⟩ hJ
 rcases yJ s n with ⟨h1,h2⟩|⟨h1,h2⟩
 ·have hlt:¬ ((n:Int)<s.length):=by omega
  rw[h1] at hn
  simp only[zR,Nat.add_zero] at hn
  simp(disch:=first|omega|assumption) only[hlt,go_sem]
  exact hQ _ _ _ _ nofun rfl (by simp[zb,ze,AV.strip,AV.strip1,hn])
 ·have hlt:((n:Int)<s.length):=by omega
  rw[h2] at hn
  simp only[zR] at hn
  simp(disch:=first|omega|assumption) only[hlt,go_sem]
  refine zd (zkC (s.getD n 0)) ?_
  cases hd:isD (s.getD n 0) with
  | true =>
   simp only[hd,if_true] at hn
   simp(disch:=first|omega|assumption) only[hd,go_sem]
   exact goJ (hJ (n+1) _ (by omega) ⟨by omega,by omega⟩) (by simp(disch:=first|omega|assumption) only[wrap64,Int.natCast_add,Int.natCast_one,go_sem])
  | false =>
   simp only[hd,Al7,if_false,Nat.add_zero] at hn
   simp(disch:=first|omega|assumption) only[hd,go_sem]
   exact hQ _ _ _ _ nofun rfl (by simp[zb,ze,AV.strip,AV.strip1,hn])
theorem zoS (s:List UInt8) (i:Int) (h0:0≤i) (h1:i≤s.length) (hs:s.length≤Lim):zr Tryz.prog 305 [.str s,.int .i64 i] (.int .i64 (zR (s.drop i.toNat))):=by
 obtain⟨k,rfl⟩:∃ k:Nat,i=k:=⟨i.toNat,by omega⟩
 refine zr.go ir305 ck305 (Al4 _) fun KP Q hQ=>?_
 simp only[Lim] at hs
 have hr1:=ZI (s.drop k)
 rw[yH] at hr1
 simp(disch:=first|omega|assumption) only[ir305,go_sem]
 refine zI (fun n:Nat=>[(5,.int .i64 n)]) (fun n H=>zR (s.drop k)=n+zR (s.drop (k+n))∧k+n≤s.length) (fun n=>s.length-n) 0 (by simp(disch:=first|omega|assumption) only[go_sem]) ⟨by simp,by omega⟩ ?_
 rintro n H J ⟨hn,hle⟩ hJ
 have hto:((k:Int)+n).toNat=k+n:=by omega
 have hnn:(0:Int)≤(k:Int)+n:=by omega
 rcases yJ s (k+n) with ⟨h1,h2⟩|⟨h1,h2⟩
 ·have hlt:¬ ((k:Int)+n<s.length):=by omega
  rw[h1] at hn
  simp only[zR,Nat.add_zero] at hn
  simp(disch:=first|omega|assumption) only[hlt,wrap64,go_sem]
  exact hQ _ _ _ _ nofun rfl (by simp[zb,ze,AV.strip,AV.strip1,hn])
 ·have hlt:((k:Int)+n<s.length):=by omega
  rw[h2] at hn
  simp only[zR] at hn
  simp(disch:=first|omega|assumption) only[hlt,wrap64,hto,hnn,go_sem]
  refine zd (zga (s.getD (k+n) 0)) ?_
  cases hd:isD (s.getD (k+n) 0) with
  | true =>
   simp only[hd,if_true] at hn
   simp(disch:=first|omega|assumption) only[hd,go_sem]
   exact goJ (hJ (n+1) _ (by omega) ⟨by rw[← Nat.add_assoc];omega,by omega⟩) (by simp(disch:=first|omega|assumption) only[wrap64,Int.natCast_add,Int.natCast_one,go_sem])
  | false =>
   simp only[hd,Al7,if_false,Nat.add_zero] at hn
   simp(disch:=first|omega|assumption) only[hd,go_sem]
   exact hQ _ _ _ _ nofun rfl (by simp[zb,ze,AV.strip,AV.strip1,hn])
theorem zmj (c:UInt8) (s:List UInt8):[c].isPrefixOf s=decide (s.head?=some c):=by
 cases s with
 | nil=>rfl
 | cons d r =>
  by_cases h:d=c
  ·subst h;simp[List.isPrefixOf]
  ·have h':¬ c=d:=fun e=>h e.symm
   simp[List.isPrefixOf,h,h']
def Zt (s:List UInt8):Nat:=if zR s=0 then 0 else if s.getD 0 0=48 then 1 else zR s
def zF (s:List UInt8):Nat:=if s.head?=some 45 then (if zR s.tail=0 then 0 else 1+Zt s.tail) else Zt s
theorem zlA (s:List UInt8):Zt s≤s.length:=by have:=ZI s;unfold Zt;split<;>(try split)<;>omega
theorem znN {s:List UInt8} (h:zR s≠0):0<Zt s:=by unfold Zt;simp only[h,if_false];split<;>omega
theorem zcY (s:List UInt8):zF s≤s.length:=by
 have h1:=zlA s
 have h2:=zlA s.tail
 unfold zF
 split
 ·rename_i h
  cases s with
  | nil=>simp at h
  | cons c r =>
   simp only[List.tail_cons,Al2] at h2 ⊢
   by_cases h0:zR r=0<;>simp only[h0,if_true,if_false]<;>omega
 ·exact h1
theorem ztj {a b:UInt8}:((a.toNat:Int)=(b.toNat:Int))=(a=b):=by
 apply propext
 rw[Int.natCast_inj]
 exact UInt8.toNat_inj
theorem zgM (a:UInt8) (n:Nat) (hn:n<256):decide ((a.toNat:Int)=n)=decide (a=UInt8.ofNat n):=by
 rw[decide_eq_decide]
 have:(UInt8.ofNat n).toNat=n:=by simp[UInt8.toNat_ofNat'];omega
 constructor
 ·intro h;apply UInt8.toNat_inj.1;rw[this];omega
 ·intro h;subst h;rw[this]
theorem zsv (s:List UInt8) (hs:s.length≤Lim):zr Tryz.prog 284 [.str s] (.int .i64 (zF s)):=by
 refine zr.go ir284 ck284 (Al4 _) fun KP Q hQ=>?_
 simp only[Lim] at hs
 simp(disch:=first|omega|assumption) only[ir284,go_sem]
 refine zd (zaX s [45]) ?_
 rw[zmj]
 by_cases h:s.head?=some 45
 ·cases s with
  | nil=>simp at h
  | cons c r =>
   have hc:c=45:=by simpa using h
   subst hc
   simp only[Al2] at hs
   have h1:(1:Int)≤((r.length+1:Nat):Int):=by omega
   have h2:(1:Int)<((r.length+1:Nat):Int)∨r=[]:=by cases r<;>simp;omega
   simp(disch:=first|omega|assumption) only[h,h1,Int.toNat_one,go_sem]
   refine zd (Yu r (by simp only[Lim];omega)) ?_
   by_cases h0:zR r=0
   ·simp(disch:=first|omega|assumption) only[h0,go_sem]
    exact hQ _ _ _ _ nofun rfl (by simp[zb,ze,AV.strip,AV.strip1,zF,h0])
   ·have h0':¬ ((zR r:Int)=0):=by omega
    have hrl:=ZI r
    have hlt:(1:Int)<((r.length+1:Nat):Int):=by omega
    have e:=zgM (r.getD 0 0) 48 (by omega)
    by_cases h48:r.getD 0 0=48
    ·have hi:Zt r=1:=by simp only[Zt,h0,h48,if_false,if_true]
     simp(disch:=first|omega|assumption) only[h0',hlt,Int.toNat_one,h48,UInt8.reduceToNat,wrap64,go_sem]
     exact hQ _ _ _ _ nofun rfl (by simp[zb,ze,AV.strip,AV.strip1,zF,h0,hi])
    ·have h48':¬ ((r.getD 0 0).toNat:Int)=48:=by
      intro hh
      rw[decide_eq_true (by exact hh)] at e
      exact h48 (by simpa using e.symm)
     have hi:Zt r=zR r:=by simp only[Zt,h0,h48,if_false]
     simp(disch:=first|omega|assumption) only[h0',hlt,Int.toNat_one,h48',wrap64,go_sem]
     exact hQ _ _ _ _ nofun rfl (by simp[zb,ze,AV.strip,AV.strip1,zF,h0,hi])
 ·simp(disch:=first|omega|assumption) only[h,go_sem]
  refine zd (Yu s (by simp only[Lim];omega)) ?_
  by_cases h0:zR s=0
  ·simp(disch:=first|omega|assumption) only[h0,go_sem]
   exact hQ _ _ _ _ nofun rfl (by simp[zb,ze,AV.strip,AV.strip1,zF,h,Zt,h0])
  ·have h0':¬ ((zR s:Int)=0):=by omega
   have hrl:=ZI s
   have hlt:(0:Int)<(s.length:Int):=by omega
   have e:=zgM (s.getD 0 0) 48 (by omega)
   by_cases h48:s.getD 0 0=48
   ·have hi:Zt s=1:=by simp only[Zt,h0,h48,if_false,if_true]
    simp(disch:=first|omega|assumption) only[h0',hlt,h48,UInt8.reduceToNat,wrap64,go_sem]
    exact hQ _ _ _ _ nofun rfl (by simp[zb,ze,AV.strip,AV.strip1,zF,h,hi])
   ·have h48':¬ ((s.getD 0 0).toNat:Int)=48:=by
     intro hh
     rw[decide_eq_true (by exact hh)] at e
     exact h48 (by simpa using e.symm)
    have hi:Zt s=zR s:=by simp only[Zt,h0,h48,if_false]
    simp(disch:=first|omega|assumption) only[h0',hlt,h48',wrap64,go_sem]
    exact hQ _ _ _ _ nofun rfl (by simp[zb,ze,AV.strip,AV.strip1,zF,h,hi])
def isE (c:UInt8):Bool:=decide (c=101)||decide (c=69)
def sgN (r:List UInt8):Nat:=if r.head?=some 43∨r.head?=some 45 then 1 else 0
def ZJ:List UInt8→Nat
 | []=>0
 | c::r=>if isE c then (if zR (r.drop (sgN r))=0 then 0 else 1+sgN r+zR (r.drop (sgN r))) else 0
theorem zi2 (r:List UInt8):sgN r≤r.length:=by
 unfold sgN
 split
 ·cases r<;>simp_all
 ·omega
theorem ziu:∀ s,ZJ s≤s.length
 | []=>by simp[ZJ]
 | c::r=>by
  have h:=ZI (r.drop (sgN r))
  have h2:=zi2 r
  rw[yH] at h
  simp only[ZJ,Al2]
  split
  ·split<;>omega
  ·omega
theorem zlf (s:List UInt8) (hs:s.length≤Lim):zr Tryz.prog 286 [.str s] (.int .i64 (ZJ s)):=by
 refine zr.go ir286 ck286 (Al4 _) fun KP Q hQ=>?_
 simp only[Lim] at hs
 cases s with
 | nil =>
  simp(disch:=first|omega|assumption) only[ir286,go_sem]
  exact hQ _ _ _ _ nofun rfl (by simp[zb,ze,AV.strip,AV.strip1,ZJ])
 | cons c r =>
  simp only[Al2] at hs
  have hne:¬ (c::r=[]):=by simp
  have hp:(0:Int)<((r.length+1:Nat):Int):=by omega
  have e1:=zgM c 101 (by omega)
  have e2:=zgM c 69 (by omega)
  have hE:∀(P:Prop),P→P:=fun _ h=>h
  by_cases hc:isE c=true
  case neg =>
   have hc1:¬ (c.toNat:Int)=101:=by
    intro hh;rw[decide_eq_true (by exact hh)] at e1
    exact hc (by simp[isE,(by simpa using e1.symm:c=101)])
   have hc2:¬ (c.toNat:Int)=69:=by
    intro hh;rw[decide_eq_true (by exact hh)] at e2
    exact hc (by simp[isE,(by simpa using e2.symm:c=69)])
   simp(disch:=first|omega|assumption) only[ir286,hne,hp,hc1,hc2,go_sem]
   have hcf:isE c=false:=by simpa using hc
   exact hQ _ _ _ _ nofun rfl (by simp[zb,ze,AV.strip,AV.strip1,ZJ,hcf])
  have fin:∀ k:Nat,zR (r.drop (sgN r))=k→ZJ (c::r)=if k=0 then 0 else 1+sgN r+k:=fun k hk=>by subst hk;simp only[ZJ,hc,if_true]
  have hcase:(c.toNat:Int)=101∨(¬ (c.toNat:Int)=101∧(c.toNat:Int)=69):=by
   simp only[isE,zd3,z7] at hc
   rcases hc with rfl|rfl
   ·exact .inl rfl
   ·exact .inr ⟨by decide,rfl⟩
  have hdl:=ZI (r.drop (sgN r))
  rw[yH] at hdl
  have hsl:=zi2 r
  cases r with
  | nil =>
   have k0:=fin 0 (by simp[sgN,zR])
   rcases hcase with h1|⟨h1,h2⟩
   ·simp(disch:=first|omega|assumption) only[ir286,h1,go_sem]
    refine zd (Yu [] (by simp)) ?_
    simp(disch:=first|omega|assumption) only[zR,go_sem]
    exact hQ _ _ _ _ nofun rfl (by simp[zb,ze,AV.strip,AV.strip1,k0])
   ·simp(disch:=first|omega|assumption) only[ir286,h1,h2,go_sem]
    refine zd (Yu [] (by simp)) ?_
    simp(disch:=first|omega|assumption) only[zR,go_sem]
    exact hQ _ _ _ _ nofun rfl (by simp[zb,ze,AV.strip,AV.strip1,k0])
  | cons d t =>
   simp only[Al2] at hs
   have hl1:(1:Int)<((t.length+1+1:Nat):Int):=by omega
   have hl2:(2:Int)≤((t.length+1+1:Nat):Int):=by omega
   have hl3:(1:Int)≤((t.length+1+1:Nat):Int):=by omega
   have f1:=zgM d 43 (by omega)
   have f2:=zgM d 45 (by omega)
   by_cases hsg:d=43∨d=45
   ·have hsg1:sgN (d::t)=1:=by simp only[sgN,List.head?_cons,Al1,hsg,if_true]
    have k0:=fin (zR t) (by rw[hsg1];rfl)
    rw[hsg1] at k0 hdl
    have hd:(d.toNat:Int)=43∨(¬ (d.toNat:Int)=43∧(d.toNat:Int)=45):=by
     rcases hsg with rfl|rfl
     ·exact .inl rfl
     ·exact .inr ⟨by decide,rfl⟩
    rcases hcase with h1|⟨h1,h2⟩<;>rcases hd with h3|⟨h3,h4⟩
    all_goals
     simp only[hl1,hl2,Al2,List.drop_succ_cons,List.drop_zero] at hdl
    ·simp(disch:=first|omega|assumption) only[ir286,h1,h3,hl1,hl2,Int.toNat_one,go_sem]
     refine zd (Yu t (by simp only[Lim];omega)) ?_
     by_cases hz:zR t=0
     ·simp(disch:=first|omega|assumption) only[hz,go_sem]
      exact hQ _ _ _ _ nofun rfl (by simp[zb,ze,AV.strip,AV.strip1,k0,hz])
     ·have hz':¬ (zR t:Int)=0:=by omega
      simp(disch:=first|omega|assumption) only[hz',wrap64,go_sem]
      exact hQ _ _ _ _ nofun rfl (by simp[zb,ze,AV.strip,AV.strip1,k0,hz])
    ·simp(disch:=first|omega|assumption) only[ir286,h1,h3,h4,hl1,hl2,Int.toNat_one,go_sem]
     refine zd (Yu t (by simp only[Lim];omega)) ?_
     by_cases hz:zR t=0
     ·simp(disch:=first|omega|assumption) only[hz,go_sem]
      exact hQ _ _ _ _ nofun rfl (by simp[zb,ze,AV.strip,AV.strip1,k0,hz])
     ·have hz':¬ (zR t:Int)=0:=by omega
      simp(disch:=first|omega|assumption) only[hz',wrap64,go_sem]
      exact hQ _ _ _ _ nofun rfl (by simp[zb,ze,AV.strip,AV.strip1,k0,hz])
    ·simp(disch:=first|omega|assumption) only[ir286,h1,h2,h3,hl1,hl2,Int.toNat_one,go_sem]
     refine zd (Yu t (by simp only[Lim];omega)) ?_
     by_cases hz:zR t=0
     ·simp(disch:=first|omega|assumption) only[hz,go_sem]
      exact hQ _ _ _ _ nofun rfl (by simp[zb,ze,AV.strip,AV.strip1,k0,hz])
     ·have hz':¬ (zR t:Int)=0:=by omega
      simp(disch:=first|omega|assumption) only[hz',wrap64,go_sem]
      exact hQ _ _ _ _ nofun rfl (by simp[zb,ze,AV.strip,AV.strip1,k0,hz])
    ·simp(disch:=first|omega|assumption) only[ir286,h1,h2,h3,h4,hl1,hl2,Int.toNat_one,go_sem]
     refine zd (Yu t (by simp only[Lim];omega)) ?_
     by_cases hz:zR t=0
     ·simp(disch:=first|omega|assumption) only[hz,go_sem]
      exact hQ _ _ _ _ nofun rfl (by simp[zb,ze,AV.strip,AV.strip1,k0,hz])
     ·have hz':¬ (zR t:Int)=0:=by omega
      simp(disch:=first|omega|assumption) only[hz',wrap64,go_sem]
      exact hQ _ _ _ _ nofun rfl (by simp[zb,ze,AV.strip,AV.strip1,k0,hz])
   ·have hsg0:sgN (d::t)=0:=by simp only[sgN,List.head?_cons,Al1,hsg,if_false]
    have k0:=fin (zR (d::t)) (by rw[hsg0];rfl)
    rw[hsg0] at k0 hdl
    have h3:¬ (d.toNat:Int)=43:=by
     intro hh;rw[decide_eq_true (by exact hh)] at f1
     exact hsg (.inl (by simpa using f1.symm))
    have h4:¬ (d.toNat:Int)=45:=by
     intro hh;rw[decide_eq_true (by exact hh)] at f2
     exact hsg (.inr (by simpa using f2.symm))
    simp only[List.drop_zero,Al2] at hdl
    rcases hcase with h1|⟨h1,h2⟩
    ·simp(disch:=first|omega|assumption) only[ir286,h1,h3,h4,hl1,hl3,Int.toNat_one,go_sem]
     refine zd (Yu (d::t) (by simp only[Lim,Al2];omega)) ?_
     by_cases hz:zR (d::t)=0
     ·simp(disch:=first|omega|assumption) only[hz,go_sem]
      exact hQ _ _ _ _ nofun rfl (by simp[zb,ze,AV.strip,AV.strip1,k0,hz])
     ·have hz':¬ (zR (d::t):Int)=0:=by omega
      simp(disch:=first|omega|assumption) only[hz',wrap64,go_sem]
      exact hQ _ _ _ _ nofun rfl (by simp[zb,ze,AV.strip,AV.strip1,k0,hz])
    ·simp(disch:=first|omega|assumption) only[ir286,h1,h2,h3,h4,hl1,hl3,Int.toNat_one,go_sem]
     refine zd (Yu (d::t) (by simp only[Lim,Al2];omega)) ?_
     by_cases hz:zR (d::t)=0
     ·simp(disch:=first|omega|assumption) only[hz,go_sem]
      exact hQ _ _ _ _ nofun rfl (by simp[zb,ze,AV.strip,AV.strip1,k0,hz])
     ·have hz':¬ (zR (d::t):Int)=0:=by omega
      simp(disch:=first|omega|assumption) only[hz',wrap64,go_sem]
      exact hQ _ _ _ _ nofun rfl (by simp[zb,ze,AV.strip,AV.strip1,k0,hz])
def yA (r:List UInt8):Nat:=if r.head?=some 46∧0<zR r.tail then 1+zR r.tail else 0
def yx (s:List UInt8):Nat×Int :=
 if zF s=0 then (0,0) else
  (zF s+yA (s.drop (zF s))+ZJ (s.drop (zF s+yA (s.drop (zF s)))),if yA (s.drop (zF s))=0∧ZJ (s.drop (zF s+yA (s.drop (zF s))))=0 then 3 else 4)
theorem zgG (r:List UInt8):yA r≤r.length:=by
 unfold yA
 split
 ·rename_i h
  cases r with
  | nil=>simp at h
  | cons c t=>have:=ZI t;simp only[List.tail_cons,Al2];omega
 ·omega
theorem zmb (s:List UInt8) (hs:s.length≤Lim):zr Tryz.prog 225 [.str s] (.tup [.int .i64 (yx s).1,.int .i64 (yx s).2]):=by
 refine zr.go ir225 ck225 (Al4 _) fun KP Q hQ=>?_
 have hs':=hs
 simp only[Lim] at hs
 simp(disch:=first|omega|assumption) only[ir225,go_sem]
 refine zd (zsv s hs') ?_
 have hw:=zcY s
 by_cases h0:zF s=0
 ·simp(disch:=first|omega|assumption) only[h0,go_sem]
  exact hQ _ _ _ _ nofun rfl (by simp[zb,ze,AV.strip,AV.strip1,yx,h0])
 have h0':¬ ((zF s:Int)=0):=by omega
 have hwl:(zF s:Int)≤s.length:=by omega
 simp(disch:=first|omega|assumption) only[h0',hwl,go_sem]
 refine zd (zaX (s.drop (zF s)) [46]) ?_
 rw[zmj]
 generalize hn:zF s=n at *
 have fin:∀ f p:Nat,yA (s.drop n)=f→ZJ (s.drop (n+f))=p→yx s=(n+f+p,if f=0∧p=0 then 3 else 4):=fun f p hf hp=>by
  unfold yx
  rw[hn,hf,hp]
  simp only[h0,if_false]
 have hpl:=ziu (s.drop n)
 rw[yH] at hpl
 by_cases h46:(s.drop n).head?=some 46
 ·obtain⟨c,t,hct⟩:∃ c t,s.drop n=c::t:=by
   cases hx:s.drop n with
   | nil=>rw[hx] at h46;simp at h46
   | cons c t=>exact⟨c,t,rfl⟩
  have hlen:s.length=n+1+t.length:=by have:=congrArg List.length hct;simp at this;omega
  have hdr:s.drop (n+1)=t:=by rw[← List.drop_drop,hct];rfl
  have hto:((n:Int)+1).toNat=n+1:=by omega
  have hn1:(0:Int)≤(n:Int)+1:=by omega
  have hn2:(n:Int)+1≤s.length:=by omega
  have hrl:=ZI t
  simp(disch:=first|omega|assumption) only[h46,wrap64,hto,hn1,hn2,hdr,go_sem]
  refine zd (Yu t (by simp only[Lim];omega)) ?_
  by_cases hk:(0:Int)<zR t
  ·have hk':0<zR t:=by omega
   have hfr:yA (s.drop n)=1+zR t:=by unfold yA;rw[if_pos ⟨h46,by rw[hct];exact hk'⟩,hct];rfl
   have hto2:((n:Int)+1+zR t).toNat=n+(1+zR t):=by omega
   have hn3:(0:Int)≤(n:Int)+1+zR t:=by omega
   have hn4:(n:Int)+1+zR t≤s.length:=by omega
   have hpl2:=ziu (s.drop (n+(1+zR t)))
   rw[yH] at hpl2
   simp(disch:=first|omega|assumption) only[hk,wrap64,hto2,hn3,hn4,go_sem]
   refine zd (zlf (s.drop (n+(1+zR t))) (by rw[yH];simp only[Lim];omega)) ?_
   have hf:=fin _ _ hfr rfl
   generalize hp:ZJ (s.drop (n+(1+zR t)))=p at *
   by_cases hp0:(0:Int)<p
   ·simp(disch:=first|omega|assumption) only[hp0,wrap64,go_sem]
    exact hQ _ _ _ _ nofun rfl (by simp[zb,ze,AV.strip,AV.strip1,hf,Int.add_assoc])
   ·have hp00:p=0:=by omega
    subst hp00
    simp(disch:=first|omega|assumption) only[go_sem]
    exact hQ _ _ _ _ nofun rfl (by simp[zb,ze,AV.strip,AV.strip1,hf,Int.add_assoc])
  ·have hk0:zR t=0:=by omega
   have hfr:yA (s.drop n)=0:=by unfold yA;exact if_neg fun hh=>by have:=hh.2;rw[hct] at this;simp only[List.tail_cons] at this;omega
   simp(disch:=first|omega|assumption) only[hk,hwl,go_sem]
   refine zd (zlf (s.drop n) (by rw[yH];simp only[Lim];omega)) ?_
   have hf:=fin _ _ hfr rfl
   rw[Nat.add_zero] at hf
   generalize hp:ZJ (s.drop n)=p at *
   by_cases hp0:(0:Int)<p
   ·have hp1:¬ p=0:=by omega
    simp(disch:=first|omega|assumption) only[hp0,wrap64,go_sem]
    exact hQ _ _ _ _ nofun rfl (by simp[zb,ze,AV.strip,AV.strip1,hf,hp1])
   ·have hp00:p=0:=by omega
    subst hp00
    simp(disch:=first|omega|assumption) only[go_sem]
    exact hQ _ _ _ _ nofun rfl (by simp[zb,ze,AV.strip,AV.strip1,hf])
 ·have hfr:yA (s.drop n)=0:=by unfold yA;exact if_neg fun hh=>h46 hh.1
  simp(disch:=first|omega|assumption) only[h46,hwl,go_sem]
  refine zd (zlf (s.drop n) (by rw[yH];simp only[Lim];omega)) ?_
  have hf:=fin _ _ hfr rfl
  rw[Nat.add_zero] at hf
  generalize hp:ZJ (s.drop n)=p at *
  by_cases hp0:(0:Int)<p
  ·have hp1:¬ p=0:=by omega
   simp(disch:=first|omega|assumption) only[hp0,wrap64,go_sem]
   exact hQ _ _ _ _ nofun rfl (by simp[zb,ze,AV.strip,AV.strip1,hf,hp1])
  ·have hp00:p=0:=by omega
   subst hp00
   simp(disch:=first|omega|assumption) only[go_sem]
   exact hQ _ _ _ _ nofun rfl (by simp[zb,ze,AV.strip,AV.strip1,hf])
def zbC (s:List UInt8):Int:=if (yx s).1=s.length then (yx s).2 else 0
theorem zpt (s:List UInt8) (hs:s.length≤Lim):zr Tryz.prog 207 [.str s] (.int .i64 (zbC s)):=by
 refine zr.go ir207 ck207 (Al4 _) fun KP Q hQ=>?_
 simp(disch:=first|omega|assumption) only[ir207,go_sem]
 refine zd (zmb s hs) ?_
 by_cases h:(yx s).1=s.length
 ·have h':(((yx s).1:Int)=s.length)=True:=eq_true (by omega)
  simp(disch:=first|omega|assumption) only[h',go_sem]
  exact hQ _ _ _ _ nofun rfl (by simp[zb,ze,AV.strip,AV.strip1,zbC,h])
 ·have h':¬ ((yx s).1:Int)=s.length:=by omega
  simp(disch:=first|omega|assumption) only[h',go_sem]
  exact hQ _ _ _ _ nofun rfl (by simp[zb,ze,AV.strip,AV.strip1,zbC,h])
def okI:Lib.NumEnd Int→Bool
 | .ok _=>true
 | _=>false
def zhk (s:List UInt8):Int:=match Lib.parseIntB 64 s with
 | .ok v=>v
 | Lib.NumEnd.syntax=>0
 | .range=>Lib.intSat 64 s
def zaD (s:List UInt8):Bool:=okI (Lib.parseIntB 64 s)&&decide (zbC s=3)
theorem znM (s:List UInt8) (hs:s.length≤Lim):zr Tryz.prog 176 [.str s] (.tup [.int .i64 (zhk s),.bool (zaD s)]):=by
 refine zr.go ir176 ck176 (Al4 _) fun KP Q hQ=>?_
 simp(disch:=first|omega|assumption) only[ir176,go_sem]
 refine zd (zmL s (by simp only[Lim] at hs;omega)) ?_
 rcases hp:Lib.parseIntB 64 s with v|_|_
 ·simp(disch:=first|omega|assumption) only[zf8,hp,go_sem]
  refine zd (zpt s hs) ?_
  simp(disch:=first|omega|assumption) only[go_sem]
  exact hQ _ _ _ _ nofun rfl (by simp[zb,ze,AV.strip,AV.strip1,zhk,zaD,hp,okI])
 ·simp(disch:=first|omega|assumption) only[zf8,hp,go_sem]
  exact hQ _ _ _ _ nofun rfl (by simp[zb,ze,AV.strip,AV.strip1,zhk,zaD,hp,okI])
 ·simp(disch:=first|omega|assumption) only[zf8,hp,go_sem]
  exact hQ _ _ _ _ nofun rfl (by simp[zb,ze,AV.strip,AV.strip1,zhk,zaD,hp,okI])
def zsY (s:List UInt8):Bool:=decide (zbC s=4)||(decide (zbC s=3)&&!zaD s)
def zs9 (s:List UInt8):Bool:=decide (s=[116,114,117,101])||(decide (s=[102,97,108,115,101])||decide (s=[110,117,108,108]))
def zjw (n:Int) (s:List UInt8) (l:List Val) (m:List Mem):Bool:=decide (n=0)&&(decide (s=[])&&(decide (l.length=0)&&decide (m.length=0)))
def zlB (k n:Int) (s:List UInt8) (l:List Val) (m:List Mem):Bool :=
 zjw 0 [] l m&&(if k=0 then decide (n=0)&&decide (s=[]) else if k=1 then (decide (n=0)||decide (n=1))&&decide (s=[]) else if k=2 then decide (s=[])
  else if k=3 then decide (n=0)&&zsY s else if k=4 then decide (n=0)&&Lib.validD s else if k=5 then decide (n=0)&&(zf5 s&&!zs9 s) else if k=8 then decide (n=0)&&zf5 s else false)
mutual
def zpv (may:List UInt8→Bool):Val→Bool
 | .mk k n s l m=>if k=6 then znH may l&&zjw n s [] m else if k=7 then znQ may m&&zjw n s l [] else zlB k n s l m
def znH (may:List UInt8→Bool):List Val→Bool
 | []=>true
 | v::r=>zpv may v&&znH may r
def ztV (may:List UInt8→Bool):Mem→Bool
 | .mk s v=>may s&&zpv may v
def znQ (may:List UInt8→Bool):List Mem→Bool
 | []=>true
 | x::r=>ztV may x&&znQ may r
end
def boolT (b:Bool):List UInt8:=if b then [116,114,117,101] else [102,97,108,115,101]
mutual
def ztk:Val→List Tok
 | .mk k n s l m=>if k=0 then [⟨2,[110,117,108,108]⟩] else if k=1 then [⟨2,boolT (decide (n=1))⟩] else if k=2 then [⟨3,Lib.itoa n⟩] else if k=3 then [⟨zbC s,s⟩] else if k=4 then [⟨5,s⟩]
  else if k=5 then [⟨2,s⟩] else if k=8 then [⟨1,[36]⟩,⟨2,s⟩] else if k=6 then ⟨1,[91]⟩::(zq2 l++[⟨1,[93]⟩]) else ⟨1,[123]⟩::(zof m++[⟨1,[125]⟩])
def zq2:List Val→List Tok
 | []=>[]
 | v::r=>ztk v++zq2 r
def ztZ:Mem→List Tok
 | .mk s v=>⟨2,s⟩::⟨1,[58]⟩::ztk v
def zof:List Mem→List Tok
 | []=>[]
 | x::r=>ztZ x++zof r
end
def inR (n:Int):Prop:=-9223372036854775808≤n∧n≤9223372036854775807
mutual
def wfV:Val→Prop
 | .mk _ n _ l m=>inR n∧zr3 l∧zmC m
def zr3:List Val→Prop
 | []=>True
 | v::r=>wfV v∧zr3 r
def wfM:Mem→Prop
 | .mk _ v=>wfV v
def zmC:List Mem→Prop
 | []=>True
 | x::r=>wfM x∧zmC r
end
theorem zmm (a:List Tok) (t:Tok):cKs a++[[.int .i64 t.k,.str t.s]]=cKs (a++[t]):=by simp[cKs,cK]
end Go.Proofs.YticbbfbpeimkbaaGreatDoor
namespace Go.Proofs.YticbbfbpeimkbaaGreatDoor
def zkR (P:Program) (f:FuncId) (fn:Func) (s:ChangeSpec) (c:OpenClaim):Bool:=c.wf (OpenSpec.ofChange s)&&laidOutB P&&mapsRowed P&&fn.params.all (P.readableRec ·)&&namedTie P c.named s.vars
def zk5 (P:Program) (f:FuncId) (fn:Func) (s:ChangeSpec) (c:OpenClaim):Bool:=(c.stops==[])&&(P.stops==[])&&(c.knobs==[])&&(P.stopKnobs==[])&&(c.maps==(fn.params.toList++s.plain.varTypes P).any (P.mapsRec ·))&&(c.ifaces==(fn.params.toList++s.plain.varTypes P).any (P.ifacesRec ·))&&(c.mapsOut==P.mapsAmong fn.resultTypes.toList)&&(c.loops==(fn.params.toList++s.plain.varTypes P).any (P.loopsFrom ·))&&(c.wideKeys==(fn.params.toList++s.plain.varTypes P++fn.resultTypes.toList).any (P.wideKeysFrom ·))&&s.vars.all (P.varReadable ·)&&fn.resultTypes.all (fun t=>P.readableRec t&&decide (t<P.types.size))&&(c.ifacesOut==fn.resultTypes.toList.any (P.ifacesRec ·))&&(c.loopsOut==fn.resultTypes.toList.any (P.loopsFrom ·))&&(c.veiled==(fn.params.toList++s.plain.varTypes P++fn.resultTypes.toList).any (P.veiledRec ·))&&c.veiledFits P fn.params.toList (fn.params.toList++s.plain.varTypes P++fn.resultTypes.toList)
def zlh (P:Program) (f:FuncId) (fn:Func) (s:ChangeSpec) (c:OpenClaim):Bool:=(c.inPlace==P.inPlace f)&&(c.unfollowed==P.unfollowed f)&&(c.recurses==P.recurses f)&&(c.named==P.varsNamed f)
def zkD (P:Program) (f:FuncId) (fn:Func) (s:ChangeSpec) (c:OpenClaim):Bool:=(c.plainKeys==P.plainKeys)&&c.shortTexts.isNone
def zkE (P:Program) (f:FuncId) (fn:Func) (s:ChangeSpec) (c:OpenClaim):Bool:=P.stopsHeard
def zk0 (P:Program) (f:FuncId) (fn:Func) (s:ChangeSpec) (c:OpenClaim):Bool:=P.mayEnter
def zkI (P:Program) (f:FuncId) (fn:Func) (s:ChangeSpec) (c:OpenClaim):Bool:=(c.lifted==P.liftsFinal)&&(P.make==some c.make)&&(c.kinds==(if c.domain.isEmpty then [] else fn.params.toList.map fun t=>match P.underlying t with|some (.int k)=>some k|_=>none))&&(c.pinned==c.pinnedBy)
theorem zm7 {P:Program} {f:FuncId} {fn:Func} {s:ChangeSpec} {c:OpenClaim} (h0:zkR P f fn s c=true) (h1:zk5 P f fn s c=true) (h2:zlh P f fn s c=true) (h3:zkD P f fn s c=true) (h4:zkE P f fn s c=true) (h5:zk0 P f fn s c=true) (h6:zkI P f fn s c=true):joinedFacts P f fn s c=true:=by
 simp only[zkR,Al0] at h0
 obtain⟨⟨⟨⟨a0,a1⟩,a2⟩,a3⟩,a4⟩:=h0
 simp only[zk5,Al0] at h1
 obtain⟨⟨⟨⟨⟨⟨⟨⟨⟨⟨⟨⟨⟨⟨a5,a6⟩,a7⟩,a8⟩,a13⟩,a14⟩,a15⟩,a16⟩,a17⟩,a18⟩,a19⟩,a20⟩,a21⟩,a30⟩,a31⟩:=h1
 simp only[zlh,Al0] at h2
 obtain⟨⟨⟨a9,a10⟩,a11⟩,a12⟩:=h2
 simp only[zkD,Al0] at h3
 obtain⟨a22,a23⟩:=h3
 simp only[zkE,Al0] at h4
 have a24:=h4
 simp only[zk0,Al0] at h5
 have a25:=h5
 simp only[zkI,Al0] at h6
 obtain⟨⟨⟨a26,a27⟩,a28⟩,a29⟩:=h6
 simp only[joinedFacts,Al0]
 exact⟨⟨⟨⟨⟨⟨⟨⟨⟨⟨⟨⟨⟨⟨⟨⟨⟨⟨⟨⟨⟨⟨⟨⟨⟨⟨⟨⟨⟨⟨⟨a0,a1⟩,a2⟩,a3⟩,a4⟩,a5⟩,a6⟩,a7⟩,a8⟩,a9⟩,a10⟩,a11⟩,a12⟩,a13⟩,a14⟩,a15⟩,a16⟩,a17⟩,a18⟩,a19⟩,a20⟩,a21⟩,a22⟩,a23⟩,a24⟩,a25⟩,a26⟩,a27⟩,a28⟩,a29⟩,a30⟩,a31⟩
open Go.Ab Go.ChangeAt Go.ChangeShapes Go.Lib Go.RowKit Go.WideElems Go.WideShapes
theorem own:ownKnob Tryz.prog.godebug=none:=by kernel_rfl
theorem laidOut:laidOutB Tryz.prog=true:=by kernel_rfl
theorem zmx {H:Type} {s:ChangeSpec} {ds:List (DataW H)} (h:∀ k,(Rows.OpenSpec.upto s).cond=some k→k H ds=true):Z0 ds≤1048576:=by
 have h1:Rows.uptoSmall H ds=true:=h _ rfl
 have h2:=of_decide_eq_true h1
 rwa [zaH] at h2
end Go.Proofs.YticbbfbpeimkbaaGreatDoor
namespace Go.Proofs.YticbbfbpeimkbaaGreatDoor
open Go.Ab
structure DirD where
 nm:List UInt8
 args:List Mem
inductive SelD where
 | mk (k:Int) (al nm:List UInt8) (args:List Mem) (dirs:List DirD) (on:List UInt8) (sels:List SelD)
structure TyD where
 nm:List UInt8
 lists:Int
 musts:Int
structure VarD where
 nm:List UInt8
 t:TyD
 has:Bool
 d:Val
structure OpD where
 k:Int
 nm:List UInt8
 vars:List VarD
 dirs:List DirD
 sels:List SelD
structure FragD where
 nm:List UInt8
 on:List UInt8
 dirs:List DirD
 sels:List SelD
structure DocD where
 ops:List OpD
 frags:List FragD
def cD (x:DirD):List AV:=[.str x.nm,.sl .no 6 (cMs x.args)]
def cDs (l:List DirD):List (List AV):=l.map cD
mutual
def cS:SelD→List AV
 | .mk k al nm args dirs on sels=>[.int .i64 k,.str al,.str nm,.sl .no 6 (cMs args),.sl .no 2 (cDs dirs),.str on,.sl .no 7 (cSs sels)]
def cSs:List SelD→List (List AV)
 | []=>[]
 | x::r=>cS x::cSs r
end
def cTy (t:TyD):List AV:=[.str t.nm,.int .i64 t.lists,.int .i64 t.musts]
def cW (x:VarD):List AV:=cTy ⟨x.nm,0,0⟩ |>.take 1 |>.append (cTy x.t++(.bool x.has::cV x.d))
def cWs (l:List VarD):List (List AV):=l.map cW
def cO (x:OpD):List AV:=[.int .i64 x.k,.str x.nm,.sl .no 10 (cWs x.vars),.sl .no 2 (cDs x.dirs),.sl .no 7 (cSs x.sels)]
def cOs (l:List OpD):List (List AV):=l.map cO
def cF (x:FragD):List AV:=[.str x.nm,.str x.on,.sl .no 2 (cDs x.dirs),.sl .no 7 (cSs x.sels)]
def cFs (l:List FragD):List (List AV):=l.map cF
def zdW (d:DocD):List AV:=[.sl .no 5 (cOs d.ops),.sl .no 4 (cFs d.frags)]
theorem zgE (nm:List UInt8) (t:TyD) (h:Bool) (d:Val):cW ⟨nm,t,h,d⟩=.str nm::.str t.nm::.int .i64 t.lists::.int .i64 t.musts::.bool h::cV d:=rfl
theorem zak:∀ l,cSs l=l.map cS
 | []=>rfl
 | v::r=>by rw[cSs,zak r];rfl
theorem zfT (l:List DirD):(cDs l).length=l.length:=by simp[cDs]
theorem zfN (l:List SelD):(cSs l).length=l.length:=by rw[zak];simp
theorem zeh (l:List VarD):(cWs l).length=l.length:=by simp[cWs]
theorem zfW (l:List OpD):(cOs l).length=l.length:=by simp[cOs]
theorem zfP (l:List FragD):(cFs l).length=l.length:=by simp[cFs]
theorem zlw {l a:List DirD} {x:DirD} {b:List DirD} (h:l=a++x::b):(cDs l).getD a.length []=cD x:=YL h
theorem zlL {l a:List SelD} {x:SelD} {b:List SelD} (h:l=a++x::b):(cSs l).getD a.length []=cS x:=by rw[zak,YL h]
theorem zlK {l a:List VarD} {x:VarD} {b:List VarD} (h:l=a++x::b):(cWs l).getD a.length []=cW x:=YL h
theorem zlP {l a:List OpD} {x:OpD} {b:List OpD} (h:l=a++x::b):(cOs l).getD a.length []=cO x:=YL h
theorem zmf {l a:List FragD} {x:FragD} {b:List FragD} (h:l=a++x::b):(cFs l).getD a.length []=cF x:=YL h
theorem ztG (k:Int) (al nm:List UInt8) (args:List Mem) (dirs:List DirD) (on:List UInt8) (sels:List SelD):cS (.mk k al nm args dirs on sels)=[.int .i64 k,.str al,.str nm,.sl .no 6 (cMs args),.sl .no 2 (cDs dirs),.str on,.sl .no 7 (cSs sels)]:=rfl
theorem zjE (x:DirD):(cD x).map AV.strip1=cD x:=rfl
theorem Y6 (x:SelD):(cS x).map AV.strip1=cS x:=by cases x;rfl
theorem zbx (x:VarD):(cW x).map AV.strip1=cW x:=by rcases x with ⟨a,b,c,⟨⟩⟩;rfl
theorem ze4 (l:List VarD):(cWs l).map (·.map AV.strip1)=cWs l:=by rw[cWs,List.map_map];exact List.map_congr_left fun v _=>zbx v
theorem zbD (x:SelD):(cS x).length=7:=by cases x;rfl
theorem zal (x:SelD):(cS x).take 7=cS x:=by cases x;rfl
theorem ZV (a b c d e f g:AV) (x:SelD):splice [a,b,c,d,e,f,g] 0 (cS x)=cS x:=by cases x;rfl
theorem zcn (x:VarD):(cW x).length=10:=by rcases x with ⟨a,b,c,⟨⟩⟩;rfl
theorem za0 (x:VarD):(cW x).take 10=cW x:=by rcases x with ⟨a,b,c,⟨⟩⟩;rfl
def bD (x:DirD):Nat:=1+x.nm.length+bMs x.args
def bDs (l:List DirD):Nat:=(l.map bD).sum
mutual
def bS:SelD→Nat
 | .mk _ al nm args dirs on sels=>1+al.length+nm.length+on.length+bMs args+bDs dirs+bSs sels
def bSs:List SelD→Nat
 | []=>0
 | x::r=>bS x+bSs r
end
def bW (x:VarD):Nat:=x.nm.length+x.t.nm.length+bV x.d
def bWs (l:List VarD):Nat:=(l.map bW).sum
def bO (x:OpD):Nat:=1+x.nm.length+bWs x.vars+bDs x.dirs+bSs x.sels
def bOs (l:List OpD):Nat:=(l.map bO).sum
def bF (x:FragD):Nat:=1+x.nm.length+x.on.length+bDs x.dirs+bSs x.sels
def bFs (l:List FragD):Nat:=(l.map bF).sum
def ze0 (d:DocD):Nat:=bOs d.ops+bFs d.frags
theorem zeq {α:Type} {f:α→Nat} (hf:∀ x,1≤f x):∀ l:List α,l.length≤(l.map f).sum
 | []=>Nat.zero_le _
 | x::r=>by have:=zeq hf r;have:=hf x;simp only[List.map_cons,List.sum_cons,Al2];omega
theorem zfX {α:Type} (f:α→Nat) (a:List α) (x:α) (b:List α):((a++x::b).map f).sum=(a.map f).sum+f x+(b.map f).sum:=by simp;omega
theorem zpD (l:List DirD):l.length≤bDs l:=zeq (fun x=>by simp only[bD];omega) l
theorem zqu (l:List VarD):l.length≤bWs l:=zeq (fun x=>by have:=zk1 x.d;simp only[bW];omega) l
theorem zpj (l:List OpD):l.length≤bOs l:=zeq (fun x=>by simp only[bO];omega) l
theorem zp0 (l:List FragD):l.length≤bFs l:=zeq (fun x=>by simp only[bF];omega) l
theorem zst (x:SelD):1≤bS x:=by cases x;simp only[bS];omega
theorem zmp:∀ l:List SelD,l.length≤bSs l
 | []=>by simp
 | v::r=>by have:=zmp r;have:=zst v;simp only[bSs,Al2];omega
theorem zpk (a:List DirD) (x:DirD) (b:List DirD):bDs (a++x::b)=bDs a+bD x+bDs b:=zfX ..
theorem zpZ (a:List VarD) (x:VarD) (b:List VarD):bWs (a++x::b)=bWs a+bW x+bWs b:=zfX ..
theorem zqH (a:List OpD) (x:OpD) (b:List OpD):bOs (a++x::b)=bOs a+bO x+bOs b:=zfX ..
theorem zpA (a:List FragD) (x:FragD) (b:List FragD):bFs (a++x::b)=bFs a+bF x+bFs b:=zfX ..
theorem zql (a:List SelD) (x:SelD) (b:List SelD):bSs (a++x::b)=bSs a+bS x+bSs b:=by
 induction a with
 | nil=>simp[bSs]
 | cons y a ih=>simp only[Al6,bSs,ih];omega
mutual
theorem SelD.ind {P:SelD→Prop} (h:∀ k al nm args dirs on sels,(∀ v∈sels,P v)→P (.mk k al nm args dirs on sels)):∀ v,P v
 | .mk k al nm args dirs on sels=>h k al nm args dirs on sels (SelD.indL h sels)
theorem SelD.indL {P:SelD→Prop} (h:∀ k al nm args dirs on sels,(∀ v∈sels,P v)→P (.mk k al nm args dirs on sels)):∀ l:List SelD,∀ v∈l,P v
 | [],_,hv=>by cases hv
 | x::r,v,hv=>(List.mem_cons.1 hv).elim (fun e=>e▸SelD.ind h x) (SelD.indL h r v)
end
theorem zpF {t:List UInt8} {v:Val} {m:List Mem} (h:Mem.mk t v∈m):bV v≤bMs m:=by
 obtain⟨a,b,hd⟩:=List.append_of_mem h
 have:=zl2 a (.mk t v) b
 rw[← hd] at this
 simp only[bM] at this
 omega
theorem zjF (a b:List Mem) (ha:bMs a≤Lim):zr Tryz.prog 102 [.sl .no 6 (cMs a),.sl .no 6 (cMs b)] (.bool (eqd a b)) :=
 zjS a b (by have:=zjd a;omega) fun s v hm u=>zqR v (by have:=zpF hm;omega) u
def hexL:List UInt8:=[48,49,50,51,52,53,54,55,56,57,97,98,99,100,101,102]
def hexD (c:UInt8):Option Nat:=if Lib.indexByte hexL (c ||| 32)<0∨c.toNat<48∨(57<c.toNat∧c.toNat<65) then none else some (Lib.indexByte hexL (c ||| 32)).toNat
def ZN:Nat→List UInt8→Nat→Option Nat
 | 0,_,u=>some u
 | _+1,[],_=>none
 | n+1,c::t,u=>match hexD c with
  | none=>none
  | some k=>ZN n t (16*u+k)
def Yb (s:List UInt8):Option Nat:=ZN 4 s 0
def Zz (n:Nat):List UInt8 :=
 if n≤127 then [UInt8.ofNat n]
 else if n≤2047 then [UInt8.ofNat (192+n / 64),UInt8.ofNat (128+n % 64)]
 else if n≤65535 then [UInt8.ofNat (224+n / 4096),UInt8.ofNat (128+n / 64 % 64),UInt8.ofNat (128+n % 64)]
 else [UInt8.ofNat (240+n / 262144),UInt8.ofNat (128+n / 4096 % 64),UInt8.ofNat (128+n / 64 % 64),UInt8.ofNat (128+n % 64)]
def zX:List Nat→Option (List UInt8)
 | []=>some []
 | u::r=>if 65535<u∨(56320≤u∧u≤57343) then none
  else if 55296≤u∧u<56320 then match r with
   | []=>none
   | v::r=>if v<56320∨57343<v then none else (zX r).map (Zz (65536+1024*(u-55296)+(v-56320))++·)
  else (zX r).map (Zz u++·)
structure Sd where
 b:List UInt8
 u:List Nat
 ok:Bool
def yD (q:Sd):Sd:=⟨q.b++(zX q.u).getD [],[],q.ok&&(zX q.u).isSome⟩
def Sd.put (q:Sd) (c:UInt8):Sd:=⟨(yD q).b++[c],[],(yD q).ok⟩
def zaR:List UInt8:=[34,92,47,98,102,110,114,116]
def zkT:List UInt8:=[34,92,47,8,12,10,13,9]
def Yl (q:Sd):List UInt8→Option (Sd×List UInt8)
 | []=>none
 | c::t=>if c=117 then (Yb t).map fun u=>(⟨q.b,q.u++[u],q.ok⟩,t.drop 4)
  else if Lib.indexByte zaR c<0 then none else some (q.put (zkT.getD (Lib.indexByte zaR c).toNat 0),t)
def zad (may:UInt8→Bool):Nat→List UInt8→Sd→Option (Sd×List UInt8)
 | 0,_,_=>none
 | _+1,[],_=>none
 | n+1,c::t,q=>if c=34 then some (yD q,t)
  else if c=92 then match Yl q t with
   | none=>none
   | some (q',t')=>zad may n t' q'
  else if may c then zad may n t (q.put c) else none
def ZL (may:UInt8→Bool) (t:List UInt8):Option (List UInt8×List UInt8):=match zad may (t.length+1) t ⟨[],[],true⟩ with
 | some (q,t')=>if q.ok then some (q.b,t') else none
 | none=>none
def bk (c:UInt8):Bool:=decide (0≤Lib.indexByte [9,10,13,32] c)
def nch (c:UInt8):Bool:=decide (0≤Lib.indexByte [48,49,50,51,52,53,54,55,56,57,43,45,46,101,69] c)
def nst (c:UInt8):Bool:=decide (0≤Lib.indexByte [45,48,49,50,51,52,53,54,55,56,57] c)
def zgK (s:List UInt8):Val:=if zaD s then .mk 2 (zhk s) [] [] [] else .mk 3 0 s [] []
theorem zeo {q q':Sd} {t t':List UInt8} (h:Yl q t=some (q',t')):t' <:+ t∧t'.length<t.length:=by
 cases t with
 | nil=>cases h
 | cons c t =>
  simp only[Yl] at h
  split at h
  ·cases hu:Yb t with
   | none=>simp[hu] at h
   | some u =>
    simp only[hu,yS,Al1,Al8] at h
    obtain⟨_,rfl⟩:=h
    exact⟨(List.drop_suffix _ _).trans (List.suffix_cons ..),by simp;omega⟩
  ·split at h
   ·cases h
   ·simp only[Al1,Al8] at h
    obtain⟨_,rfl⟩:=h
    exact⟨List.suffix_cons ..,by simp⟩
theorem zgY {may:UInt8→Bool}:∀(n:Nat) (t:List UInt8) (q q':Sd) (t':List UInt8),zad may n t q=some (q',t')→t' <:+ t∧t'.length<t.length
 | 0,_,_,_,_,h=>by cases h
 | _+1,[],_,_,_,h=>by cases h
 | n+1,c::t,q,q',t',h=>by
  simp only[zad] at h
  split at h
  ·simp only[Al1,Al8] at h
   obtain⟨_,rfl⟩:=h
   exact⟨List.suffix_cons ..,by simp⟩
  ·split at h
   ·cases he:Yl q t with
    | none=>simp[he] at h
    | some x =>
     obtain⟨q1,t1⟩:=x
     simp only[he] at h
     have h1:=zeo he
     have h2:=zgY n t1 q1 q' t' h
     exact⟨(h2.1.trans h1.1).trans (List.suffix_cons ..),by simp;omega⟩
   ·split at h
    ·have h2:=zgY n t _ q' t' h
     exact⟨h2.1.trans (List.suffix_cons ..),by simp;omega⟩
    ·cases h
theorem zjq {may:UInt8→Bool} {t t' b:List UInt8} (h:ZL may t=some (b,t')):t' <:+ t∧t'.length<t.length:=by
 unfold ZL at h
 split at h
 ·rename_i q t1 hq
  split at h
  ·cases h;exact zgY _ _ _ _ _ hq
  ·cases h
 ·cases h
theorem zau:∀(n:Nat) (t:List UInt8) (u v:Nat),ZN n t u=some v→n≤t.length
 | 0,_,_,_,_=>Nat.zero_le _
 | n+1,[],_,_,h=>by cases h
 | n+1,c::t,u,v,h=>by
  simp only[ZN] at h
  split at h
  ·cases h
  ·have:=zau n t _ v h;simp;omega
theorem Y7 (n:Nat):(Zz n).length≤4∧(n≤65535→(Zz n).length≤3):=by
 unfold Zz
 split
 ·simp
 ·split
  ·simp
  ·split
   ·simp
   ·refine⟨by simp,fun h=>by omega⟩
theorem zat:∀(u:List Nat) (s:List UInt8),zX u=some s→s.length≤3*u.length
 | [],s,h=>by cases h;simp
 | u::[],s,h=>by
  simp only[zX] at h
  split at h
  ·cases h
  ·rename_i h1
   split at h
   ·cases h
   ·simp only[yS,Al1] at h
    subst h
    have:=(Y7 u).2 (by omega)
    simp;omega
 | u::v::r,s,h=>by
  rw[zX] at h
  split at h
  ·cases h
  ·rename_i h1
   split at h
   ·split at h
    ·cases h
    ·cases hr:zX r with
     | none=>simp[hr] at h
     | some x =>
      simp only[hr,yS,Al1] at h
      subst h
      have h2:=zat r x hr
      have h3:=(Y7 (65536+1024*(u-55296)+(v-56320))).1
      simp only[Al5,Al2];omega
   ·cases hr:zX (v::r) with
    | none=>simp[hr] at h
    | some x =>
     simp only[hr,yS,Al1] at h
     subst h
     have h2:=zat (v::r) x hr
     have h3:=(Y7 u).2 (by omega)
     simp only[Al5,Al2] at h2 ⊢;omega
def Sd.w (q:Sd):Nat:=q.b.length+3*q.u.length
theorem zeA (q:Sd):(yD q).b.length≤q.w:=by
 unfold yD Sd.w
 cases h:zX q.u with
 | none=>simp
 | some s=>have:=zat _ _ h;simp;omega
theorem zo6 (q:Sd) (c:UInt8):(q.put c).w≤q.w+1:=by
 have:=zeA q
 simp only[Sd.put,Sd.w,Al5,Al2,Al3] at this ⊢;omega
theorem zpd {q q':Sd} {t t':List UInt8} (h:Yl q t=some (q',t')):q'.w+t'.length≤q.w+t.length:=by
 cases t with
 | nil=>cases h
 | cons c t =>
  simp only[Yl] at h
  split at h
  ·cases hu:Yb t with
   | none=>simp[hu] at h
   | some u =>
    simp only[hu,yS,Al1,Al8] at h
    obtain⟨rfl,rfl⟩:=h
    have:=zau _ _ _ _ hu
    simp only[Sd.w,Al5,Al2,Al3,yH];omega
  ·split at h
   ·cases h
   ·simp only[Al1,Al8] at h
    obtain⟨rfl,rfl⟩:=h
    have:=zo6 q (zkT.getD (Lib.indexByte zaR c).toNat 0)
    simp only[Al2];omega
theorem zla {may:UInt8→Bool}:∀(n:Nat) (t:List UInt8) (q q':Sd) (t':List UInt8),zad may n t q=some (q',t')→q'.b.length+t'.length+1≤q.w+t.length
 | 0,_,_,_,_,h=>by cases h
 | _+1,[],_,_,_,h=>by cases h
 | n+1,c::t,q,q',t',h=>by
  simp only[zad] at h
  split at h
  ·simp only[Al1,Al8] at h
   obtain⟨rfl,rfl⟩:=h
   have:=zeA q
   simp only[Al2];omega
  ·split at h
   ·cases he:Yl q t with
    | none=>simp[he] at h
    | some x =>
     obtain⟨q1,t1⟩:=x
     simp only[he] at h
     have h1:=zpd he
     have h2:=zla n t1 q1 q' t' h
     simp only[Al2];omega
   ·split at h
    ·have h2:=zla n t _ q' t' h
     have h3:=zo6 q c
     simp only[Al2];omega
    ·cases h
theorem zsp {may:UInt8→Bool} {t t' b:List UInt8} (h:ZL may t=some (b,t')):b.length+t'.length+1≤t.length:=by
 unfold ZL at h
 split at h
 ·rename_i q t1 hq
  split at h
  ·cases h;have:=zla _ _ _ _ _ hq;simpa[Sd.w] using this
  ·cases h
 ·cases h
theorem ziY:inR 0:=by simp[inR]
theorem zmH {s:List UInt8} {n:Int} (h:Lib.parseIntB 64 s=.ok n):inR n:=by
 cases s with
 | nil=>cases h
 | cons c r =>
  simp only[Lib.parseIntB] at h
  split at h
  ·cases h
  ·cases h
  ·split at h
   ·cases h
   ·split at h
    ·cases h
    ·rename_i h1 h2
     cases h
     simp only[inR]
     split<;>simp_all<;>omega
theorem znq (s:List UInt8):bV (zgK s)≤1+s.length∧wfV (zgK s):=by
 unfold zgK
 split
 ·rename_i h
  refine⟨by simp only[bV,bVs,bMs,Al3];omega,?_,trivial,trivial⟩
  unfold zaD at h
  unfold zhk
  rcases hp:Lib.parseIntB 64 s with v|_|_
  ·exact zmH hp
  ·exact ziY
  ·rw[hp] at h;simp[okI] at h
 ·exact⟨by simp only[bV,bVs,bMs];omega,ziY,trivial,trivial⟩
abbrev TS:=List Tok
def hdT (t:TS):Tok:=t.headD ⟨0,[]⟩
def isP (m:List UInt8) (t:TS):Bool:=decide ((hdT t).k=1)&&decide ((hdT t).s=m)
def isW (w:List UInt8) (t:TS):Bool:=decide ((hdT t).k=2)&&decide ((hdT t).s=w)
abbrev PR (α:Type):=Except Int (α×TS)
def pb {α β:Type} (x:PR α) (f:α→TS→PR β):PR β:=match x with
 | .ok (a,t)=>f a t
 | .error e=>.error e
theorem zJ {α β:Type} (a:α) (t:TS) (f:α→TS→PR β):pb (.ok (a,t)) f=f a t:=rfl
def ZY (m:List UInt8) (t:TS):PR Unit:=if isP m t then .ok ((),t.tail) else .error 2
def yP (t:TS):PR (List UInt8):=if (hdT t).k=2 then .ok ((hdT t).s,t.tail) else .error 2
def Yz (w:List UInt8) (t:TS):TS:=if isW w t then t.tail else t
def yK {α:Type} (m:List UInt8) (f:TS→PR α):Nat→List α→TS→PR (List α)
 | 0,_,_=>.error 0
 | n+1,l,t=>if isP m t then .ok (l,t.tail) else pb (f t) fun x t=>yK m f n (l++[x]) t
def Z1 {α:Type} (m:List UInt8) (f:TS→PR α) (t:TS):PR (List α):=pb (f t) fun x t=>yK m f (t.length+1) [x] t
def zaf {α:Type} (m:List UInt8) (f:TS→PR α):Nat→List α→TS→PR (List α)
 | 0,_,_=>.error 0
 | n+1,l,t=>if isP m t then pb (f t.tail) fun x t=>zaf m f n (l++[x]) t else .ok (l,t)
def zck (ty:TyD) (t:TS):PR TyD:=if isP [33] t then .ok (⟨ty.nm,ty.lists,ty.musts+1⟩,t.tail) else .ok (ty,t)
def znS {α:Type} (f:Nat→α):Nat→Option α
 | 0=>none
 | k+1=>some (f k)
theorem zlH {α:Type} (f:Nat→α) (k:Nat):znS f (k+1)=some (f k):=rfl
def zfK (sub:Option (TS→PR TyD)) (t:TS):PR TyD:=if isP [91] t then (match sub with
   | none=>.error 4
   | some f=>pb (f t.tail) fun ty t=>pb (ZY [93] t) fun _ t=>zck ⟨ty.nm,ty.lists+1,ty.musts*2⟩ t)
  else pb (yP t) fun s t=>zck ⟨s,0,0⟩ t
def zcl:Nat→TS→PR TyD
 | 0=>zfK none
 | k+1=>zfK (some (zcl k))
theorem zar (k:Nat) (t:TS):zcl k t=zfK (znS zcl k) t:=by cases k<;>rfl
def Z9 (s:List UInt8):Val:=if s=[110,117,108,108] then zV else if s=[116,114,117,101] then .mk 1 1 [] [] [] else if s=[102,97,108,115,101] then .mk 1 0 [] [] [] else .mk 5 0 s [] []
def yW (v:TS→PR Val) (t:TS):PR Mem:=pb (yP t) fun s t=>pb (ZY [58] t) fun _ t=>pb (v t) fun x t=>.ok (.mk s x,t)
def za6 (fixed:Bool) (sub:Option (TS→PR Val)) (t:TS):PR Val :=
  if (hdT t).k=2 then .ok (Z9 (hdT t).s,t.tail)
  else if (hdT t).k=3∨(hdT t).k=4 then .ok (zgK (hdT t).s,t.tail)
  else if (hdT t).k=5 then .ok (.mk 4 0 (hdT t).s [] [],t.tail)
  else if isP [91] t then (match sub with
   | none=>.error 4
   | some f=>pb (yK [93] f (t.tail.length+1) [] t.tail) fun l t=>.ok (.mk 6 0 [] l [],t))
  else if isP [123] t then (match sub with
   | none=>.error 4
   | some f=>pb (yK [125] (yW f) (t.tail.length+1) [] t.tail) fun l t=>.ok (.mk 7 0 [] [] l,t))
  else if fixed then .error 2
  else pb (ZY [36] t) fun _ t=>pb (yP t) fun s t=>.ok (.mk 8 0 s [] [],t)
def ZA (fixed:Bool):Nat→TS→PR Val
 | 0=>za6 fixed none
 | k+1=>za6 fixed (some (ZA fixed k))
theorem y9 (fixed:Bool) (k:Nat) (t:TS):ZA fixed k t=za6 fixed (znS (ZA fixed) k) t:=by cases k<;>rfl
def Y2 (fixed:Bool) (k:Nat) (t:TS):PR (List Mem):=if isP [40] t then Z1 [41] (yW (ZA fixed k)) t.tail else .ok ([],t)
def zf7 (fixed:Bool) (k:Nat) (t:TS):PR DirD:=pb (yP t) fun s t=>pb (Y2 fixed k t) fun a t=>.ok (⟨s,a⟩,t)
def Ya (fixed:Bool) (k:Nat) (t:TS):PR (List DirD):=zaf [64] (zf7 fixed k) (t.length+1) [] t
def ZG (sels:TS→PR (List SelD)) (k:Nat) (t:TS):PR SelD :=
 if (hdT t).k=2∧isW [111,110] t=false then pb (yP t) fun s t=>pb (Ya false k t) fun d t=>.ok (.mk 1 [] s [] d [] [],t)
 else pb (if isW [111,110] t then yP t.tail else .ok ([],t)) fun o t=>pb (Ya false k t) fun d t=>pb (sels t) fun l t=>.ok (.mk 2 [] [] [] d o l,t)
def zaQ (sels:TS→PR (List SelD)) (k:Nat) (t:TS):PR SelD :=
 if isP [46,46,46] t then ZG sels k t.tail
 else pb (yP t) fun s t=>pb (if isP [58] t then pb (yP t.tail) fun s2 t=>.ok ((s,s2),t) else .ok (([],s),t)) fun an t =>
  pb (Y2 false k t) fun a t=>pb (Ya false k t) fun d t=>pb (if isP [123] t then sels t else .ok ([],t)) fun l t=>.ok (.mk 0 an.1 an.2 a d [] l,t)
def yo:Nat→TS→PR (List SelD)
 | 0,t=>if isP [123] t then .error 4 else .error 2
 | k+1,t=>if isP [123] t then Z1 [125] (zaQ (yo k) k) t.tail else .error 2
def zao (t:TS):PR VarD:=pb (ZY [36] t) fun _ t=>pb (yP t) fun s t=>pb (ZY [58] t) fun _ t=>pb (zcl 4 t) fun ty t =>
 if isP [61] t then pb (ZA true 16 t.tail) fun v t=>.ok (⟨s,ty,true,v⟩,t) else .ok (⟨s,ty,false,zV⟩,t)
def opP (kind:Int) (t:TS):PR OpD :=
 pb (if (hdT t).k=2 then yP t else .ok ([],t)) fun s t=>pb (if isP [40] t then Z1 [41] zao t.tail else .ok ([],t)) fun vs t =>
 pb (Ya true 16 t) fun d t=>pb (yo 16 t) fun l t=>.ok (⟨kind,s,vs,d,l⟩,t)
def zdn (t:TS):PR FragD :=
 pb (if isW [111,110] t then .error 2 else yP t) fun s t=>pb (if isW [111,110] t then .ok ((),t.tail) else .error 2) fun _ t=>pb (yP t) fun o t =>
 pb (Ya true 16 t) fun d t=>pb (yo 16 t) fun l t=>.ok (⟨s,o,d,l⟩,t)
def Yp (d:DocD) (t:TS):PR DocD :=
 if isP [123] t then pb (yo 16 t) fun l t=>.ok (⟨d.ops++[⟨0,[],[],[],l⟩],d.frags⟩,t)
 else if isW [113,117,101,114,121] t then pb (opP 0 t.tail) fun o t=>.ok (⟨d.ops++[o],d.frags⟩,t)
 else if isW [109,117,116,97,116,105,111,110] t then pb (opP 1 t.tail) fun o t=>.ok (⟨d.ops++[o],d.frags⟩,t)
 else if isW [102,114,97,103,109,101,110,116] t then pb (zdn t.tail) fun f t=>.ok (⟨d.ops,d.frags++[f]⟩,t)
 else .error 2
def zbn:Nat→DocD→TS→PR DocD
 | 0,_,_=>.error 0
 | n+1,d,t=>if t=[] then .ok (d,t) else pb (Yp d t) fun d t=>zbn n d t
def zfg (t:TS):PR DocD:=pb (Yp ⟨[],[]⟩ t) fun d t=>zbn (t.length+1) d t
def wK (t:Tok):Nat:=t.s.length+4
def wT (l:TS):Nat:=(l.map wK).sum
theorem zjc (x:Tok) (l:TS):wT (x::l)=wK x+wT l:=by simp[wT]
structure Fp {α:Type} (b:α→Nat) (ok:α→Prop) (c:Nat) (t:TS) (a:α) (t':TS):Prop where
 suf:t' <:+ t
 w:b a+c+wT t'≤wT t
 ok:ok a
def GP {α:Type} (b:α→Nat) (ok:α→Prop) (c:Nat) (f:TS→PR α):Prop:=∀ t a t',f t=.ok (a,t')→Fp b ok c t a t'
theorem Fp.lt {α:Type} {b:α→Nat} {ok:α→Prop} {c:Nat} {t t':TS} {a:α} (h:Fp b ok c t a t') (hc:0<c):t'.length<t.length:=by
 obtain⟨p,hp⟩:=h.suf
 have h2:=h.w
 cases p with
 | nil=>simp at hp;subst hp;omega
 | cons x p=>rw[← hp];simp;omega
theorem YX {t:TS} (h:(hdT t).k≠0):t=hdT t::t.tail:=by
 cases t with
 | nil=>exact absurd rfl h
 | cons x t=>rfl
theorem zgh {m:List UInt8} {t:TS} (h:isP m t=true):(hdT t).k≠0:=by
 simp only[isP,Al0,z7] at h;rw[h.1];decide
theorem zcK {m:List UInt8} {t:TS} (h:isW m t=true):(hdT t).k≠0:=by
 simp only[isW,Al0,z7] at h;rw[h.1];decide
theorem zeF {t:TS} (h:(hdT t).k≠0):t.tail <:+ t∧(hdT t).s.length+4+wT t.tail=wT t:=by
 refine⟨List.tail_suffix t,?_⟩
 conv=>rhs;rw[YX h,zjc]
 rfl
theorem YM {m:List UInt8} {t:TS} (h:isP m t=true):t.tail <:+ t∧4+wT t.tail≤wT t:=by
 have:=zeF (zgh h);exact⟨this.1,by omega⟩
theorem zef {m:List UInt8} {t:TS} (h:isW m t=true):t.tail <:+ t∧4+wT t.tail≤wT t:=by
 have:=zeF (zcK h);exact⟨this.1,by omega⟩
def T1 {α:Type} (_:α):Prop:=True
def b0 {α:Type} (_:α):Nat:=0
theorem zbh (m:List UInt8):GP b0 T1 4 (ZY m):=fun t a t' h=>by
 unfold ZY at h
 split at h
 ·rename_i hp;simp only[zmW,Al8] at h;obtain⟨_,rfl⟩:=h
  have:=YM hp;exact⟨this.1,by simp only[b0];omega,trivial⟩
 ·cases h
theorem Ze:GP List.length T1 4 yP:=fun t a t' h=>by
 unfold yP at h
 split at h
 ·rename_i hp;simp only[zmW,Al8] at h;obtain⟨rfl,rfl⟩:=h
  have:=zeF (t:=t) (by rw[hp];decide);exact⟨this.1,by omega,trivial⟩
 ·cases h
theorem zZ {α β:Type} {x:PR α} {f:α→TS→PR β} {b:β} {t':TS} (h:pb x f=.ok (b,t')):∃ a t,x=.ok (a,t)∧f a t=.ok (b,t'):=by
 rcases x with e|⟨a,t⟩
 ·cases h
 ·exact⟨a,t,rfl,h⟩
def sm {α:Type} (b:α→Nat) (l:List α):Nat:=(l.map b).sum+l.length
theorem zl6 {α:Type} (b:α→Nat) (l:List α) (x:α):sm b (l++[x])=sm b l+b x+1:=by simp[sm];omega
theorem zem {α:Type} {ok:α→Prop} {l:List α} {x:α} (h:∀ y∈l,ok y) (hx:ok x):∀ y∈l++[x],ok y:=fun y hy=>by
 rcases List.mem_append.1 hy with h1|h1
 ·exact h y h1
 ·simp at h1;subst h1;exact hx
theorem zcN {α:Type} {b:α→Nat} {ok:α→Prop} {m:List UInt8} {f:TS→PR α} (hf:GP b ok 1 f):∀(n:Nat) (l:List α) (t:TS) (l':List α) (t':TS),(∀ x∈l,ok x)→yK m f n l t=.ok (l',t')→t' <:+ t∧sm b l'+4+wT t'≤sm b l+wT t∧∀ x∈l',ok x
 | 0,_,_,_,_,_,h=>by cases h
 | n+1,l,t,l',t',hl,h=>by
  simp only[yK] at h
  split at h
  ·rename_i hp;simp only[zmW,Al8] at h;obtain⟨rfl,rfl⟩:=h
   have:=YM hp;exact⟨this.1,by omega,hl⟩
  ·obtain⟨x,t1,h1,h2⟩:=zZ h
   have g1:=hf _ _ _ h1
   have w:=g1.w
   have g2:=zcN hf n _ _ _ _ (zem hl g1.ok) h2
   rw[zl6] at g2
   exact⟨g2.1.trans g1.suf,by omega,g2.2.2⟩
theorem zgo {α:Type} {b:α→Nat} {ok:α→Prop} {m:List UInt8} {f:TS→PR α} (hf:GP b ok 1 f):∀(n:Nat) (l:List α) (t:TS) (l':List α) (t':TS),(∀ x∈l,ok x)→zaf m f n l t=.ok (l',t')→t' <:+ t∧sm b l'+wT t'≤sm b l+wT t∧∀ x∈l',ok x
 | 0,_,_,_,_,_,h=>by cases h
 | n+1,l,t,l',t',hl,h=>by
  simp only[zaf] at h
  split at h
  ·rename_i hp
   have h0:=YM hp
   obtain⟨x,t1,h1,h2⟩:=zZ h
   have g1:=hf _ _ _ h1
   have w:=g1.w
   have g2:=zgo hf n _ _ _ _ (zem hl g1.ok) h2
   rw[zl6] at g2
   exact⟨(g2.1.trans g1.suf).trans h0.1,by omega,g2.2.2⟩
  ·simp only[zmW,Al8] at h;obtain⟨rfl,rfl⟩:=h
   exact⟨List.suffix_refl t,by omega,hl⟩
theorem zdG {α:Type} {b:α→Nat} {ok:α→Prop} {m:List UInt8} {f:TS→PR α} (hf:GP b ok 1 f):GP (sm b) (fun l=>∀ x∈l,ok x) 4 (Z1 m f):=fun t l t' h=>by
 obtain⟨x,t1,h1,h2⟩:=zZ h
 have g1:=hf _ _ _ h1
 have w:=g1.w
 have g2:=zcN hf _ [x] _ _ _ (fun y hy=>by simp at hy;subst hy;exact g1.ok) h2
 have e:sm b [x]=b x+1:=by simp[sm]
 exact⟨g2.1.trans g1.suf,by omega,g2.2.2⟩
theorem ziM {m:List UInt8} {t:TS} (h:isP m t=true):t.tail.length<t.length:=by
 conv=>rhs;rw[YX (zgh h)]
 simp
theorem GP.lt {α:Type} {b:α→Nat} {ok:α→Prop} {c:Nat} {f:TS→PR α} (h:GP b ok c f) (hc:0<c):∀ t a t',f t=.ok (a,t')→t'.length<t.length:=fun t a t' e=>(h t a t' e).lt hc
def ztP (ty:TyD) (n:Nat):Prop:=0≤ty.lists∧ty.lists≤n∧0≤ty.musts∧ty.musts<2 ^ (ty.lists.toNat+1)∧ty.musts % 2=0
def zj9 (n:Nat) (ty:TyD):Prop:=0≤ty.lists∧ty.lists≤n∧0≤ty.musts∧ty.musts<2 ^ (ty.lists.toNat+1)
theorem zhs {ty:TyD} {n:Nat} (h:ztP ty n):∀ t a t',zck ty t=.ok (a,t')→t' <:+ t∧a.nm=ty.nm∧wT t'≤wT t∧zj9 n a:=fun t a t' e=>by
 obtain⟨h1,h2,h3,h4,h5⟩:=h
 unfold zck at e
 split at e
 ·rename_i hp;simp only[zmW,Al8] at e;obtain⟨rfl,rfl⟩:=e
  have:=YM hp
  refine⟨this.1,rfl,by omega,h1,h2,by simp only;omega,?_⟩
  have e2:(2:Int) ^ (ty.lists.toNat+1) % 2=0:=by rw[Int.pow_succ];omega
  simp only;omega
 ·simp only[zmW,Al8] at e;obtain⟨rfl,rfl⟩:=e
  exact⟨List.suffix_refl t,rfl,Al4 _,h1,h2,h3,h4⟩
theorem zh9 (n:Nat) (ih:∀ m,n=m+1→GP (fun ty=>ty.nm.length) (zj9 m) 4 (zcl m)):GP (fun ty=>ty.nm.length) (zj9 n) 4 (zcl n):=fun t a t' h=>by
 rw[zar,zfK.eq_def] at h
 split at h
 ·rename_i hp
  have h0:=YM hp
  cases n with
  | zero=>cases h
  | succ n =>
   obtain⟨ty,t1,h1,h2⟩:=zZ h
   obtain⟨_,t2,h3,h4⟩:=zZ h2
   have g1:=ih n rfl _ _ _ h1
   have g3:=zbh _ _ _ _ h3
   obtain⟨a1,a2,a3,a4⟩:=g1.ok
   have e1:(ty.lists+1).toNat=ty.lists.toNat+1:=by omega
   have g4:=zhs (n:=n+1) ⟨by simp only;omega,by simp only;omega,by simp only;omega,by simp only;rw[e1,Int.pow_succ];omega,by simp only;omega⟩ _ _ _ h4
   have w1:=g1.w
   have w3:=g3.w
   simp only[b0] at w1 w3
   exact⟨((g4.1.trans g3.suf).trans g1.suf).trans h0.1,by rw[g4.2.1];simp only;omega,g4.2.2.2⟩
 ·obtain⟨s,t1,h1,h2⟩:=zZ h
  have g1:=Ze _ _ _ h1
  have g4:=zhs (n:=n) ⟨by simp,by simp,by simp,by simp,by simp⟩ _ _ _ h2
  have w1:=g1.w
  exact⟨g4.1.trans g1.suf,by rw[g4.2.1];simp only;omega,g4.2.2.2⟩
theorem zgb:∀ n,GP (fun ty=>ty.nm.length) (zj9 n) 4 (zcl n)
 | 0=>zh9 0 fun m h=>by cases h
 | k+1=>zh9 (k+1) fun m h=>by cases h;exact zgb k
def wfD (x:DirD):Prop:=zmC x.args
def zpH (l:List DirD):Prop:=∀ x∈l,wfD x
mutual
def wfS:SelD→Prop
 | .mk _ _ _ args dirs _ sels=>zmC args∧zpH dirs∧zka sels
def zka:List SelD→Prop
 | []=>True
 | x::r=>wfS x∧zka r
end
def wfW (x:VarD):Prop:=inR x.t.lists∧inR x.t.musts∧wfV x.d
def wfO (x:OpD):Prop:=(∀ y∈x.vars,wfW y)∧zpH x.dirs∧zka x.sels
def wfF (x:FragD):Prop:=zpH x.dirs∧zka x.sels
def zgH (d:DocD):Prop:=(∀ x∈d.ops,wfO x)∧∀ x∈d.frags,wfF x
def pk (s:List UInt8):Tok:=⟨1,s⟩
def wk (s:List UInt8):Tok:=⟨2,s⟩
def zs4 (l:List Mem):List Tok:=if l.length=0 then [] else pk [40]::(zof l++[pk [41]])
def tD (d:DirD):List Tok:=pk [64]::wk d.nm::zs4 d.args
theorem zja:bV zV=1∧wfV zV:=⟨rfl,ziY,trivial,trivial⟩
theorem zmG (s:List UInt8):bV (Z9 s)≤1+s.length∧wfV (Z9 s):=by
 unfold Z9
 split
 ·exact⟨by rw[zja.1];omega,zja.2⟩
 split
 ·exact⟨by simp only[bV,bVs,bMs,Al3];omega,by simp[inR],trivial,trivial⟩
 split
 ·exact⟨by simp only[bV,bVs,bMs,Al3];omega,ziY,trivial,trivial⟩
 ·exact⟨by simp only[bV,bVs,bMs];omega,ziY,trivial,trivial⟩
theorem yQ {f:TS→PR Val} (hf:GP bV wfV 1 f):GP bM wfM 1 (yW f):=fun t x t' h=>by
 obtain⟨s,t1,h1,h2⟩:=zZ h
 obtain⟨_,t2,h3,h4⟩:=zZ h2
 obtain⟨v,t3,h5,h6⟩:=zZ h4
 cases h6
 have g1:=Ze _ _ _ h1
 have g2:=zbh _ _ _ _ h3
 have g3:=hf _ _ _ h5
 have w1:=g1.w
 have w2:=g2.w
 have w3:=g3.w
 simp only[b0] at w2
 exact⟨(g3.suf.trans g2.suf).trans g1.suf,by simp only[bM];omega,g3.ok⟩
theorem zoi:∀ l:List Val,bVs l+l.length=sm bV l
 | []=>rfl
 | v::r=>by have:=zoi r;simp only[sm,bVs,Al2,List.map_cons,List.sum_cons] at *;omega
theorem zkG:∀ l:List Mem,bMs l+l.length=sm bM l
 | []=>rfl
 | v::r=>by have:=zkG r;simp only[sm,bMs,Al2,List.map_cons,List.sum_cons] at *;omega
theorem zlq:∀ {l:List Val},(∀ v∈l,wfV v)→zr3 l
 | [],_=>trivial
 | v::r,h=>⟨h v (.head _),zlq fun x hx=>h x (.tail _ hx)⟩
theorem ziU:∀ {l:List Mem},(∀ v∈l,wfM v)→zmC l
 | [],_=>trivial
 | v::r,h=>⟨h v (.head _),ziU fun x hx=>h x (.tail _ hx)⟩
theorem zhN (fixed:Bool) (k:Nat) (ih:∀ n,k=n+1→GP bV wfV 1 (ZA fixed n)):GP bV wfV 1 (ZA fixed k):=fun t v t' h=>by
 rw[y9,za6.eq_def] at h
 split at h
 ·rename_i hk
  cases h
  have h0:=zeF (t:=t) (by omega)
  have h1:=zmG (hdT t).s
  exact⟨h0.1,by omega,h1.2⟩
 split at h
 ·rename_i hk
  cases h
  have h0:=zeF (t:=t) (by omega)
  have h1:=znq (hdT t).s
  exact⟨h0.1,by omega,h1.2⟩
 split at h
 ·rename_i hk
  cases h
  have h0:=zeF (t:=t) (by omega)
  exact⟨h0.1,by simp only[bV,bVs,bMs];omega,ziY,trivial,trivial⟩
 split at h
 ·rename_i hp
  have h0:=YM hp
  cases k with
  | zero=>cases h
  | succ n =>
   obtain⟨l,t1,h1,h2⟩:=zZ h
   cases h2
   have g:=zcN (ih n rfl) _ [] _ _ _ (fun x hx=>by cases hx) h1
   have e:=zoi l
   have e0:sm bV []=0:=rfl
   exact⟨g.1.trans h0.1,by simp only[bV,bMs,Al3];omega,ziY,zlq g.2.2,trivial⟩
 split at h
 ·rename_i hp
  have h0:=YM hp
  cases k with
  | zero=>cases h
  | succ n =>
   obtain⟨l,t1,h1,h2⟩:=zZ h
   cases h2
   have g:=zcN (yQ (ih n rfl)) _ [] _ _ _ (fun x hx=>by cases hx) h1
   have e:=zkG l
   have e0:sm bM []=0:=rfl
   exact⟨g.1.trans h0.1,by simp only[bV,bVs,Al3];omega,ziY,trivial,ziU g.2.2⟩
 split at h
 ·cases h
 ·obtain⟨_,t1,h1,h2⟩:=zZ h
  obtain⟨s,t2,h3,h4⟩:=zZ h2
  cases h4
  have g1:=zbh _ _ _ _ h1
  have g2:=Ze _ _ _ h3
  have w1:=g1.w
  have w2:=g2.w
  simp only[b0] at w1
  exact⟨g2.suf.trans g1.suf,by simp only[bV,bVs,bMs];omega,ziY,trivial,trivial⟩
theorem y8 (fixed:Bool):∀ k,GP bV wfV 1 (ZA fixed k)
 | 0=>zhN fixed 0 fun n h=>by cases h
 | k+1=>zhN fixed (k+1) fun n h=>by cases h;exact y8 fixed k
theorem zh5 (fixed:Bool) (k:Nat):GP bMs zmC 0 (Y2 fixed k):=fun t a t' h=>by
 unfold Y2 at h
 split at h
 ·rename_i hp
  have h0:=YM hp
  have g:=zdG (yQ (y8 fixed k)) _ _ _ h
  have e:=zkG a
  have w:=g.w
  exact⟨g.suf.trans h0.1,by omega,ziU g.ok⟩
 ·cases h
  exact⟨List.suffix_refl t,by simp[bMs],trivial⟩
theorem zcc (fixed:Bool) (k:Nat):GP bD wfD 1 (zf7 fixed k):=fun t a t' h=>by
 obtain⟨s,t1,h1,h2⟩:=zZ h
 obtain⟨l,t2,h3,h4⟩:=zZ h2
 cases h4
 have g1:=Ze _ _ _ h1
 have g2:=zh5 fixed k _ _ _ h3
 have w1:=g1.w
 have w2:=g2.w
 exact⟨g2.suf.trans g1.suf,by simp only[bD];omega,g2.ok⟩
theorem zrH (l:List DirD):bDs l+l.length=sm bD l:=rfl
theorem zbi (fixed:Bool) (k:Nat):GP bDs zpH 0 (Ya fixed k):=fun t a t' h=>by
 have g:=zgo (zcc fixed k) _ [] _ _ _ (fun x hx=>by cases hx) h
 have e:=zrH a
 have e0:sm bD []=0:=rfl
 exact⟨g.1,by omega,g.2.2⟩
theorem zoB:∀ l:List SelD,bSs l+l.length=sm bS l
 | []=>rfl
 | v::r=>by have:=zoB r;simp only[sm,bSs,Al2,List.map_cons,List.sum_cons] at *;omega
theorem zlS:∀ {l:List SelD},(∀ v∈l,wfS v)→zka l
 | [],_=>trivial
 | v::r,h=>⟨h v (.head _),zlS fun x hx=>h x (.tail _ hx)⟩
theorem zbq {k:Nat} {sels:TS→PR (List SelD)} (hs:GP bSs zka 4 sels):GP bS wfS 1 (zaQ sels k):=fun t a t' h=>by
 unfold zaQ at h
 split at h
 ·rename_i hp
  have h0:=YM hp
  unfold ZG at h
  split at h
  ·obtain⟨s,t1,h1,h2⟩:=zZ h
   obtain⟨d,t2,h3,h4⟩:=zZ h2
   cases h4
   have g1:=Ze _ _ _ h1
   have g2:=zbi false k _ _ _ h3
   have w1:=g1.w
   have w2:=g2.w
   exact⟨(g2.suf.trans g1.suf).trans h0.1,by simp only[bS,bMs,bSs,Al3];omega,trivial,g2.ok,trivial⟩
  ·obtain⟨o,t1,h1,h2⟩:=zZ h
   obtain⟨d,t2,h3,h4⟩:=zZ h2
   obtain⟨l,t3,h5,h6⟩:=zZ h4
   cases h6
   have g1:t1 <:+ t.tail∧o.length+wT t1≤wT t.tail:=by
    split at h1
    ·rename_i hw
     have h7:=zef hw
     have g:=Ze _ _ _ h1
     have w:=g.w
     exact⟨g.suf.trans h7.1,by omega⟩
    ·cases h1;exact⟨List.suffix_refl _,by simp⟩
   have g2:=zbi false k _ _ _ h3
   have g3:=hs _ _ _ h5
   have w2:=g2.w
   have w3:=g3.w
   exact⟨((g3.suf.trans g2.suf).trans g1.1).trans h0.1,by simp only[bS,bMs,Al3];omega,trivial,g2.ok,g3.ok⟩
 ·obtain⟨s,t1,h1,h2⟩:=zZ h
  obtain⟨an,t2,h3,h4⟩:=zZ h2
  obtain⟨l,t3,h5,h6⟩:=zZ h4
  obtain⟨d,t4,h7,h8⟩:=zZ h6
  obtain⟨ss,t5,h9,h10⟩:=zZ h8
  cases h10
  have g1:=Ze _ _ _ h1
  have g2:t2 <:+ t1∧an.1.length+an.2.length+wT t2≤s.length+wT t1:=by
   split at h3
   ·rename_i hw
    have h7:=YM hw
    obtain⟨s2,t6,h11,h12⟩:=zZ h3
    cases h12
    have g:=Ze _ _ _ h11
    have w:=g.w
    exact⟨g.suf.trans h7.1,by simp only;omega⟩
   ·cases h3;exact⟨List.suffix_refl _,by simp⟩
  have g3:=zh5 false k _ _ _ h5
  have g4:=zbi false k _ _ _ h7
  have g5:t' <:+ t4∧bSs ss+wT t'≤wT t4∧zka ss:=by
   split at h9
   ·have g:=hs _ _ _ h9
    have w:=g.w
    exact⟨g.suf,by omega,g.ok⟩
   ·cases h9;exact⟨List.suffix_refl _,by simp[bSs],trivial⟩
  have w1:=g1.w
  have w3:=g3.w
  have w4:=g4.w
  exact⟨(((g5.1.trans g4.suf).trans g3.suf).trans g2.1).trans g1.suf,by simp only[bS,Al3];omega,g3.ok,g4.ok,g5.2.2⟩
theorem Zr:∀ k,GP bSs zka 4 (yo k)
 | 0=>fun t a t' h=>by rw[yo] at h;split at h<;>cases h
 | k+1=>fun t a t' h=>by
  rw[yo] at h
  split at h
  ·rename_i hp
   have h0:=YM hp
   have g:=zdG (zbq (k:=k) (Zr k)) _ _ _ h
   have e:=zoB a
   have w:=g.w
   exact⟨g.suf.trans h0.1,by omega,zlS g.ok⟩
  ·cases h
theorem zhX {n:Int} (h0:0≤n) (h1:n<64):inR n:=by simp only[inR];omega
theorem zp1 {ty:TyD} (h:zj9 4 ty):inR ty.lists∧inR ty.musts:=by
 obtain⟨h1,h2,h3,h4⟩:=h
 refine⟨zhX h1 (by omega),zhX h3 ?_⟩
 have:ty.lists.toNat+1≤5:=by omega
 have h5:(2:Int) ^ (ty.lists.toNat+1)≤2 ^ 5:=by exact_mod_cast Nat.pow_le_pow_right (by decide) this
 omega
theorem Y5:GP bW wfW 1 zao:=fun t a t' h=>by
 obtain⟨_,t1,h1,h2⟩:=zZ h
 obtain⟨s,t2,h3,h4⟩:=zZ h2
 obtain⟨_,t3,h5,h6⟩:=zZ h4
 obtain⟨ty,t4,h7,h8⟩:=zZ h6
 have g1:=zbh _ _ _ _ h1
 have g2:=Ze _ _ _ h3
 have g3:=zbh _ _ _ _ h5
 have g4:=zgb 4 _ _ _ h7
 have w1:=g1.w
 have w2:=g2.w
 have w3:=g3.w
 have w4:=g4.w
 simp only[b0] at w1 w3
 have hw:=zp1 g4.ok
 split at h8
 ·rename_i hp
  have h0:=YM hp
  obtain⟨v,t5,h9,h10⟩:=zZ h8
  cases h10
  have g5:=y8 true 16 _ _ _ h9
  have w5:=g5.w
  exact⟨((((g5.suf.trans h0.1).trans g4.suf).trans g3.suf).trans g2.suf).trans g1.suf,by simp only[bW];omega,hw.1,hw.2,g5.ok⟩
 ·cases h8
  exact⟨((g4.suf.trans g3.suf).trans g2.suf).trans g1.suf,by simp only[bW,zja.1];omega,hw.1,hw.2,zja.2⟩
theorem zrA (l:List VarD):bWs l+l.length=sm bW l:=rfl
theorem zee (kind:Int):GP bO wfO 1 (opP kind):=fun t a t' h=>by
 obtain⟨s,t1,h1,h2⟩:=zZ h
 obtain⟨vs,t2,h3,h4⟩:=zZ h2
 obtain⟨d,t3,h5,h6⟩:=zZ h4
 obtain⟨l,t4,h7,h8⟩:=zZ h6
 cases h8
 have g1:t1 <:+ t∧s.length+wT t1≤wT t:=by
  split at h1
  ·have g:=Ze _ _ _ h1
   have w:=g.w
   exact⟨g.suf,by omega⟩
  ·cases h1;exact⟨List.suffix_refl _,by simp⟩
 have g2:t2 <:+ t1∧bWs vs+wT t2≤wT t1∧∀ x∈vs,wfW x:=by
  split at h3
  ·rename_i hp
   have h0:=YM hp
   have g:=zdG Y5 _ _ _ h3
   have w:=g.w
   have e:=zrA vs
   exact⟨g.suf.trans h0.1,by omega,g.ok⟩
  ·cases h3;exact⟨List.suffix_refl _,by simp[bWs],fun x hx=>(by cases hx)⟩
 have g3:=zbi true 16 _ _ _ h5
 have g4:=Zr 16 _ _ _ h7
 have w3:=g3.w
 have w4:=g4.w
 exact⟨((g4.suf.trans g3.suf).trans g2.1).trans g1.1,by simp only[bO];omega,g2.2.2,g3.ok,g4.ok⟩
theorem zeR:GP bF wfF 1 zdn:=fun t a t' h=>by
 obtain⟨s,t1,h1,h2⟩:=zZ h
 obtain⟨_,t2,h3,h4⟩:=zZ h2
 obtain⟨o,t3,h5,h6⟩:=zZ h4
 obtain⟨d,t4,h7,h8⟩:=zZ h6
 obtain⟨l,t5,h9,h10⟩:=zZ h8
 cases h10
 have g1:Fp List.length T1 4 t s t1:=by
  split at h1
  ·cases h1
  ·exact Ze _ _ _ h1
 have g2:t2 <:+ t1∧wT t2≤wT t1:=by
  split at h3
  ·rename_i hw
   cases h3
   have h0:=zef hw
   exact⟨h0.1,by omega⟩
  ·cases h3
 have g3:=Ze _ _ _ h5
 have g4:=zbi true 16 _ _ _ h7
 have g5:=Zr 16 _ _ _ h9
 have w1:=g1.w
 have w3:=g3.w
 have w4:=g4.w
 have w5:=g5.w
 exact⟨(((g5.suf.trans g4.suf).trans g3.suf).trans g2.1).trans g1.suf,by simp only[bF];omega,g4.ok,g5.ok⟩
structure DocFit (d:DocD) (t:TS) (d':DocD) (t':TS):Prop where
 suf:t' <:+ t
 lt:t'.length<t.length
 w:ze0 d'+wT t'≤ze0 d+wT t
 ok:zgH d→zgH d'
theorem zkb (l:List OpD) (o:OpD):bOs (l++[o])=bOs l+bO o:=by simp[bOs]
theorem znR (l:List FragD) (o:FragD):bFs (l++[o])=bFs l+bF o:=by simp[bFs]
theorem zek {d:DocD} {t:TS} {d':DocD} {t':TS} (h:Yp d t=.ok (d',t')):DocFit d t d' t':=by
 have key:∀ {u:TS},t' <:+ u→u <:+ t→wT t'<wT t→t'.length<t.length:=fun h1 h2 h3=>by
  obtain⟨p,hp⟩:=h1.trans h2
  cases p with
  | nil=>simp at hp;subst hp;omega
  | cons x p=>rw[← hp];simp;omega
 have op:∀(kind:Int) (w:List UInt8),isW w t=true→pb (opP kind t.tail) (fun o t=>.ok ((⟨d.ops++[o],d.frags⟩:DocD),t))=.ok (d',t')→DocFit d t d' t':=fun kind w hw h=>by
  have h0:=zef hw
  obtain⟨o,t1,h1,h2⟩:=zZ h
  cases h2
  have g:=zee kind _ _ _ h1
  have w1:=g.w
  exact⟨g.suf.trans h0.1,key g.suf h0.1 (by omega),by simp only[ze0,zkb];omega,fun hd=>⟨zem hd.1 g.ok,hd.2⟩⟩
 unfold Yp at h
 split at h
 ·obtain⟨l,t1,h1,h2⟩:=zZ h
  cases h2
  have g:=Zr 16 _ _ _ h1
  have w1:=g.w
  refine⟨g.suf,key g.suf (List.suffix_refl t) (by omega),?_,fun hd=>⟨zem hd.1 ⟨fun x hx=>(by cases hx),fun x hx=>(by cases hx),g.ok⟩,hd.2⟩⟩
  simp only[ze0,zkb,bO,bWs,bDs,List.map_nil,List.sum_nil,Al3];omega
 split at h
 ·rename_i hw;exact op 0 _ hw h
 split at h
 ·rename_i hw;exact op 1 _ hw h
 split at h
 ·rename_i hw
  have h0:=zef hw
  obtain⟨o,t1,h1,h2⟩:=zZ h
  cases h2
  have g:=zeR _ _ _ h1
  have w1:=g.w
  exact⟨g.suf.trans h0.1,key g.suf h0.1 (by omega),by simp only[ze0,znR];omega,fun hd=>⟨hd.1,zem hd.2 g.ok⟩⟩
 ·cases h
theorem zil:∀(n:Nat) (d:DocD) (t:TS) (d':DocD) (t':TS),zbn n d t=.ok (d',t')→t'=[]∧ze0 d'≤ze0 d+wT t∧(zgH d→zgH d')
 | 0,_,_,_,_,h=>by cases h
 | n+1,d,t,d',t',h=>by
  simp only[zbn] at h
  split at h
  ·rename_i ht
   cases h
   exact⟨ht,by omega,id⟩
  ·obtain⟨d1,t1,h1,h2⟩:=zZ h
   have g1:=zek h1
   have g2:=zil n _ _ _ _ h2
   have w1:=g1.w
   exact⟨g2.1,by omega,fun hd=>g2.2.2 (g1.ok hd)⟩
theorem zjP {t:TS} {d:DocD} {t':TS} (h:zfg t=.ok (d,t')):t'=[]∧ze0 d≤wT t∧zgH d:=by
 obtain⟨d1,t1,h1,h2⟩:=zZ h
 have g1:=zek h1
 have g2:=zil _ _ _ _ _ h2
 have w1:=g1.w
 have e0:ze0 ⟨[],[]⟩=0:=rfl
 exact⟨g2.1,by omega,g2.2.2 (g1.ok ⟨fun x hx=>(by cases hx),fun x hx=>(by cases hx)⟩)⟩
theorem zfy {c:UInt8} {n:Nat} (hn:n<256) (h:c≠UInt8.ofNat n):¬ ((c.toNat:Int)=n):=fun e=>by
 have h2:=zgM c n hn
 rw[e] at h2
 simp at h2
 exact h h2
theorem zn6 (s:List UInt8) (hs:s.length≤Lim):zr Tryz.prog 257 [.str s] (.tup [.int .i64 (yx s).1,.int .i64 (yx s).2]):=by
 refine zr.go ir257 ck257 (Al4 _) fun KP Q hQ=>?_
 have hs':=hs
 simp only[Lim] at hs
 simp(disch:=first|omega|assumption) only[ir257,go_sem]
 refine zbK (fun i:Nat=>[(4,.int .i64 i)]) (fun i H=>(i=if s.head?=some 45 then 1 else 0)∧H=za.emp) (fun J hJ=>?_) ?_
 ·cases s with
  | nil =>
   simp(disch:=first|omega|assumption) only[go_sem]
   exact goJ (hJ 0 _ ⟨rfl,rfl⟩) (by simp(disch:=first|omega|assumption) only[go_sem])
  | cons c t =>
   have hp:(0:Int)<((t.length+1:Nat):Int):=by omega
   by_cases h:c=45
   ·have h':(c.toNat:Int)=45:=by rw[h];rfl
    simp(disch:=first|omega|assumption) only[hp,h',go_sem]
    exact goJ (hJ 1 _ ⟨by rw[h];rfl,rfl⟩) (by simp(disch:=first|omega|assumption) only[wrap64,go_sem])
   ·have h':¬ (c.toNat:Int)=45:=zfy (n:=45) (by omega) h
    simp(disch:=first|omega|assumption) only[hp,h',go_sem]
    exact goJ (hJ 0 _ ⟨by simp[h],rfl⟩) (by simp(disch:=first|omega|assumption) only[go_sem])
 rintro i H ⟨hi,rfl⟩
 have hil:i≤s.length:=by
  rw[hi];split
  ·rename_i h;cases s<;>simp_all
  ·omega
 have hw:zF s=if zR (s.drop i)=0 then 0 else i+Zt (s.drop i):=by
  unfold zF
  rw[hi]
  split
  ·cases s<;>simp_all
  ·simp only[List.drop_zero,Nat.zero_add]
   split
   ·rename_i h;simp[Zt,h]
   ·rfl
 have hrl:=ZI (s.drop i)
 rw[yH] at hrl
 simp(disch:=first|omega|assumption) only[go_sem]
 refine zd (zoS s i (by omega) (by omega) hs') ?_
 rw[Int.toNat_natCast]
 by_cases h0:zR (s.drop i)=0
 ·have hw0:zF s=0:=by rw[hw,if_pos h0]
  simp(disch:=first|omega|assumption) only[h0,go_sem]
  exact hQ _ _ _ _ nofun rfl (by simp[zb,ze,AV.strip,AV.strip1,yx,hw0])
 have h0':¬ ((zR (s.drop i):Int)=0):=by omega
 rw[if_neg h0] at hw
 simp(disch:=first|omega|assumption) only[h0',go_sem]
 have hlt:(i:Int)<s.length:=by omega
 refine zbK (fun k:Nat=>[(5,.int .i64 k)]) (fun k H=>k=Zt (s.drop i)∧H=za.emp) (fun J hJ=>?_) ?_
 ·rcases yJ s i with ⟨e1,e2⟩|⟨e1,e2⟩
  ·rw[e1] at h0;exact absurd rfl h0
  have hg:(s.drop i).getD 0 0=s.getD i 0:=by rw[e2];rfl
  by_cases h:s.getD i 0=48
  ·have h':((s.getD i 0).toNat:Int)=48:=by rw[h];rfl
   simp(disch:=first|omega|assumption) only[hlt,h',go_sem]
   exact goJ (hJ 1 _ ⟨by unfold Zt;rw[if_neg h0,hg,if_pos h],rfl⟩) (by simp(disch:=first|omega|assumption) only[go_sem])
  ·have h':¬ ((s.getD i 0).toNat:Int)=48:=zfy (n:=48) (by omega) h
   simp(disch:=first|omega|assumption) only[hlt,h',go_sem]
   exact goJ (hJ (zR (s.drop i)) _ ⟨by unfold Zt;rw[if_neg h0,hg,if_neg h],rfl⟩) (by simp(disch:=first|omega|assumption) only[go_sem])
 rintro k H ⟨hk,rfl⟩
 subst hk
 have hn0:zF s≠0:=by have:=znN h0;omega
 have hwl:=zcY s
 have hik:(i:Int)+(Zt (s.drop i):Int)=zF s:=by omega
 have hnum:yx s=(zF s+yA (s.drop (zF s))+ZJ (s.drop (zF s+yA (s.drop (zF s)))),if yA (s.drop (zF s))=0∧ZJ (s.drop (zF s+yA (s.drop (zF s))))=0 then 3 else 4):=by
  unfold yx;rw[if_neg hn0]
 generalize zF s=n at hn0 hwl hik hnum
 simp(disch:=first|omega|assumption) only[wrap64,hik,go_sem]
 refine zbK (fun x:Nat×Int=>[(4,.int .i64 x.1),(6,.int .i64 x.2)]) (fun x H=>x=(n+yA (s.drop n),if yA (s.drop n)=0 then 3 else 4)∧H=za.emp) (fun J hJ=>?_) ?_
 ·simp(disch:=first|omega|assumption) only[wrap64,hik,go_sem]
  rcases yJ s n with ⟨e1,e2⟩|⟨e1,e2⟩
  ·have hlt:¬ (n:Int)<s.length:=by omega
   have hf:yA (s.drop n)=0:=by simp[yA,e1]
   simp(disch:=first|omega|assumption) only[hlt,go_sem]
   exact goJ (hJ (n,3) _ ⟨by simp[hf],rfl⟩) (by simp(disch:=first|omega|assumption) only[go_sem])
  ·have hlt:(n:Int)<s.length:=by omega
   by_cases h:s.getD n 0=46
   ·have hto:((n:Int)+1).toNat=n+1:=by omega
    have hv:((s.getD n 0).toNat:Int)=46:=by rw[h];rfl
    simp(disch:=first|omega|assumption) only[hlt,hv,wrap64,go_sem]
    refine zd (zoS s (n+1) (by omega) (by omega) hs') ?_
    rw[hto]
    have hrl2:=ZI (s.drop (n+1))
    rw[yH] at hrl2
    by_cases hr:0<zR (s.drop (n+1))
    ·have hf:yA (s.drop n)=1+zR (s.drop (n+1)):=by rw[e2,h];simp only[yA,List.head?_cons,List.tail_cons,true_and];rw[if_pos hr]
     have hr':(0:Int)<zR (s.drop (n+1)):=by omega
     simp(disch:=first|omega|assumption) only[hr',wrap64,go_sem]
     refine zd (zoS s (n+1) (by omega) (by omega) hs') ?_
     rw[hto]
     simp(disch:=first|omega|assumption) only[wrap64,go_sem]
     exact goJ (hJ (n+1+zR (s.drop (n+1)),4) _ ⟨by rw[hf];simp;omega,rfl⟩) (by simp(disch:=first|omega|assumption) only[Int.natCast_add,Int.natCast_one,go_sem])
    ·have hf:yA (s.drop n)=0:=by rw[e2,h];simp only[yA,List.head?_cons,List.tail_cons,true_and];rw[if_neg hr]
     have hr':¬ (0:Int)<zR (s.drop (n+1)):=by omega
     simp(disch:=first|omega|assumption) only[hr',go_sem]
     exact goJ (hJ (n,3) _ ⟨by simp[hf],rfl⟩) (by simp(disch:=first|omega|assumption) only[go_sem])
   ·have h':¬ ((s.getD n 0).toNat:Int)=46:=zfy (n:=46) (by omega) h
    have hf:yA (s.drop n)=0:=by rw[e2];simp only[yA,List.head?_cons,Al1];rw[if_neg (fun e=>h e.1)]
    simp(disch:=first|omega|assumption) only[hlt,h',go_sem]
    exact goJ (hJ (n,3) _ ⟨by simp[hf],rfl⟩) (by simp(disch:=first|omega|assumption) only[go_sem])
 rintro⟨m,k⟩ H ⟨hx,rfl⟩
 simp only[Al8] at hx
 obtain⟨hm,hk⟩:=hx
 have hml:m≤s.length:=by
  have:=zgG (s.drop n)
  rw[yH] at this
  omega
 rw[← hm] at hnum
 simp(disch:=first|omega|assumption) only[go_sem]
 refine zbK (fun x:Nat×Int=>[(4,.int .i64 x.1),(6,.int .i64 x.2)]) (fun x H=>x=(m+ZJ (s.drop m),if ZJ (s.drop m)=0 then k else 4)∧H=za.emp) (fun J hJ=>?_) ?_
 ·rcases yJ s m with ⟨e1,e2⟩|⟨e1,e2⟩
  ·have hlt:¬ (m:Int)<s.length:=by omega
   have hp:ZJ (s.drop m)=0:=by rw[e1];rfl
   simp(disch:=first|omega|assumption) only[hlt,go_sem]
   exact goJ (hJ (m,k) _ ⟨by simp[hp],rfl⟩) (by simp(disch:=first|omega|assumption) only[go_sem])
  ·have hlt:(m:Int)<s.length:=by omega
   obtain⟨c,hc⟩:∃ c,s.getD m 0=c:=⟨_,rfl⟩
   rw[hc] at e2
   by_cases h:isE c=true
   ·have hE:c=101∨c=69:=by simpa[isE] using h
    have hp:ZJ (s.drop m)=if zR (s.drop (m+1+sgN (s.drop (m+1))))=0 then 0 else 1+sgN (s.drop (m+1))+zR (s.drop (m+1+sgN (s.drop (m+1)))):=by
     rw[e2];simp only[ZJ,h,if_true,List.drop_drop]
    have hto:((m:Int)+1).toNat=m+1:=by omega
    have hm1:(0:Int)≤(m:Int)+1:=by omega
    have hsg:=zi2 (s.drop (m+1))
    rw[yH] at hsg
    rcases hE with he|he
    case' inl =>
     have hv:(c.toNat:Int)=101:=by rw[he];rfl
     simp(disch:=first|omega|assumption) only[hlt,hc,hv,wrap64,go_sem]
    case' inr =>
     have hv:(c.toNat:Int)=69:=by rw[he];rfl
     have hv2:¬ (69:Int)=101:=by omega
     simp(disch:=first|omega|assumption) only[hlt,hc,hv,hv2,wrap64,go_sem]
    all_goals
     refine zbK (fun q:Nat=>[(7,.int .i64 q)]) (fun q H=>q=m+1+sgN (s.drop (m+1))∧H=za.emp) (fun J2 hJ2=>?_) ?_
     ·rcases yJ s (m+1) with ⟨f1,f2⟩|⟨f1,f2⟩
      ·have hq:¬ ((m:Int)+1<s.length):=by omega
       simp(disch:=first|omega|assumption) only[wrap64,hq,go_sem]
       exact goJ (hJ2 (m+1) _ ⟨by rw[f1];rfl,rfl⟩) (by simp(disch:=first|omega|assumption) only[Int.natCast_add,Int.natCast_one,go_sem])
      ·have hq:(m:Int)+1<s.length:=by omega
       obtain⟨d,hd⟩:∃ d,s.getD (m+1) 0=d:=⟨_,rfl⟩
       rw[hd] at f2
       by_cases d43:d=43
       ·have hv3:(d.toNat:Int)=43:=by rw[d43];rfl
        simp(disch:=first|omega|assumption) only[wrap64,hq,hto,hm1,hd,hv3,go_sem]
        exact goJ (hJ2 (m+1+1) _ ⟨by rw[f2,d43];rfl,rfl⟩) (by simp(disch:=first|omega|assumption) only[Int.natCast_add,Int.natCast_one,go_sem])
       ·have hv3:¬ (d.toNat:Int)=43:=zfy (n:=43) (by omega) d43
        by_cases d45:d=45
        ·have hv4:(d.toNat:Int)=45:=by rw[d45];rfl
         have hv5:¬ (45:Int)=43:=by omega
         simp(disch:=first|omega|assumption) only[wrap64,hq,hto,hm1,hd,hv4,hv5,go_sem]
         exact goJ (hJ2 (m+1+1) _ ⟨by rw[f2,d45];rfl,rfl⟩) (by simp(disch:=first|omega|assumption) only[Int.natCast_add,Int.natCast_one,go_sem])
        ·have hv4:¬ (d.toNat:Int)=45:=zfy (n:=45) (by omega) d45
         simp(disch:=first|omega|assumption) only[wrap64,hq,hto,hm1,hd,hv3,hv4,go_sem]
         exact goJ (hJ2 (m+1) _ ⟨by rw[f2];simp[sgN,d43,d45],rfl⟩) (by simp(disch:=first|omega|assumption) only[Int.natCast_add,Int.natCast_one,go_sem])
     rintro q H ⟨hq,rfl⟩
     rw[← hq] at hp
     have hql:q≤s.length:=by omega
     simp(disch:=first|omega|assumption) only[go_sem]
     refine zd (zoS s q (by omega) (by omega) hs') ?_
     rw[Int.toNat_natCast]
     have hrl3:=ZI (s.drop q)
     rw[yH] at hrl3
     by_cases hr:zR (s.drop q)=0
     ·have hr':¬ (0:Int)<zR (s.drop q):=by omega
      rw[if_pos hr] at hp
      simp(disch:=first|omega|assumption) only[hr',go_sem]
      exact goJ (hJ (m,k) _ ⟨by simp[hp],rfl⟩) (by simp(disch:=first|omega|assumption) only[go_sem])
     ·have hr':(0:Int)<zR (s.drop q):=by omega
      rw[if_neg hr] at hp
      simp(disch:=first|omega|assumption) only[hr',go_sem]
      refine zd (zoS s q (by omega) (by omega) hs') ?_
      rw[Int.toNat_natCast]
      simp(disch:=first|omega|assumption) only[wrap64,go_sem]
      exact goJ (hJ (q+zR (s.drop q),4) _ ⟨by rw[hp];simp;omega,rfl⟩) (by simp(disch:=first|omega|assumption) only[Int.natCast_add,go_sem])
   ·have h1:c≠101:=fun e=>h (by simp[isE,e])
    have h2:c≠69:=fun e=>h (by simp[isE,e])
    have hp:ZJ (s.drop m)=0:=by rw[e2];simp[ZJ,h]
    have h1':¬ (c.toNat:Int)=101:=zfy (n:=101) (by omega) h1
    have h2':¬ (c.toNat:Int)=69:=zfy (n:=69) (by omega) h2
    simp(disch:=first|omega|assumption) only[hlt,hc,h1',h2',go_sem]
    exact goJ (hJ (m,k) _ ⟨by simp[hp],rfl⟩) (by simp(disch:=first|omega|assumption) only[go_sem])
 rintro⟨m2,k2⟩ H ⟨hx,rfl⟩
 simp only[Al8] at hx
 obtain⟨hm2,hk2⟩:=hx
 have hfin:yx s=(m2,k2):=by
  rw[hnum,hm2,hk2,hk]
  by_cases a:yA (s.drop n)=0<;>by_cases b:ZJ (s.drop m)=0<;>simp[a,b]
 simp(disch:=first|omega|assumption) only[go_sem]
 exact hQ _ _ _ _ nofun rfl (by simp[zb,ze,AV.strip,AV.strip1,hfin])
end Go.Proofs.YticbbfbpeimkbaaGreatDoor
namespace Go.Proofs.YticbbfbpeimkbaaGreatDoor
open Go.Lib
end Go.Proofs.YticbbfbpeimkbaaGreatDoor
namespace Go.Proofs.YticbbfbpeimkbaaGreatDoor
open Go.Ab
def dg (c:UInt8):Int:=IntKind.u8.wrap ((c.toNat:Int)-48)
theorem ztB (c:UInt8):0≤dg c∧dg c≤255:=by
 unfold dg IntKind.wrap
 simp[IntKind.signed,IntKind.bits]
 omega
theorem znl {c:UInt8} (h:isD c=true):dg c=(c.toNat:Int)-48:=by
 simp only[isD,Al0,z7] at h
 unfold dg IntKind.wrap
 simp[IntKind.signed,IntKind.bits]
 omega
def zdF:List UInt8→Int→Option Int
 | [],a=>some a
 | c::r,a=>if a<Int.tdiv (-9223372036854775808+dg c) 10 then none else zdF r (10*a-dg c)
theorem step_ok {a d:Int} (h0:0≤d) (h1:d≤255) (ha:-9223372036854775808≤a) (ha2:a≤0) (h:¬ a<Int.tdiv (-9223372036854775808+d) 10):-9223372036854775808≤10*a-d∧10*a-d≤0:=by
 have e:Int.tdiv (-9223372036854775808+d) 10=-((9223372036854775808-d) / 10):=by
  rw[show (-9223372036854775808+d)=-(9223372036854775808-d) by omega,Int.neg_tdiv,Int.tdiv_eq_ediv_of_nonneg (by omega)]
 rw[e] at h
 omega
def zde (s:List UInt8):Int×Bool :=
 if s.head?=some 45 then (match zdF s.tail 0 with|some a=>(a,true)|none=>(0,false))
 else (match zdF s 0 with|some a=>if a=-9223372036854775808 then (0,false) else (-a,true)|none=>(0,false))
theorem zsg (s:List UInt8) (hs:s.length≤Lim):zr Tryz.prog 184 [.str s] (.tup [.int .i64 (zde s).1,.bool (zde s).2]):=by
 refine zr.go ir184 ck184 (Al4 _) fun KP Q hQ=>?_
 simp only[Lim] at hs
 simp(disch:=first|omega|assumption) only[ir184,go_sem]
 refine zbK (fun x:Nat×Bool=>[(4,.int .i64 x.1),(5,.bool x.2)]) (fun x H=>x=(if s.head?=some 45 then (1,true) else (0,false))∧H=za.emp) (fun J hJ=>?_) ?_
 ·cases s with
  | nil =>
   simp(disch:=first|omega|assumption) only[go_sem]
   exact goJ (hJ (0,false) _ ⟨rfl,rfl⟩) (by simp(disch:=first|omega|assumption) only[go_sem])
  | cons c t =>
   have hp:(0:Int)<((t.length+1:Nat):Int):=by omega
   by_cases h:c=45
   ·have h':(c.toNat:Int)=45:=by rw[h];rfl
    simp(disch:=first|omega|assumption) only[hp,h',go_sem]
    exact goJ (hJ (1,true) _ ⟨by rw[h];rfl,rfl⟩) (by simp(disch:=first|omega|assumption) only[go_sem])
   ·have h':¬ (c.toNat:Int)=45:=zfy (n:=45) (by omega) h
    simp(disch:=first|omega|assumption) only[hp,h',go_sem]
    exact goJ (hJ (0,false) _ ⟨by simp[h],rfl⟩) (by simp(disch:=first|omega|assumption) only[go_sem])
 rintro⟨n0,neg⟩ H ⟨hx,rfl⟩
 have hn0:n0≤s.length:=by
  split at hx
  ·rename_i h
   cases s with
   | nil=>simp at h
   | cons c t=>cases hx;simp
  ·cases hx;omega
 have hR:zde s=if neg then (match zdF (s.drop n0) 0 with|some a=>(a,true)|none=>(0,false)) else (match zdF (s.drop n0) 0 with|some a=>if a=-9223372036854775808 then (0,false) else (-a,true)|none=>(0,false)):=by
  unfold zde
  split at hx
  ·rename_i h
   cases hx
   rw[if_pos h]
   simp
  ·rename_i h
   cases hx
   rw[if_neg h]
   simp
 simp(disch:=first|omega|assumption) only[go_sem]
 refine zI (fun x:Nat×Int=>[(4,.int .i64 x.1),(6,.int .i64 x.2)]) (fun x H=>zdF (s.drop x.1) x.2=zdF (s.drop n0) 0∧x.1≤s.length∧(-9223372036854775808≤x.2∧x.2≤0)) (fun x=>s.length-x.1) (n0,0) (by simp(disch:=first|omega|assumption) only[go_sem]) ⟨rfl,hn0,by omega,by omega⟩ ?_
 rintro⟨n,a⟩ H J ⟨hn,hle,ha1,ha2⟩ hJ
 simp only at hn hle ha1 ha2
 rcases yJ s n with ⟨e1,e2⟩|⟨e1,e2⟩
 ·have hlt:¬ (n:Int)<s.length:=by omega
  rw[e1] at hn
  simp only[zdF] at hn
  rw[← hn] at hR
  cases neg with
  | true =>
   simp(disch:=first|omega|assumption) only[hlt,go_sem]
   exact hQ _ _ _ _ nofun rfl (by simp[zb,ze,AV.strip,AV.strip1,hR])
  | false =>
   by_cases hm:a=-9223372036854775808
   ·simp(disch:=first|omega|assumption) only[hlt,hm,go_sem]
    exact hQ _ _ _ _ nofun rfl (by simp[zb,ze,AV.strip,AV.strip1,hR,hm])
   ·simp(disch:=first|omega|assumption) only[hlt,hm,wrap64,go_sem]
    exact hQ _ _ _ _ nofun rfl (by simp[zb,ze,AV.strip,AV.strip1,hR,hm])
 ·have hlt:(n:Int)<s.length:=by omega
  obtain⟨c,hc⟩:∃ c,s.getD n 0=c:=⟨_,rfl⟩
  rw[hc] at e2
  rw[e2] at hn
  simp only[zdF] at hn
  have hd:=ztB c
  have hdg:IntKind.u8.wrap ((c.toNat:Int)-48)=dg c:=rfl
  have he:Int.tdiv (-9223372036854775808+dg c) 10=-((9223372036854775808-dg c) / 10):=by
   rw[show (-9223372036854775808+dg c)=-(9223372036854775808-dg c) by omega,Int.neg_tdiv,Int.tdiv_eq_ediv_of_nonneg (by omega)]
  by_cases hb:a<Int.tdiv (-9223372036854775808+dg c) 10
  ·rw[if_pos hb] at hn
   rw[← hn] at hR
   simp(disch:=first|omega|assumption) only[hlt,hc,hdg,wrap64,hb,go_sem]
   cases neg with
   | true=>exact hQ _ _ _ _ nofun rfl (by simp[zb,ze,AV.strip,AV.strip1,hR])
   | false=>exact hQ _ _ _ _ nofun rfl (by simp[zb,ze,AV.strip,AV.strip1,hR])
  ·have hst:=step_ok hd.1 hd.2 ha1 ha2 hb
   rw[if_neg hb] at hn
   simp(disch:=first|omega|assumption) only[hlt,hc,hdg,wrap64,hb,go_sem]
   exact goJ (hJ (n+1,10*a-dg c) _ (by simp only;omega) ⟨hn,by simp only;omega,hst⟩) (by simp(disch:=first|omega|assumption) only[Int.natCast_add,Int.natCast_one,go_sem])
def zey (acc:Nat) (l:List UInt8):Nat:=l.foldl (fun a c=>a*10+(c.toNat-48)) acc
theorem zgF (acc:Nat):zey acc []=acc:=by unfold zey;rw[List.foldl_nil]
theorem zfm (acc:Nat) (c:UInt8) (r:List UInt8):zey acc (c::r)=zey (acc*10+(c.toNat-48)) r:=by unfold zey;rw[List.foldl_cons]
theorem zm0 (c:UInt8) (r:List UInt8) (a:Int):zdF (c::r) a=if a<Int.tdiv (-9223372036854775808+dg c) 10 then none else zdF r (10*a-dg c):=by rw[zdF]
theorem ziR:∀(r:List UInt8) (acc:Nat),acc≤zey acc r
 | [],acc=>by rw[zgF];exact Al4 _
 | c::r,acc=>by have:=ziR r (acc*10+(c.toNat-48));rw[zfm];omega
theorem Y8:∀(r:List UInt8) (acc:Nat),(∀ c∈r,isD c=true)→acc≤9223372036854775808→zdF r (-(acc:Int))=if zey acc r≤9223372036854775808 then some (-(zey acc r:Int)) else none
 | [],acc,_,h=>by rw[zgF,if_pos h];rfl
 | c::r,acc,hd,h=>by
  have hc:=hd c (by simp)
  have hv:=znl hc
  simp only[isD,Al0,z7] at hc
  have he:Int.tdiv (-9223372036854775808+dg c) 10=-((9223372036854775808-dg c) / 10):=by
   rw[show (-9223372036854775808+dg c)=-(9223372036854775808-dg c) by omega,Int.neg_tdiv,Int.tdiv_eq_ediv_of_nonneg (by omega)]
  have hg:=ziR r (acc*10+(c.toNat-48))
  rw[zm0,zfm]
  by_cases hb:-(acc:Int)<Int.tdiv (-9223372036854775808+dg c) 10
  ·rw[if_pos hb,if_neg (by omega)]
  ·rw[if_neg hb]
   have e:10*-(acc:Int)-dg c=-((acc*10+(c.toNat-48):Nat):Int):=by omega
   rw[e]
   exact Y8 r _ (fun x hx=>hd x (by simp[hx])) (by omega)
theorem Yr:∀(r:List UInt8) (acc:Nat),(∀ c∈r,isD c=true)→acc<18446744073709551616→Lib.parseUint10 acc r=if zey acc r<18446744073709551616 then .ok (zey acc r) else .range
 | [],acc,_,h=>by rw[zgF,if_pos h];rfl
 | c::r,acc,hd,h=>by
  have hc:=hd c (by simp)
  simp only[isD,Al0,z7] at hc
  have hg:=ziR r (acc*10+(c.toNat-48))
  rw[zfm]
  simp only[Lib.parseUint10]
  rw[if_pos hc]
  by_cases h1:1844674407370955162≤acc
  ·rw[if_pos h1,if_neg (by omega)]
  ·rw[if_neg h1]
   by_cases h2:18446744073709551616≤acc*10+(c.toNat-48)
   ·rw[if_pos h2,if_neg (by omega)]
   ·rw[if_neg h2]
    exact Yr r _ (fun x hx=>hd x (by simp[hx])) (by omega)
theorem zeQ:∀ l:List UInt8,zR l=l.length→∀ c∈l,isD c=true
 | [],_,c,hc=>by cases hc
 | x::r,h,c,hc=>by
  simp only[zR,Al2] at h
  split at h
  ·rename_i hx
   rcases List.mem_cons.1 hc with e|e
   ·subst e;exact hx
   ·exact zeQ r (by omega) c e
  ·omega
theorem zhV {l:List UInt8} (h:Zt l=l.length) (h0:zR l≠0):∀ c∈l,isD c=true:=by
 unfold Zt at h
 rw[if_neg h0] at h
 split at h
 ·apply zeQ
  have:=ZI l
  omega
 ·exact zeQ l h
theorem YU (t:List UInt8):zF (45::t)=if zR t=0 then 0 else 1+Zt t:=by
 unfold zF;exact if_pos rfl
theorem Yh {s:List UInt8} (h:¬ s.head?=some 45):zF s=Zt s:=by
 unfold zF;exact if_neg h
theorem zsN {s:List UInt8} (h:zbC s=3):(∃ t,s=45::t∧t≠[]∧∀ c∈t,isD c=true)∨(∃ c t,s=c::t∧∀ x∈s,isD x=true):=by
 unfold zbC at h
 split at h
 ·rename_i hl
  unfold yx at h hl
  split at h
  ·simp at h
  ·rename_i hw
   rw[if_neg hw] at hl
   simp only at h hl
   split at h
   ·rename_i hfp
    rw[hfp.2,hfp.1] at hl
    simp only[Nat.add_zero] at hl
    by_cases h45:s.head?=some 45
    ·cases s with
     | nil=>simp at h45
     | cons c t =>
      have hc:c=45:=by simpa using h45
      subst hc
      rw[YU] at hl hw
      by_cases h0:zR t=0
      ·rw[if_pos h0] at hw;omega
      ·rw[if_neg h0] at hl
       refine .inl ⟨t,rfl,?_,zhV (by simp only[Al2] at hl;omega) h0⟩
       intro e;subst e;exact h0 rfl
    ·rw[Yh h45] at hl hw
     have h0:zR s≠0:=fun e=>hw (by simp[Zt,e])
     cases s with
     | nil=>exact absurd rfl h0
     | cons c t=>exact .inr ⟨c,t,rfl,zhV hl h0⟩
   ·omega
 ·omega
theorem zji (t:List UInt8):zde (45::t)=match zdF t 0 with|some a=>(a,true)|none=>(0,false):=by
 unfold zde;exact if_pos rfl
theorem zkw {c:UInt8} (t:List UInt8) (h:c≠45):zde (c::t)=match zdF (c::t) 0 with|some a=>if a=-9223372036854775808 then (0,false) else (-a,true)|none=>(0,false):=by
 unfold zde;exact if_neg (fun e=>h (by simpa using e))
theorem zsh {s:List UInt8} (h:zbC s=3):(zde s).2=okI (Lib.parseIntB 64 s):=by
 rw[Lib.parseIntB_64]
 rcases zsN h with ⟨t,rfl,hne,hd⟩|⟨c,t,rfl,hd⟩
 ·have h1:=Y8 t 0 hd (by omega)
  have h2:=Yr t 0 hd (by omega)
  simp only[Int.natCast_zero,Int.neg_zero] at h1
  rw[Lib.atoiAll_minus,zji,h1]
  unfold Lib.parseMag
  rw[if_neg hne,h2]
  generalize zey 0 t=V
  by_cases a:V≤9223372036854775808
  ·rw[if_pos a,if_pos (by omega)]
   simp only[Lib.signed]
   rw[if_neg (by omega)]
   rfl
  ·rw[if_neg a]
   by_cases b:V<18446744073709551616
   ·rw[if_pos b]
    simp only[Lib.signed]
    rw[if_pos (by omega)]
    rfl
   ·rw[if_neg b]
    rfl
 ·have h1:=Y8 (c::t) 0 hd (by omega)
  have h2:=Yr (c::t) 0 hd (by omega)
  have hc:=hd c (by simp)
  simp only[isD,Al0,z7] at hc
  have h45:c≠45:=fun e=>by subst e;simp at hc
  simp only[Int.natCast_zero,Int.neg_zero] at h1
  rw[Lib.atoiAll_plain c t (by omega) (by omega),zkw t h45,h1]
  unfold Lib.parseMag
  rw[if_neg (List.cons_ne_nil c t),h2]
  generalize zey 0 (c::t)=V
  by_cases a:V≤9223372036854775808
  ·rw[if_pos a,if_pos (by omega)]
   simp only[Lib.signless]
   by_cases b:V=9223372036854775808
   ·rw[if_pos (by omega),if_pos (by omega)];rfl
   ·rw[if_neg (by omega),if_neg (by omega)];rfl
  ·rw[if_neg a]
   by_cases b:V<18446744073709551616
   ·rw[if_pos b]
    simp only[Lib.signless]
    rw[if_pos (by omega)]
    rfl
   ·rw[if_neg b]
    rfl
theorem zpw {s:List UInt8} (h:zbC s=3) (h2:(zde s).2=true):(zde s).1=zhk s:=by
 unfold zhk
 rw[Lib.parseIntB_64]
 rcases zsN h with ⟨t,rfl,hne,hd⟩|⟨c,t,rfl,hd⟩
 ·have h1:=Y8 t 0 hd (by omega)
  have h3:=Yr t 0 hd (by omega)
  simp only[Int.natCast_zero,Int.neg_zero] at h1
  rw[Lib.atoiAll_minus]
  rw[zji,h1] at h2 ⊢
  unfold Lib.parseMag
  rw[if_neg hne,h3]
  generalize zey 0 t=V at h2 ⊢
  by_cases a:V≤9223372036854775808
  ·rw[if_pos a,if_pos (by omega)]
   simp only[Lib.signed]
   rw[if_neg (by omega)]
  ·rw[if_neg a] at h2;cases h2
 ·have h1:=Y8 (c::t) 0 hd (by omega)
  have h3:=Yr (c::t) 0 hd (by omega)
  have hc:=hd c (by simp)
  simp only[isD,Al0,z7] at hc
  have h45:c≠45:=fun e=>by subst e;simp at hc
  simp only[Int.natCast_zero,Int.neg_zero] at h1
  rw[Lib.atoiAll_plain c t (by omega) (by omega)]
  rw[zkw t h45,h1] at h2 ⊢
  unfold Lib.parseMag
  rw[if_neg (List.cons_ne_nil c t),h3]
  generalize zey 0 (c::t)=V at h2 ⊢
  by_cases a:V≤9223372036854775808
  ·rw[if_pos a] at h2
   rw[if_pos a,if_pos (by omega)]
   simp only[Lib.signless] at h2 ⊢
   by_cases b:V=9223372036854775808
   ·rw[if_pos (by omega)] at h2;cases h2
   ·rw[if_neg (by omega),if_neg (by omega)];simp only;omega
  ·rw[if_neg a] at h2;cases h2
structure St where
 i:Nat
 dp:Int
 e:Int
section
variable (L:TS)
def St.hd (s:St):Tok:=if s.e=0 then hdT (L.drop s.i) else ⟨0,[]⟩
def isS (m:List UInt8) (s:St):Bool:=decide ((s.hd L).k=1)&&decide ((s.hd L).s=m)
def ZZ (w:List UInt8) (s:St):Bool:=decide ((s.hd L).k=2)&&decide ((s.hd L).s=w)
def yV (n:Int) (s:St):St:=if s.e=0 then ⟨s.i,s.dp,n⟩ else s
def stepS (s:St):St:=⟨s.i+1,s.dp,s.e⟩
def zj (m:List UInt8) (s:St):St:=if isS L m s then stepS s else yV 2 s
def upS (d:Int) (s:St):St:=⟨s.i,IntKind.wrap .i64 (s.dp+d),s.e⟩
def yI (m:List UInt8) (s:St):St:=if isS L m s&&decide (16≤s.dp) then yV 4 s else upS 1 (zj L m s)
def YC (m:List UInt8) (s:St):St:=upS (-1) (zj L m s)
def zg (s:St):List UInt8×St:=if (s.hd L).k=2 then ((s.hd L).s,stepS s) else ([],yV 2 s)
def Zk (s:St):List UInt8×St:=zg L (if ZZ L [111,110] s then yV 2 s else s)
def yT {α:Type} (m:List UInt8) (one:Bool) (f:St→α×St):Nat→List α→St→List α×St
 | 0,l,s=>(l,s)
 | n+1,l,s=>if s.e=0∧((one=true∧l.length=0)∨isS L m s=false) then yT m one f n (l++[(f s).1]) (f s).2 else (l,s)
def zae {α:Type} (m:List UInt8) (f:St→α×St):Nat→List α→St→List α×St
 | 0,l,s=>(l,s)
 | n+1,l,s=>if isS L m s then zae m f n (l++[(f (zj L m s)).1]) (f (zj L m s)).2 else (l,s)
def or1 (m:Int):Int:=IntKind.wrap .i64 (BitVec.ofInt IntKind.i64.bits m ||| BitVec.ofInt IntKind.i64.bits 1).toNat
def zm5 (m:Int):Int:=IntKind.wrap .i64 (m*2 ^ min 1 IntKind.i64.bits)
def Z8 (ty:TyD) (s:St):TyD×St:=if isS L [33] s then (⟨ty.nm,ty.lists,or1 ty.musts⟩,zj L [33] s) else (ty,s)
def Zs (ty:TyD):TyD:=⟨ty.nm,IntKind.wrap .i64 (ty.lists+1),zm5 ty.musts⟩
def ZM:Nat→St→TyD×St
 | 0,s=>if isS L [91] s then (⟨[],0,0⟩,yV 4 s) else Z8 L ⟨(zg L s).1,0,0⟩ (zg L s).2
 | k+1,s=>if isS L [91] s then Z8 L (Zs (ZM k (zj L [91] s)).1) (zj L [93] (ZM k (zj L [91] s)).2) else Z8 L ⟨(zg L s).1,0,0⟩ (zg L s).2
def zcf (t:Tok):Val:=if t.k=3∧(zde t.s).2=true then .mk 2 (zde t.s).1 [] [] [] else .mk 3 0 t.s [] []
def ZS (v:St→Val×St) (s:St):Mem×St :=
 (.mk (zg L s).1 (v (zj L [58] (zg L s).2)).1,(v (zj L [58] (zg L s).2)).2)
def zno (v:St→Val×St) (s:St):Val×St:=(.mk 6 0 [] (yT L [93] false v (L.length+2) [] s).1 [],YC L [93] (yT L [93] false v (L.length+2) [] s).2)
def zsq (v:St→Val×St) (s:St):Val×St:=(.mk 7 0 [] [] (yT L [125] false (ZS L v) (L.length+2) [] s).1,YC L [125] (yT L [125] false (ZS L v) (L.length+2) [] s).2)
def zbz (s:St):Val×St:=if (s.hd L).k=3∨(s.hd L).k=4 then (zcf (s.hd L),stepS s) else if (s.hd L).k=5 then (.mk 4 0 (s.hd L).s [] [],stepS s) else (Z9 (s.hd L).s,stepS s)
def zaG (s:St):Val×St:=(.mk 8 0 (zg L (zj L [36] s)).1 [] [],(zg L (zj L [36] s)).2)
def ZE (fixed:Bool):Nat→St→Val×St
 | 0,s=>if (s.hd L).k=3∨(s.hd L).k=4∨(s.hd L).k=5∨(s.hd L).k=2 then zbz L s
  else if isS L [36] s&&!fixed then zaG L s
  else if isS L [91] s then (.mk 6 0 [] [] [],YC L [93] (yI L [91] s))
  else if isS L [123] s then (.mk 7 0 [] [] [],YC L [125] (yI L [123] s))
  else (zV,yV 2 s)
 | k+1,s=>if (s.hd L).k=3∨(s.hd L).k=4∨(s.hd L).k=5∨(s.hd L).k=2 then zbz L s
  else if isS L [36] s&&!fixed then zaG L s
  else if isS L [91] s then zno L (ZE fixed k) (yI L [91] s)
  else if isS L [123] s then zsq L (ZE fixed k) (yI L [123] s)
  else (zV,yV 2 s)
def yn (fixed:Bool) (k:Nat) (s:St):List Mem×St:=if isS L [40] s then
  ((yT L [41] true (ZS L (ZE L fixed k)) (L.length+2) [] (zj L [40] s)).1,zj L [41] (yT L [41] true (ZS L (ZE L fixed k)) (L.length+2) [] (zj L [40] s)).2)
 else ([],s)
def zle (fixed:Bool) (k:Nat) (s:St):DirD×St:=(⟨(zg L s).1,(yn L fixed k (zg L s).2).1⟩,(yn L fixed k (zg L s).2).2)
def z6 (fixed:Bool) (k:Nat) (s:St):List DirD×St:=zae L [64] (zle L fixed k) (L.length+2) [] s
end
def YH {α:Type} (L:TS) (x:PR α) (dp:Int) (r:α×St):Prop:=match x with
 | .ok (a,t')=>∃ i',t'=L.drop i'∧r=(a,⟨i',dp,0⟩)
 | .error n=>n≠0∧r.2.e=n
def Bad {α:Type} (f:St→α×St):Prop:=∀ s,s.e≠0→(f s).2.e=s.e
structure SimS {α:Type} (L:TS) (f:TS→PR α) (dp:Int) (fS:St→α×St):Prop where
 rel:∀ i,YH L (f (L.drop i)) dp (fS ⟨i,dp,0⟩)
 bad:Bad fS
theorem YH.bind {α β:Type} {L:TS} {x:PR α} {dp dp':Int} {r:α×St} (hx:YH L x dp r) {h:α→TS→PR β} {g:α×St→β×St} (hok:∀ a i,x=.ok (a,L.drop i)→r=(a,⟨i,dp,0⟩)→YH L (h a (L.drop i)) dp' (g (a,⟨i,dp,0⟩)))
  (hbad:∀ q:α×St,q.2.e≠0→(g q).2.e=q.2.e):YH L (pb x h) dp' (g r):=by
 rcases x with n|⟨a,t⟩
 ·obtain⟨h1,h2⟩:=hx
  exact⟨h1,by rw[hbad r (by rw[h2];exact h1),h2]⟩
 ·obtain⟨i,h1,h2⟩:=hx
  subst h1;subst h2
  exact hok a i rfl rfl
theorem YH.ok {α:Type} {L:TS} {a:α} {i:Nat} {dp:Int}:YH L (.ok (a,L.drop i)) dp (a,⟨i,dp,0⟩):=⟨i,rfl,rfl⟩
theorem zbu {n:Int} {s:St} (h:s.e≠0):yV n s=s:=by simp[yV,h]
theorem ze6 {L:TS} {s:St} (h:s.e≠0):s.hd L=⟨0,[]⟩:=by simp[St.hd,h]
theorem ZO {L:TS} {m:List UInt8} {s:St} (h:s.e≠0):isS L m s=false:=by simp[isS,ze6 h]
theorem zhC {L:TS} {m:List UInt8} {s:St} (h:s.e≠0):ZZ L m s=false:=by simp[ZZ,ze6 h]
theorem Zp {L:TS} {m:List UInt8} {s:St} (h:s.e≠0):zj L m s=s:=by simp[zj,ZO h,zbu h]
theorem yO {L:TS} {s:St} (h:s.e≠0):zg L s=([],s):=by simp[zg,ze6 h,zbu h]
theorem hd_ok {L:TS} {i:Nat} {dp:Int}:St.hd L ⟨i,dp,0⟩=hdT (L.drop i):=by simp[St.hd]
theorem yL {L:TS} {m:List UInt8} {i:Nat} {dp:Int}:isS L m ⟨i,dp,0⟩=isP m (L.drop i):=by simp[isS,isP,hd_ok]
theorem zbo {L:TS} {m:List UInt8} {i:Nat} {dp:Int}:ZZ L m ⟨i,dp,0⟩=isW m (L.drop i):=by simp[ZZ,isW,hd_ok]
theorem yj (L:TS) (i:Nat):(L.drop i).tail=L.drop (i+1):=by simp
theorem zbr (L:TS) (m:List UInt8) (i:Nat) (dp:Int):YH L (ZY m (L.drop i)) dp ((),zj L m ⟨i,dp,0⟩):=by
 unfold ZY zj
 rw[yL]
 cases isP m (L.drop i) with
 | true=>exact⟨i+1,yj L i,rfl⟩
 | false=>exact⟨by decide,rfl⟩
theorem Zd (L:TS) (i:Nat) (dp:Int):YH L (yP (L.drop i)) dp (zg L ⟨i,dp,0⟩):=by
 unfold yP zg
 rw[hd_ok]
 split
 ·exact⟨i+1,yj L i,rfl⟩
 ·exact⟨by decide,rfl⟩
theorem Z5 {L:TS} {m:List UInt8} {i:Nat} {dp:Int} (h:isP m (L.drop i)=true):zj L m ⟨i,dp,0⟩=⟨i+1,dp,0⟩:=by
 unfold zj;rw[yL,h];rfl
theorem YG {α:Type} {L:TS} {m:List UInt8} {one:Bool} {f:St→α×St} {n:Nat} {l:List α} {s:St} (h:s.e≠0):yT L m one f n l s=(l,s):=by
 cases n with
 | zero=>rfl
 | succ n=>simp[yT,h]
theorem zc2 {α:Type} {L:TS} {m:List UInt8} {one:Bool} {f:TS→PR α} {fS:St→α×St} {dp:Int} (hf:SimS L f dp fS):∀(n k:Nat) (l:List α) (i:Nat),(one=true→l.length≠0)→L.length-i<n→L.length-i<k→(∀ t a t',f t=.ok (a,t')→t'.length<t.length) →
  YH L (yK m f n l (L.drop i)) dp ((yT L m one fS k l ⟨i,dp,0⟩).1,zj L m (yT L m one fS k l ⟨i,dp,0⟩).2)
 | 0,_,_,_,_,h,_,_=>by omega
 | _,0,_,_,_,_,h,_=>by omega
 | n+1,k+1,l,i,ho,h1,h2,hlt=>by
  cases hp:isP m (L.drop i) with
  | true =>
   have e:yT L m one fS (k+1) l ⟨i,dp,0⟩=(l,⟨i,dp,0⟩):=by
    rw[yT,if_neg]
    rintro⟨_,⟨a,b⟩|h⟩
    ·exact ho a b
    ·rw[yL,hp] at h;cases h
   rw[e,yK,if_pos hp]
   simp only
   rw[Z5 hp,yj]
   exact .ok
  | false =>
   rw[yK,if_neg (by rw[hp];decide),yT,if_pos ⟨rfl,.inr (by rw[yL];exact hp)⟩]
   refine(hf.rel i).bind (g:=fun q=>((yT L m one fS k (l++[q.1]) q.2).1,zj L m (yT L m one fS k (l++[q.1]) q.2).2)) (fun a i' e1 _=>?_) fun q hq=>by simp only;rw[YG hq,Zp hq]
   have hl:=hlt _ _ _ e1
   simp only[yH] at hl
   exact zc2 hf n k _ i' (fun _=>by simp) (by omega) (by omega) hlt
theorem zdH {α:Type} {L:TS} {m:List UInt8} {f:TS→PR α} {fS:St→α×St} {dp:Int} (hf:SimS L f dp fS) (i:Nat) (hlt:∀ t a t',f t=.ok (a,t')→t'.length<t.length) :
  YH L (Z1 m f (L.drop i)) dp ((yT L m true fS (L.length+2) [] ⟨i,dp,0⟩).1,zj L m (yT L m true fS (L.length+2) [] ⟨i,dp,0⟩).2):=by
 rw[yT]
 simp only[true_and,Al3,true_or,if_true,zcD,Z1]
 refine(hf.rel i).bind (g:=fun q=>((yT L m true fS (L.length+1) [q.1] q.2).1,zj L m (yT L m true fS (L.length+1) [q.1] q.2).2)) (fun a i' e1 _=>?_) fun q hq=>by simp only;rw[YG hq,Zp hq]
 have hl:=hlt _ _ _ e1
 simp only[yH] at hl
 exact zc2 hf _ _ _ i' (fun _=>by simp) (by simp) (by omega) hlt
theorem zgJ {α:Type} {L:TS} {m:List UInt8} {f:St→α×St} {n:Nat} {l:List α} {s:St} (h:s.e≠0):zae L m f n l s=(l,s):=by
 cases n with
 | zero=>rfl
 | succ n=>simp[zae,ZO h]
theorem zg1 {α:Type} {L:TS} {m:List UInt8} {f:TS→PR α} {fS:St→α×St} {dp:Int} (hf:SimS L f dp fS):∀(n k:Nat) (l:List α) (i:Nat),L.length-i<n→L.length-i<k→(∀ t a t',f t=.ok (a,t')→t'.length<t.length) →
  YH L (zaf m f n l (L.drop i)) dp (zae L m fS k l ⟨i,dp,0⟩)
 | 0,_,_,_,h,_,_=>by omega
 | _,0,_,_,_,h,_=>by omega
 | n+1,k+1,l,i,h1,h2,hlt=>by
  simp only[zaf,zae]
  rw[yL]
  cases hp:isP m (L.drop i) with
  | true =>
   simp only[if_true]
   rw[Z5 hp,yj]
   refine(hf.rel (i+1)).bind (g:=fun q=>zae L m fS k (l++[q.1]) q.2) (fun a i' e1 _=>?_) fun q hq=>by rw[zgJ hq]
   have hl:=hlt _ _ _ e1
   simp only[yH] at hl
   exact zg1 hf n k _ i' (by omega) (by omega) hlt
  | false=>exact .ok
def Zh (x:Tok):Prop:=x.k=3∨x.k=4→zbC x.s=x.k
theorem zry {L:TS} {i:Nat} (h:(hdT (L.drop i)).k≠0):hdT (L.drop i)∈L:=by
 refine List.mem_of_mem_drop (i:=i) ?_
 generalize L.drop i=t at *
 cases t with
 | nil=>exact absurd rfl h
 | cons x t=>simp[hdT]
theorem zju {t:Tok} (h:Zh t) (hk:t.k=3∨t.k=4):zcf t=zgK t.s:=by
 have hn:=h hk
 unfold zcf zgK
 rcases hk with hk|hk
 ·rw[hk] at hn
  have e:=zsh hn
  simp only[hk,true_and,zaD,hn,decide_true,Bool.and_true,e]
  cases hp:okI (Lib.parseIntB 64 t.s) with
  | true =>
   have:=zpw hn (by rw[e];exact hp)
   simp[this]
  | false=>simp
 ·rw[hk] at hn
  simp[hk,zaD,hn]
theorem zqQ (d:Int) (s:St):(upS d s).e=s.e:=rfl
theorem zbm {L:TS} {m:List UInt8} {s:St} (h:s.e≠0):(yI L m s).e=s.e:=by simp[yI,ZO h,Zp h,zqQ]
theorem YI {L:TS} {m:List UInt8} {s:St} (h:s.e≠0):(YC L m s).e=s.e:=by simp[YC,Zp h,zqQ]
theorem zaZ {L:TS} {f:TS→PR Val} {fS:St→Val×St} {dp:Int} (hf:SimS L f dp fS):SimS L (yW f) dp (ZS L fS):=by
 refine⟨fun i=>?_,fun s h=>?_⟩
 ·unfold yW
  refine(Zd L i dp).bind (β:=Mem) (g:=fun q=>(.mk q.1 (fS (zj L [58] q.2)).1,(fS (zj L [58] q.2)).2)) (fun nm i1 _ _=>?_) fun q hq=>by simp only;rw[Zp hq,hf.bad _ hq]
  refine(zbr L [58] i1 dp).bind (β:=Mem) (g:=fun q=>(.mk nm (fS q.2).1,(fS q.2).2)) (fun _ i2 _ _=>?_) fun q hq=>hf.bad _ hq
  exact(hf.rel i2).bind (β:=Mem) (g:=fun q=>(.mk nm q.1,q.2)) (fun v i3 _ _=>.ok) fun q hq=>rfl
 ·simp only[ZS]
  rw[yO h]
  simp only
  rw[Zp h,hf.bad _ h]
theorem zrw {dp:Int} (h0:0≤dp) (h1:dp≤16):IntKind.wrap .i64 (dp+1)=dp+1∧IntKind.wrap .i64 (dp+1+-1)=dp:=by
 refine⟨wrap64 (by omega) (by omega),?_⟩
 rw[wrap64 (by omega) (by omega)];omega
theorem zd4 {L:TS} {m:List UInt8} {i:Nat} {dp:Int} (h:isP m (L.drop i)=true) (h0:0≤dp) (h1:dp<16):yI L m ⟨i,dp,0⟩=⟨i+1,dp+1,0⟩:=by
 unfold yI
 rw[yL,h]
 have:decide (16≤(St.mk i dp 0).dp)=false:=decide_eq_false (by simp only;omega)
 rw[this]
 simp only[Bool.and_false,Al7,if_false,Z5 h,upS,(zrw h0 (by omega)).1]
theorem zbT {L:TS} {m:List UInt8} {i:Nat} (h:isP m (L.drop i)=true):yI L m ⟨i,16,0⟩=⟨i,16,4⟩:=by
 unfold yI
 rw[yL,h]
 rfl
theorem zei {L:TS} {m:List UInt8} {i:Nat} {dp:Int} (h:isP m (L.drop i)=false):(yI L m ⟨i,dp,0⟩).e=2:=by
 unfold yI
 rw[yL,h]
 simp[zj,yL,h,yV,upS]
theorem zgD {α β:Type} {L:TS} {x:PR α} {dp:Int} {a:α} {m:List UInt8} {s:St} (F:α→β) (h0:0≤dp) (h1:dp<16) (h:YH L x (dp+1) (a,zj L m s)):YH L (pb x fun l t=>.ok (F l,t)) dp (F a,YC L m s):=by
 refine h.bind (β:=β) (g:=fun q=>(F q.1,upS (-1) q.2)) (fun l i _ _=>?_) fun q hq=>rfl
 refine⟨i,rfl,?_⟩
 simp only[upS,(zrw h0 (by omega)).2]
theorem zcL {L:TS} (hL:∀ x∈L,Zh x) (fixed:Bool):∀ k:Nat,k≤16→SimS L (ZA fixed k) (16-k) (ZE L fixed k):=by
 have bad:∀ k s,s.e≠0→(ZE L fixed k s).2.e=s.e:=fun k s h=>by
  cases k<;>simp[ZE,ze6 h,ZO h,zbu h]
 have leaf:∀(i:Nat) (dp:Int),(hdT (L.drop i)).k=3∨(hdT (L.drop i)).k=4∨(hdT (L.drop i)).k=5∨(hdT (L.drop i)).k=2→∀ k,YH L (ZA fixed k (L.drop i)) dp (zbz L ⟨i,dp,0⟩):=fun i dp h k=>by
  have hne:(hdT (L.drop i)).k≠0:=by omega
  have hm:=hL _ (zry hne)
  rw[y9,za6.eq_def]
  unfold zbz
  rw[hd_ok]
  generalize hdT (L.drop i)=x at *
  rcases h with h|h|h|h
  ·simp only[h,show ¬ ((3:Int)=2) by decide,if_false,true_or,if_true,yj,zju hm (.inl h)];exact .ok
  ·simp only[h,show ¬ ((4:Int)=2) by decide,if_false,or_true,if_true,yj,zju hm (.inr h)];exact .ok
  ·simp only[h,show ¬ ((5:Int)=2) by decide,show ¬ ((5:Int)=3∨(5:Int)=4) by decide,if_false,if_true,yj];exact .ok
  ·simp only[h,show ¬ ((2:Int)=5) by decide,show ¬ ((2:Int)=3∨(2:Int)=4) by decide,if_false,if_true,yj];exact .ok
 have rest:∀(i:Nat) (dp:Int) (k:Nat),¬ ((hdT (L.drop i)).k=3∨(hdT (L.drop i)).k=4∨(hdT (L.drop i)).k=5∨(hdT (L.drop i)).k=2)→isP [91] (L.drop i)=false→isP [123] (L.drop i)=false →
   YH L (ZA fixed k (L.drop i)) dp (if isS L [36] ⟨i,dp,0⟩&&!fixed then zaG L ⟨i,dp,0⟩ else (zV,yV 2 ⟨i,dp,0⟩)):=fun i dp k h h1 h2=>by
  rw[y9,za6.eq_def,h1,h2]
  simp only[not_or] at h
  simp only[h.2.2.2,h.1,h.2.1,h.2.2.1,or_self,if_false,Al7]
  cases fixed with
  | true=>simp only[if_true,Bool.not_true,Bool.and_false,Al7,if_false];exact⟨by decide,rfl⟩
  | false =>
   simp only[Al7,if_false,Bool.not_false,Bool.and_true]
   rw[yL]
   cases hd:isP [36] (L.drop i) with
   | false =>
    simp only[Al7,if_false,ZY,hd,pb]
    exact⟨by decide,rfl⟩
   | true =>
    simp only[if_true]
    refine(zbr L [36] i dp).bind (β:=Val) (g:=fun q=>(.mk 8 0 (zg L q.2).1 [] [],(zg L q.2).2)) (fun _ i1 _ _=>?_) fun q hq=>by simp only;rw[yO hq]
    exact(Zd L i1 dp).bind (β:=Val) (g:=fun q=>(.mk 8 0 q.1 [] [],q.2)) (fun _ _ _ _=>.ok) fun q hq=>rfl
 intro k
 induction k with
 | zero =>
  intro _
  refine⟨fun i=>?_,bad 0⟩
  rw[ZE,hd_ok]
  split
  ·rename_i h;exact leaf i _ h 0
  rename_i h
  have hr:=rest i ((16:Int)-(0:Nat)) 0 h
  rw[yL] at hr ⊢
  have nd:∀ m n:List UInt8,m≠n→isP m (L.drop i)=true→isP n (L.drop i)=false:=fun m n hmn hm=>by
   simp only[isP,Al0,z7] at hm
   simp[isP,hm.2,hmn]
  have hk:∀ m,isP m (L.drop i)=true→(hdT (L.drop i)).k=1:=fun m hm=>by
   simp only[isP,Al0,z7] at hm;exact hm.1
  cases h1:isP [91] (L.drop i) with
  | true =>
   have h2:=nd _ [36] (by decide) h1
   rw[y9,za6.eq_def,h2,h1]
   simp only[hk _ h1,Bool.false_and,Al7,if_false,yL,h1,if_true,show ¬ ((1:Int)=2) by decide,show ¬ ((1:Int)=3∨(1:Int)=4) by decide,show ¬ ((1:Int)=5) by decide]
   refine⟨by decide,?_⟩
   have e:=zbT h1
   simp only[Int.natCast_zero,Int.sub_zero,e] at *
   exact YI (show (4:Int)≠0 by decide)
  | false =>
   cases h2:isP [123] (L.drop i) with
   | true =>
    have h3:=nd _ [36] (by decide) h2
    rw[y9,za6.eq_def,h3,h1,h2]
    simp only[hk _ h2,Bool.false_and,Al7,if_false,yL,h1,h2,if_true,show ¬ ((1:Int)=2) by decide,show ¬ ((1:Int)=3∨(1:Int)=4) by decide,show ¬ ((1:Int)=5) by decide]
    refine⟨by decide,?_⟩
    have e:=zbT h2
    simp only[Int.natCast_zero,Int.sub_zero,e] at *
    exact YI (show (4:Int)≠0 by decide)
   | false =>
    simp only[yL,h1,h2,Al7,if_false]
    exact hr h1 h2
 | succ k ih =>
  intro hk16
  have ih:=ih (by omega)
  refine⟨fun i=>?_,bad (k+1)⟩
  rw[ZE,hd_ok]
  split
  ·rename_i h;exact leaf i _ h (k+1)
  rename_i h
  have hr:=rest i ((16:Int)-(k+1:Nat)) (k+1) h
  rw[yL] at hr ⊢
  have nd:∀ m n:List UInt8,m≠n→isP m (L.drop i)=true→isP n (L.drop i)=false:=fun m n hmn hm=>by
   simp only[isP,Al0,z7] at hm
   simp[isP,hm.2,hmn]
  have hk:∀ m,isP m (L.drop i)=true→(hdT (L.drop i)).k=1:=fun m hm=>by
   simp only[isP,Al0,z7] at hm;exact hm.1
  have edp:(16:Int)-(k+1:Nat)+1=16-(k:Nat):=by omega
  cases h1:isP [91] (L.drop i) with
  | true =>
   have h2:=nd _ [36] (by decide) h1
   rw[y9,za6.eq_def,h2,h1]
   simp only[hk _ h1,Bool.false_and,Al7,if_false,yL,h1,if_true,show ¬ ((1:Int)=2) by decide,show ¬ ((1:Int)=3∨(1:Int)=4) by decide,show ¬ ((1:Int)=5) by decide]
   rw[zd4 h1 (by omega) (by omega),yj,edp]
   refine zgD (fun l=>Val.mk 6 0 [] l []) (by omega) (by omega) ?_
   rw[edp]
   exact zc2 ih _ _ [] (i+1) (fun e=>by cases e) (by simp) (by omega) ((y8 fixed k).lt (by decide))
  | false =>
   cases h2:isP [123] (L.drop i) with
   | true =>
    have h3:=nd _ [36] (by decide) h2
    rw[y9,za6.eq_def,h3,h1,h2]
    simp only[hk _ h2,Bool.false_and,Al7,if_false,yL,h1,h2,if_true,show ¬ ((1:Int)=2) by decide,show ¬ ((1:Int)=3∨(1:Int)=4) by decide,show ¬ ((1:Int)=5) by decide]
    rw[zd4 h2 (by omega) (by omega),yj,edp]
    refine zgD (fun l=>Val.mk 7 0 [] [] l) (by omega) (by omega) ?_
    rw[edp]
    exact zc2 (zaZ ih) _ _ [] (i+1) (fun e=>by cases e) (by simp) (by omega) ((yQ (y8 fixed k)).lt (by decide))
   | false =>
    simp only[yL,h1,h2,Al7,if_false]
    exact hr h1 h2
section
variable (L:TS)
def zhh (sels:St→List SelD×St) (k:Nat) (o:List UInt8) (s:St):SelD×St :=
 (.mk 2 [] [] [] (z6 L false k s).1 o (sels (z6 L false k s).2).1,(sels (z6 L false k s).2).2)
def zrN (k:Nat) (s:St):SelD×St:=(.mk 1 [] (zg L s).1 [] (z6 L false k (zg L s).2).1 [] [],(z6 L false k (zg L s).2).2)
def zhf (sels:St→List SelD×St) (k:Nat) (al nm:List UInt8) (a:List Mem) (d:List DirD) (s:St):SelD×St :=
 if isS L [123] s then (.mk 0 al nm a d [] (sels s).1,(sels s).2) else (.mk 0 al nm a d [] [],s)
def zb8 (sels:St→List SelD×St) (k:Nat) (al nm:List UInt8) (s:St):SelD×St :=
 zhf L sels k al nm (yn L false k s).1 (z6 L false k (yn L false k s).2).1 (z6 L false k (yn L false k s).2).2
def zeU (sels : St → List SelD × St) (k : Nat) (s : St) : SelD × St :=
  if isS L [46, 46, 46] s then
    (if ZZ L [111, 110] (zj L [46, 46, 46] s) then zhh L sels k (zg L (zg L (zj L [46, 46, 46] s)).2).1 (zg L (zg L (zj L [46, 46, 46] s)).2).2
     else if ((zj L [46, 46, 46] s).hd L).k = 2 then zrN L k (zj L [46, 46, 46] s)
     else zhh L sels k [] (zj L [46, 46, 46] s))
  else if isS L [58] (zg L s).2 then zb8 L sels k (zg L s).1 (zg L (zj L [58] (zg L s).2)).1 (zg L (zj L [58] (zg L s).2)).2
  else zb8 L sels k [] (zg L s).1 (zg L s).2
def yc:Nat→St→List SelD×St
 | 0,s=>([],YC L [125] (yI L [123] s))
 | k+1,s=>((yT L [125] true (zeU L (yc k) k) (L.length+2) [] (yI L [123] s)).1,YC L [125] (yT L [125] true (zeU L (yc k) k) (L.length+2) [] (yI L [123] s)).2)
def zex (nm:List UInt8) (ty:TyD) (s:St):VarD×St :=
 if isS L [61] s then (⟨nm,ty,true,(ZE L true 16 (zj L [61] s)).1⟩,(ZE L true 16 (zj L [61] s)).2) else (⟨nm,ty,false,zV⟩,s)
def zeP (s:St):VarD×St :=
 zex L (zg L (zj L [36] s)).1 (ZM L 4 (zj L [58] (zg L (zj L [36] s)).2)).1 (ZM L 4 (zj L [58] (zg L (zj L [36] s)).2)).2
def Zw (s:St):List VarD×St:=if isS L [40] s then
  ((yT L [41] true (zeP L) (L.length+2) [] (zj L [40] s)).1,zj L [41] (yT L [41] true (zeP L) (L.length+2) [] (zj L [40] s)).2)
 else ([],s)
def opE (k:Int) (nm:List UInt8) (s:St):OpD×St :=
 (⟨k,nm,(Zw L s).1,(z6 L true 16 (Zw L s).2).1,(yc L 16 (z6 L true 16 (Zw L s).2).2).1⟩,(yc L 16 (z6 L true 16 (Zw L s).2).2).2)
def opS (k:Int) (s:St):OpD×St:=if (s.hd L).k=2 then opE L k (zg L s).1 (zg L s).2 else opE L k [] s
def zed (nm on:List UInt8) (s:St):FragD×St :=
 (⟨nm,on,(z6 L true 16 s).1,(yc L 16 (z6 L true 16 s).2).1⟩,(yc L 16 (z6 L true 16 s).2).2)
def onS (s:St):St:=if ZZ L [111,110] s then s else yV 2 s
def zge (s:St):FragD×St :=
 zed L (Zk L s).1 (zg L (zg L (onS L (Zk L s).2)).2).1 (zg L (zg L (onS L (Zk L s).2)).2).2
def ZD (d:DocD) (s:St):DocD×St :=
 if isS L [123] s then (⟨d.ops++[⟨0,[],[],[],(yc L 16 s).1⟩],d.frags⟩,(yc L 16 s).2)
 else if ZZ L [113,117,101,114,121] s||ZZ L [109,117,116,97,116,105,111,110] s then
  (⟨d.ops++[(opS L (if (zg L s).1=[109,117,116,97,116,105,111,110] then 1 else 0) (zg L s).2).1],d.frags⟩,(opS L (if (zg L s).1=[109,117,116,97,116,105,111,110] then 1 else 0) (zg L s).2).2)
 else if ZZ L [102,114,97,103,109,101,110,116] s then (⟨d.ops,d.frags++[(zge L (zg L s).2).1]⟩,(zge L (zg L s).2).2)
 else (d,yV 2 s)
def zbs:Nat→Bool→DocD→St→DocD×St
 | 0,_,d,s=>(d,s)
 | n+1,first,d,s=>if s.e=0∧(first=true∨s.i<L.length) then zbs n false (ZD L d s).1 (ZD L d s).2 else (d,s)
end
theorem zc5 {L:TS} {fixed:Bool} {k:Nat} {s:St} (h:s.e≠0):yn L fixed k s=([],s):=by simp[yn,ZO h]
theorem Yn {L:TS} {fixed:Bool} {k:Nat} {s:St} (h:s.e≠0):z6 L fixed k s=([],s):=by simp[z6,zgJ h]
theorem zc6 {L:TS} (hL:∀ x∈L,Zh x) (fixed:Bool) (k:Nat) (hk:k≤16):SimS L (Y2 fixed k) (16-k) (yn L fixed k):=by
 refine⟨fun i=>?_,fun s h=>by rw[zc5 h]⟩
 unfold Y2 yn
 rw[yL]
 cases hp:isP [40] (L.drop i) with
 | true =>
  simp only[if_true]
  rw[Z5 hp,yj]
  exact zdH (zaZ (zcL hL fixed k hk)) (i+1) ((yQ (y8 fixed k)).lt (by decide))
 | false=>exact .ok
theorem zkl {L:TS} (hL:∀ x∈L,Zh x) (fixed:Bool) (k:Nat) (hk:k≤16):SimS L (zf7 fixed k) (16-k) (zle L fixed k):=by
 refine⟨fun i=>?_,fun s h=>by simp only[zle];rw[yO h,zc5 h]⟩
 unfold zf7
 refine(Zd L i _).bind (β:=DirD) (g:=fun q=>(⟨q.1,(yn L fixed k q.2).1⟩,(yn L fixed k q.2).2)) (fun nm i1 _ _=>?_) fun q hq=>by (try simp only);rw[zc5 hq]
 exact((zc6 hL fixed k hk).rel i1).bind (β:=DirD) (g:=fun q=>(⟨nm,q.1⟩,q.2)) (fun _ _ _ _=>.ok) fun q hq=>rfl
theorem yN {L:TS} (hL:∀ x∈L,Zh x) (fixed:Bool) (k:Nat) (hk:k≤16):SimS L (Ya fixed k) (16-k) (z6 L fixed k):=by
 refine⟨fun i=>?_,fun s h=>by rw[Yn h]⟩
 exact zg1 (zkl hL fixed k hk) _ _ [] i (by simp) (by omega) ((zcc fixed k).lt (by decide))
theorem zoE {L:TS} {sels:St→List SelD×St} (hs:Bad sels) {k:Nat} {o:List UInt8} {s:St} (h:s.e≠0):(zhh L sels k o s).2.e=s.e:=by
 simp only[zhh];rw[Yn h];exact hs s h
theorem zg5 {L:TS} {sels:St→List SelD×St} {k:Nat} {al nm:List UInt8} {a:List Mem} {d:List DirD} {s:St} (h:s.e≠0):(zhf L sels k al nm a d s).2.e=s.e:=by
 simp[zhf,ZO h]
theorem zgL {L:TS} {sels:St→List SelD×St} {k:Nat} {al nm:List UInt8} {s:St} (h:s.e≠0):(zb8 L sels k al nm s).2.e=s.e:=by
 simp only[zb8];rw[zc5 h,Yn h];exact zg5 h
theorem zke {L:TS} (hL:∀ x∈L,Zh x) {k:Nat} (hk:k≤16) {sels:TS→PR (List SelD)} {sS:St→List SelD×St} (hs:SimS L sels (16-k) sS) (o:List UInt8) (i:Nat) :
  YH L (pb (Ya false k (L.drop i)) fun d t=>pb (sels t) fun l t=>.ok (SelD.mk 2 [] [] [] d o l,t)) (16-k) (zhh L sS k o ⟨i,16-k,0⟩):=by
 refine((yN hL false k hk).rel i).bind (β:=SelD) (g:=fun q=>(.mk 2 [] [] [] q.1 o (sS q.2).1,(sS q.2).2)) (fun d i1 _ _=>?_) fun q hq=>hs.bad _ hq
 exact(hs.rel i1).bind (β:=SelD) (g:=fun q=>(.mk 2 [] [] [] d o q.1,q.2)) (fun _ _ _ _=>.ok) fun q hq=>rfl
theorem zkf {L:TS} (hL:∀ x∈L,Zh x) {k:Nat} (hk:k≤16) {sels:TS→PR (List SelD)} {sS:St→List SelD×St} (hs:SimS L sels (16-k) sS) (al nm:List UInt8) (i:Nat) :
  YH L (pb (Y2 false k (L.drop i)) fun a t=>pb (Ya false k t) fun d t=>pb (if isP [123] t then sels t else .ok ([],t)) fun l t=>.ok (SelD.mk 0 al nm a d [] l,t)) (16-k) (zb8 L sS k al nm ⟨i,16-k,0⟩):=by
 refine((zc6 hL false k hk).rel i).bind (β:=SelD) (g:=fun q=>zhf L sS k al nm q.1 (z6 L false k q.2).1 (z6 L false k q.2).2) (fun a i1 _ _=>?_) fun q hq=>by (try simp only);rw[Yn hq];exact zg5 hq
 refine((yN hL false k hk).rel i1).bind (β:=SelD) (g:=fun q=>zhf L sS k al nm a q.1 q.2) (fun d i2 _ _=>?_) fun q hq=>zg5 hq
 unfold zhf
 rw[yL]
 cases hp:isP [123] (L.drop i2) with
 | true=>exact(hs.rel i2).bind (β:=SelD) (g:=fun q=>(.mk 0 al nm a d [] q.1,q.2)) (fun _ _ _ _=>.ok) fun q hq=>rfl
 | false=>exact .ok
theorem zkn {L:TS} (hL:∀ x∈L,Zh x) {k:Nat} (hk:k≤16) {sels:TS→PR (List SelD)} {sS:St→List SelD×St} (hs:SimS L sels (16-k) sS):SimS L (zaQ sels k) (16-k) (zeU L sS k):=by
 refine⟨fun i=>?_,fun s h=>?_⟩
 ·unfold zaQ zeU
  rw[yL]
  cases hp:isP [46,46,46] (L.drop i) with
  | true =>
   simp only[if_true]
   rw[Z5 hp,yj,zbo,hd_ok]
   unfold ZG
   cases hw:isW [111,110] (L.drop (i+1)) with
   | true =>
    have hk2:(hdT (L.drop (i+1))).k=2:=by
     simp only[isW,Al0,z7] at hw;exact hw.1
    have e:zg L ⟨i+1,16-k,0⟩=([111,110],⟨i+2,16-k,0⟩):=by
     unfold zg
     rw[hd_ok,if_pos hk2]
     simp only[isW,Al0,z7] at hw
     rw[hw.2];rfl
    simp only[if_true,Bool.true_eq_false,and_false,if_false,e,yj]
    refine(Zd L (i+2) _).bind (β:=SelD) (g:=fun q=>zhh L sS k q.1 q.2) (fun o i1 _ _=>zke hL hk hs o i1) fun q hq=>zoE hs.bad hq
   | false =>
    simp only[Al7,if_false,and_true]
    split
    ·refine(Zd L (i+1) _).bind (β:=SelD) (g:=fun q=>(.mk 1 [] q.1 [] (z6 L false k q.2).1 [] [],(z6 L false k q.2).2)) (fun nm i1 _ _=>?_) fun q hq=>by (try simp only);rw[Yn hq]
     exact((yN hL false k hk).rel i1).bind (β:=SelD) (g:=fun q=>(.mk 1 [] nm [] q.1 [] [],q.2)) (fun _ _ _ _=>.ok) fun q hq=>rfl
    ·exact zke hL hk hs [] (i+1)
  | false =>
   simp only[Al7,if_false]
   refine(Zd L i _).bind (β:=SelD) (g:=fun q=>if isS L [58] q.2 then zb8 L sS k q.1 (zg L (zj L [58] q.2)).1 (zg L (zj L [58] q.2)).2 else zb8 L sS k [] q.1 q.2) (fun s i1 _ _=>?_) fun q hq=>by
    (try simp only);rw[ZO hq];simp only[Al7,if_false];exact zgL hq
   try simp only
   rw[yL]
   cases hc:isP [58] (L.drop i1) with
   | true =>
    simp only[if_true]
    rw[Z5 hc,yj]
    have e:∀(x:PR (List UInt8)) (h:(List UInt8×List UInt8)→TS→PR SelD),pb (pb x fun s2 t=>.ok ((s,s2),t)) h=pb x fun s2 t=>h (s,s2) t:=fun x h=>by rcases x with n|⟨a,t⟩<;>rfl
    rw[e]
    exact(Zd L (i1+1) _).bind (β:=SelD) (g:=fun q=>zb8 L sS k s q.1 q.2) (fun s2 i2 _ _=>zkf hL hk hs s s2 i2) fun q hq=>zgL hq
   | false=>exact zkf hL hk hs [] s i1
 ·simp only[zeU]
  rw[ZO h,yO h]
  simp only[Al7,if_false]
  rw[ZO h]
  exact zgL h
theorem zoZ {L:TS} {m:List UInt8} {i:Nat}:(yI L m ⟨i,16,0⟩).e≠0:=by
 cases h:isP m (L.drop i) with
 | true=>rw[zbT h];exact(show (4:Int)≠0 by decide)
 | false=>rw[zei h];decide
theorem zcX {L:TS} (hL:∀ x∈L,Zh x):∀ k:Nat,k≤16→SimS L (yo k) (16-k) (yc L k):=by
 intro k
 induction k with
 | zero =>
  intro _
  refine⟨fun i=>?_,fun s h=>by simp only[yc];rw[YI (by rw[zbm h];exact h),zbm h]⟩
  rw[yo,yc]
  cases h:isP [123] (L.drop i) with
  | true =>
   have e:=zbT h
   simp only[Int.natCast_zero,Int.sub_zero,if_true] at *
   refine⟨by decide,?_⟩
   try simp only
   rw[e]
   exact YI (show (4:Int)≠0 by decide)
  | false =>
   have e:=zei (dp:=16-((0:Nat):Int)) h
   simp only[Al7,if_false]
   refine⟨by decide,?_⟩
   try simp only
   rw[YI (by rw[e];decide),e]
 | succ k ih =>
  intro hk
  have ih:=ih (by omega)
  have edp:(16:Int)-(k+1:Nat)+1=16-(k:Nat):=by omega
  refine⟨fun i=>?_,fun s h=>by
   have h2:(yI L [123] s).e≠0:=by rw[zbm h];exact h
   simp only[yc];rw[YG h2,YI h2,zbm h]⟩
  rw[yo,yc]
  cases h:isP [123] (L.drop i) with
  | true =>
   simp only[if_true]
   rw[zd4 h (by omega) (by omega),yj,edp]
   have e:Z1 [125] (zaQ (yo k) k) (L.drop (i+1))=pb (Z1 [125] (zaQ (yo k) k) (L.drop (i+1))) fun l t=>.ok (l,t):=by
    rcases Z1 [125] (zaQ (yo k) k) (L.drop (i+1)) with n|⟨a,t⟩<;>rfl
   rw[e]
   refine zgD (fun l=>l) (by omega) (by omega) ?_
   rw[edp]
   exact zdH (zkn hL (by omega) ih) (i+1) ((zbq (Zr k)).lt (by decide))
  | false =>
   have e:=zei (dp:=16-((k+1:Nat):Int)) h
   have e2:(yI L [123] ⟨i,16-((k+1:Nat):Int),0⟩).e≠0:=by rw[e];decide
   simp only[Al7,if_false]
   refine⟨by decide,?_⟩
   try simp only
   rw[YG e2]
   try simp only
   rw[YI e2,e]
theorem zo3 {m:Int} (h0:0≤m) (h1:m<64) (h2:m % 2=0):or1 m=m+1:=by
 have:∀ x:Fin 64,x.val % 2=0→or1 (x.val:Int)=(x.val:Int)+1:=by decide +kernel
 have:=this ⟨m.toNat,by omega⟩ (by (try simp only);omega)
 simp only[Int.toNat_of_nonneg h0] at this
 exact this
theorem zqE {m:Int} (h0:0≤m) (h1:m<64):zm5 m=m*2:=by
 have e:min 1 IntKind.i64.bits=1:=by decide
 unfold zm5;rw[e];exact wrap64 (by omega) (by omega)
theorem zcO {L:TS} {ty:TyD} {s:St} (h:s.e≠0):Z8 L ty s=(ty,s):=by simp[Z8,ZO h]
theorem zh1 {L:TS} {ty:TyD} (h0:0≤ty.musts) (h1:ty.musts<64) (h2:ty.musts % 2=0) (i:Nat) (dp:Int):YH L (zck ty (L.drop i)) dp (Z8 L ty ⟨i,dp,0⟩):=by
 unfold zck Z8
 rw[yL]
 cases hp:isP [33] (L.drop i) with
 | true =>
  simp only[if_true]
  rw[Z5 hp,yj,zo3 h0 h1 h2]
  exact .ok
 | false=>exact .ok
theorem Z7 {L:TS}:∀ k s,s.e≠0→(ZM L k s).2.e=s.e:=fun k s h=>by
 cases k<;>(simp only[ZM];rw[ZO h,yO h];simp only[Al7,if_false];rw[zcO h])
theorem zf4 {L:TS} (dp:Int):∀ k:Nat,k≤4→SimS L (zcl k) dp (ZM L k):=by
 have nm:∀ i:Nat,YH L (pb (yP (L.drop i)) fun s t=>zck ⟨s,0,0⟩ t) dp (Z8 L ⟨(zg L ⟨i,dp,0⟩).1,0,0⟩ (zg L ⟨i,dp,0⟩).2):=fun i =>
  (Zd L i dp).bind (β:=TyD) (g:=fun q=>Z8 L ⟨q.1,0,0⟩ q.2) (fun s i1 _ _=>zh1 (by simp) (by simp) (by simp) i1 dp) fun q hq=>by (try simp only);rw[zcO hq]
 intro k
 induction k with
 | zero =>
  intro _
  refine⟨fun i=>?_,Z7 0⟩
  rw[zar,zfK.eq_def,ZM,yL]
  cases hp:isP [91] (L.drop i) with
  | true=>exact⟨by decide,rfl⟩
  | false=>exact nm i
 | succ k ih =>
  intro hk
  have ih:=ih (by omega)
  refine⟨fun i=>?_,Z7 (k+1)⟩
  rw[zar,zfK.eq_def,ZM,yL]
  cases hp:isP [91] (L.drop i) with
  | false=>exact nm i
  | true =>
   simp only[if_true]
   rw[Z5 hp,yj]
   refine(ih.rel (i+1)).bind (β:=TyD) (g:=fun q=>Z8 L (Zs q.1) (zj L [93] q.2)) (fun ty i1 e1 _=>?_) fun q hq=>by (try simp only);rw[Zp hq,zcO hq]
   obtain⟨a1,a2,a3,a4⟩:=(zgb k _ _ _ e1).ok
   have h5:(2:Int) ^ (ty.lists.toNat+1)≤2 ^ 4:=by
    have:ty.lists.toNat+1≤4:=by omega
    exact_mod_cast Nat.pow_le_pow_right (by decide) this
   have ew:Zs ty=⟨ty.nm,ty.lists+1,ty.musts*2⟩:=by
    unfold Zs;rw[zqE a3 (by omega),wrap64 (by omega) (by omega)]
   refine(zbr L [93] i1 dp).bind (β:=TyD) (g:=fun q=>Z8 L (Zs ty) q.2) (fun _ i2 _ _=>?_) fun q hq=>by (try simp only);rw[zcO hq]
   try simp only
   rw[ew]
   exact zh1 (by (try simp only);omega) (by (try simp only);omega) (by (try simp only);omega) i2 dp
theorem zjl {L:TS} (hL:∀ x∈L,Zh x):SimS L zao 0 (zeP L):=by
 have eb:∀ nm ty s,s.e≠0→(zex L nm ty s).2.e=s.e:=fun nm ty s h=>by simp[zex,ZO h]
 refine⟨fun i=>?_,fun s h=>by simp only[zeP];rw[Zp h,yO h];(try simp only);rw[Zp h];rw[eb _ _ _ (by rw[Z7 4 s h];exact h),Z7 4 s h]⟩
 refine(zbr L [36] i 0).bind (β:=VarD) (g:=fun q=>zex L (zg L q.2).1 (ZM L 4 (zj L [58] (zg L q.2).2)).1 (ZM L 4 (zj L [58] (zg L q.2).2)).2) (fun _ i1 _ _=>?_) fun q hq=>by
  (try simp only);rw[yO hq];(try simp only);rw[Zp hq];rw[eb _ _ _ (by rw[Z7 4 _ hq];exact hq),Z7 4 _ hq]
 refine(Zd L i1 0).bind (β:=VarD) (g:=fun q=>zex L q.1 (ZM L 4 (zj L [58] q.2)).1 (ZM L 4 (zj L [58] q.2)).2) (fun nm i2 _ _=>?_) fun q hq=>by
  (try simp only);rw[Zp hq];rw[eb _ _ _ (by rw[Z7 4 _ hq];exact hq),Z7 4 _ hq]
 refine(zbr L [58] i2 0).bind (β:=VarD) (g:=fun q=>zex L nm (ZM L 4 q.2).1 (ZM L 4 q.2).2) (fun _ i3 _ _=>?_) fun q hq=>by
  (try simp only);rw[eb _ _ _ (by rw[Z7 4 _ hq];exact hq),Z7 4 _ hq]
 refine((zf4 0 4 (by decide)).rel i3).bind (β:=VarD) (g:=fun q=>zex L nm q.1 q.2) (fun ty i4 _ _=>?_) fun q hq=>eb _ _ _ hq
 try simp only
 unfold zex
 rw[yL]
 cases hp:isP [61] (L.drop i4) with
 | true =>
  simp only[if_true]
  rw[Z5 hp,yj]
  exact((zcL hL true 16 (by decide)).rel (i4+1)).bind (β:=VarD) (g:=fun q=>(⟨nm,ty,true,q.1⟩,q.2)) (fun _ _ _ _=>.ok) fun q hq=>rfl
 | false=>exact .ok
theorem zih {L:TS} {s:St} (h:s.e≠0):Zw L s=([],s):=by simp[Zw,ZO h]
theorem zin {L:TS} (hL:∀ x∈L,Zh x) (i:Nat):YH L (if isP [40] (L.drop i) then Z1 [41] zao (L.drop i).tail else .ok ([],L.drop i)) 0 (Zw L ⟨i,0,0⟩):=by
 unfold Zw
 rw[yL]
 cases hp:isP [40] (L.drop i) with
 | true =>
  simp only[if_true]
  rw[Z5 hp,yj]
  exact zdH (zjl hL) (i+1) (Y5.lt (by decide))
 | false=>exact .ok
theorem zmg {L:TS} (hL:∀ x∈L,Zh x) (kind:Int):SimS L (opP kind) 0 (opS L kind):=by
 have hs:=zcX hL 16 (by decide)
 have hd:=yN hL true 16 (by decide)
 have eb:∀ nm s,s.e≠0→(opE L kind nm s).2.e=s.e:=fun nm s h=>by simp only[opE];rw[zih h,Yn h,hs.bad _ h]
 have er:∀ nm i,YH L (pb (if isP [40] (L.drop i) then Z1 [41] zao (L.drop i).tail else .ok ([],L.drop i)) fun vs t=>pb (Ya true 16 t) fun d t=>pb (yo 16 t) fun l t=>.ok (OpD.mk kind nm vs d l,t)) 0 (opE L kind nm ⟨i,0,0⟩):=fun nm i=>by
  refine(zin hL i).bind (β:=OpD) (g:=fun q=>(⟨kind,nm,q.1,(z6 L true 16 q.2).1,(yc L 16 (z6 L true 16 q.2).2).1⟩,(yc L 16 (z6 L true 16 q.2).2).2)) (fun vs i1 _ _=>?_) fun q hq=>by (try simp only);rw[Yn hq,hs.bad _ hq]
  refine(hd.rel i1).bind (β:=OpD) (g:=fun q=>(⟨kind,nm,vs,q.1,(yc L 16 q.2).1⟩,(yc L 16 q.2).2)) (fun d i2 _ _=>?_) fun q hq=>hs.bad _ hq
  exact(hs.rel i2).bind (β:=OpD) (g:=fun q=>(⟨kind,nm,vs,d,q.1⟩,q.2)) (fun _ _ _ _=>.ok) fun q hq=>rfl
 refine⟨fun i=>?_,fun s h=>?_⟩
 ·unfold opP opS
  rw[hd_ok]
  split
  ·exact(Zd L i 0).bind (β:=OpD) (g:=fun q=>opE L kind q.1 q.2) (fun nm i1 _ _=>er nm i1) fun q hq=>eb _ _ hq
  ·exact er [] i
 ·simp only[opS]
  rw[ze6 h]
  exact eb _ _ h
theorem zl7 {L:TS} {s:St} (h:s.e≠0):onS L s=s:=by simp[onS,zhC h,zbu h]
theorem zkS {L:TS} {s:St} (h:s.e≠0):Zk L s=([],s):=by simp[Zk,zhC h,yO h]
theorem zm9 {L:TS} (hL:∀ x∈L,Zh x):SimS L zdn 0 (zge L):=by
 have hs:=zcX hL 16 (by decide)
 have hd:=yN hL true 16 (by decide)
 have eb:∀ nm o s,s.e≠0→(zed L nm o s).2.e=s.e:=fun nm o s h=>by simp only[zed];rw[Yn h,hs.bad _ h]
 refine⟨fun i=>?_,fun s h=>by simp only[zge];rw[zkS h];(try simp only);rw[zl7 h,yO h];(try simp only);rw[yO h,eb _ _ _ h]⟩
 have h1:YH L (if isW [111,110] (L.drop i) then .error 2 else yP (L.drop i)) 0 (Zk L ⟨i,0,0⟩):=by
  unfold Zk
  rw[zbo]
  cases hw:isW [111,110] (L.drop i) with
  | true =>
   simp only[if_true]
   refine⟨by decide,?_⟩
   have e:(yV 2 ⟨i,0,0⟩:St).e≠0:=by simp[yV]
   rw[yO e];rfl
  | false=>exact Zd L i 0
 refine h1.bind (β:=FragD) (g:=fun q=>zed L q.1 (zg L (zg L (onS L q.2)).2).1 (zg L (zg L (onS L q.2)).2).2) (fun nm i1 _ _=>?_) fun q hq=>by (try simp only);rw[zl7 hq,yO hq];(try simp only);rw[yO hq,eb _ _ _ hq]
 have h2:YH L (if isW [111,110] (L.drop i1) then .ok ((),(L.drop i1).tail) else .error 2) 0 ((),(zg L (onS L ⟨i1,0,0⟩)).2):=by
  unfold onS
  rw[zbo]
  cases hw:isW [111,110] (L.drop i1) with
  | true =>
   have hk2:(hdT (L.drop i1)).k=2:=by
    simp only[isW,Al0,z7] at hw;exact hw.1
   simp only[if_true]
   refine⟨i1+1,yj L i1,?_⟩
   unfold zg
   rw[hd_ok,if_pos hk2];rfl
  | false =>
   simp only[Al7,if_false]
   refine⟨by decide,?_⟩
   have e:(yV 2 ⟨i1,0,0⟩:St).e≠0:=by simp[yV]
   rw[yO e];rfl
 refine h2.bind (β:=FragD) (g:=fun q=>zed L nm (zg L q.2).1 (zg L q.2).2) (fun _ i2 _ _=>?_) fun q hq=>by (try simp only);rw[yO hq,eb _ _ _ hq]
 refine(Zd L i2 0).bind (β:=FragD) (g:=fun q=>zed L nm q.1 q.2) (fun o i3 _ _=>?_) fun q hq=>eb _ _ _ hq
 refine(hd.rel i3).bind (β:=FragD) (g:=fun q=>(⟨nm,o,q.1,(yc L 16 q.2).1⟩,(yc L 16 q.2).2)) (fun d i4 _ _=>?_) fun q hq=>hs.bad _ hq
 exact(hs.rel i4).bind (β:=FragD) (g:=fun q=>(⟨nm,o,d,q.1⟩,q.2)) (fun _ _ _ _=>.ok) fun q hq=>rfl
theorem zgr {L:TS} (hL:∀ x∈L,Zh x) (d:DocD) (i:Nat):YH L (Yp d (L.drop i)) 0 (ZD L d ⟨i,0,0⟩):=by
 have hs:SimS L (yo 16) 0 (yc L 16):=zcX hL 16 (by decide)
 have hn:∀ w,isW w (L.drop i)=true→zg L ⟨i,0,0⟩=(w,⟨i+1,0,0⟩):=fun w hw=>by
  simp only[isW,Al0,z7] at hw
  unfold zg
  rw[hd_ok,if_pos hw.1,hw.2];rfl
 unfold Yp ZD
 rw[yL,zbo,zbo,zbo]
 cases h1:isP [123] (L.drop i) with
 | true =>
  simp only[if_true]
  refine(hs.rel i).bind (β:=DocD) (g:=fun q=>(⟨d.ops++[⟨0,[],[],[],q.1⟩],d.frags⟩,q.2)) (fun _ _ _ _=>?_) fun q hq=>rfl;exact .ok
 | false =>
  simp only[Al7,if_false]
  cases h2:isW [113,117,101,114,121] (L.drop i) with
  | true =>
   simp only[Bool.true_or,if_true]
   rw[hn _ h2,yj]
   refine((zmg hL 0).rel (i+1)).bind (β:=DocD) (g:=fun q=>(⟨d.ops++[q.1],d.frags⟩,q.2)) (fun _ _ _ _=>?_) fun q hq=>rfl;exact .ok
  | false =>
   cases h3:isW [109,117,116,97,116,105,111,110] (L.drop i) with
   | true =>
    simp only[Bool.or_true,if_true,Al7,if_false]
    rw[hn _ h3,yj]
    simp only[if_true]
    refine((zmg hL 1).rel (i+1)).bind (β:=DocD) (g:=fun q=>(⟨d.ops++[q.1],d.frags⟩,q.2)) (fun _ _ _ _=>?_) fun q hq=>rfl;exact .ok
   | false =>
    simp only[Bool.or_self,Al7,if_false]
    cases h4:isW [102,114,97,103,109,101,110,116] (L.drop i) with
    | true =>
     simp only[if_true]
     rw[hn _ h4,yj]
     refine((zm9 hL).rel (i+1)).bind (β:=DocD) (g:=fun q=>(⟨d.ops,d.frags++[q.1]⟩,q.2)) (fun _ _ _ _=>?_) fun q hq=>rfl;exact .ok
    | false=>exact⟨by decide,rfl⟩
theorem zfe {L:TS} {n:Nat} {b:Bool} {d:DocD} {s:St} (h:s.e≠0):zbs L n b d s=(d,s):=by
 cases n with
 | zero=>rfl
 | succ n=>simp[zbs,h]
theorem zid {L:TS} (hL:∀ x∈L,Zh x):∀(n k:Nat) (d:DocD) (i:Nat),L.length-i<n→L.length-i<k→YH L (zbn n d (L.drop i)) 0 (zbs L k false d ⟨i,0,0⟩)
 | 0,_,_,_,h,_=>by omega
 | _,0,_,_,_,h=>by omega
 | n+1,k+1,d,i,h1,h2=>by
  simp only[zbn,zbs,Al7,false_or,true_and]
  by_cases hi:i<L.length
  ·rw[if_neg (by simp;omega),if_pos hi]
   refine(zgr hL d i).bind (β:=DocD) (g:=fun q=>zbs L k false q.1 q.2) (fun d' i1 e1 _=>?_) fun q hq=>by (try simp only);rw[zfe hq]
   have:=(zek e1).lt
   simp only[yH] at this
   exact zid hL n k d' i1 (by omega) (by omega)
  ·rw[if_pos (by simp;omega),if_neg hi]
   exact .ok
theorem zpb {L:TS} (hL:∀ x∈L,Zh x):YH L (zfg L) 0 (zbs L (L.length+2) true ⟨[],[]⟩ ⟨0,0,0⟩):=by
 rw[zbs]
 simp only[true_or,and_self,if_true]
 have h:=zgr hL ⟨[],[]⟩ 0
 rw[List.drop_zero] at h
 refine h.bind (β:=DocD) (g:=fun q=>zbs L (L.length+1) false q.1 q.2) (fun d i e1 _=>?_) fun q hq=>by (try simp only);rw[zfe hq]
 exact zid hL _ _ d i (by simp) (by omega)
def yl (x:Tok):AV:=.agg [.int .i64 x.k,.str x.s]
def zaN:Own→Option Nat
 | .tip b _=>some b
 | _=>none
structure Sep (H:za) (l:List (Own×Nat×Nat)):Prop where
 own:∀ x∈l,yq H x.1 x.2.1 x.2.2
 nd:(l.filterMap fun x=>zaN x.1).Nodup
theorem zbM {o:Own} {b:Nat} (h:zaN o=some b):∃ d,o=.tip b d:=by
 cases o<;>simp[zaN] at h
 rename_i c d;subst h;exact⟨d,rfl⟩
theorem yq.ofKept {H H':za} {o o2:Own} {n sz:Nat} (h:yq H o n sz) (hk:Kept H o2 H') (hne:∀ b d d2,o=.tip b d→o2≠.tip b d2):yq H' o n sz:=by
 cases o with
 | tip b d=>exact hk b _ h fun d2 e=>hne b d d2 rfl e
 | no=>exact h
 | nil=>exact h
 | full=>exact h
theorem Sep.step {H H':za} {a b:List (Own×Nat×Nat)} {o o':Own} {n n' sz:Nat} (h:Sep H (a++(o,n,sz)::b)) (h':OwnS H o H' o' n' sz):Sep H' (a++(o',n',sz)::b):=by
 have hnd:=h.nd
 simp only[List.filterMap_append,List.filterMap_cons] at hnd
 have hother:∀ x,x∈a∨x∈b→∀ c d d2,x.1=.tip c d→o≠.tip c d2:=fun x hx c d d2 hxe e=>by
  subst e
  simp only[zaN] at hnd
  rw[List.nodup_append] at hnd
  obtain⟨_,hb,hab⟩:=hnd
  rcases hx with hx|hx
  ·exact hab c (List.mem_filterMap.2 ⟨x,hx,by rw[hxe]⟩) c (YN ..) rfl
  ·exact(List.nodup_cons.1 hb).1 (List.mem_filterMap.2 ⟨x,hx,by rw[hxe]⟩)
 refine⟨fun x hx=>?_,?_⟩
 ·rcases List.mem_append.1 hx with hx|hx
  ·exact yq.ofKept (h.own x (by simp[hx])) h'.kept fun c d d2=>hother x (.inl hx) c d d2
  ·rcases List.mem_cons.1 hx with rfl|hx
   ·exact h'.own
   ·exact yq.ofKept (h.own x (by simp[hx])) h'.kept fun c d d2=>hother x (.inr hx) c d d2
 ·simp only[List.filterMap_append,List.filterMap_cons]
  have hsub:∀ c,c∈a.filterMap (fun x=>zaN x.1)∨c∈b.filterMap (fun x=>zaN x.1)→zaN o'≠some c:=fun c hc e=>by
   obtain⟨d',e⟩:=zbM e
   have hH:H c≠none∧∀ d0,o≠.tip c d0:=by
    rcases hc with hc|hc<;>obtain⟨x,hx,hxe⟩:=List.mem_filterMap.1 hc<;>obtain⟨d,hxe⟩:=zbM hxe
    ·have:=h.own x (by simp[hx]);rw[hxe] at this
     have h2:H c=some _:=this
     exact⟨by simp[h2],fun d0=>hother x (.inl hx) c d d0 hxe⟩
    ·have:=h.own x (by simp[hx]);rw[hxe] at this
     have h2:H c=some _:=this
     exact⟨by simp[h2],fun d0=>hother x (.inr hx) c d d0 hxe⟩
   rcases h'.new c d' e with h1|⟨d0,h1⟩
   ·exact hH.1 h1
   ·exact hH.2 d0 h1
  have hnd2:(a.filterMap (fun x=>zaN x.1)++b.filterMap (fun x=>zaN x.1)).Nodup:=by
   cases ho:zaN o with
   | none=>rw[ho] at hnd;exact hnd
   | some c =>
    rw[ho] at hnd
    rw[List.nodup_append] at hnd ⊢
    exact⟨hnd.1,(List.nodup_cons.1 hnd.2.1).2,fun x hx y hy=>hnd.2.2 x hx y (zaL _ hy)⟩
  cases ho:zaN o' with
  | none=>exact hnd2
  | some c =>
   have hc:=hsub c
   rw[List.nodup_append] at hnd2 ⊢
   refine⟨hnd2.1,List.nodup_cons.2 ⟨fun hm=>hc (.inr hm) ho,hnd2.2.1⟩,fun x hx y hy=>?_⟩
   rcases List.mem_cons.1 hy with rfl|hy
   ·exact fun e=>hc (.inl (e▸hx)) ho
   ·exact hnd2.2.2 x hx y hy
theorem Sep.mono {H H':za} {l:List (Own×Nat×Nat)} (h:Sep H l) (hk:∀ c n sz,H c=some (.tip n sz)→H' c=some (.tip n sz)):Sep H' l :=
 ⟨fun x hx=>by
  have:=h.own x hx
  obtain⟨o,n,sz⟩:=x
  cases o with
  | tip c d=>exact hk c _ _ this
  | no=>exact this
  | nil=>exact this
  | full=>exact this,h.nd⟩
open Go.Lib Go.RowKit Go.Sort
theorem zgO (s:List UInt8) (c:UInt8):zr Tryz.prog 222 [.str s,.int .u8 c.toNat] (.int .i64 (Lib.indexByte s c)):=by
 refine zr.of_calls fun γ w vs ht hv=>?_
 obtain⟨hl,hr⟩:=hv
 match vs,hl with
 | [v,u],_ =>
  cases hr 0 _ _ rfl rfl
  cases hr 1 _ _ rfl rfl
  refine(Tryz.strings_IndexByte ⟨s.toArray⟩ c.toNat w).mono fun e w' ⟨he,hw⟩=>⟨hw,_,he,?_⟩
  have e1:((c.toNat:Int)).toNat.toUInt8=c:=by simp
  rw[e1]
  exact .int _ _
end Go.Proofs.YticbbfbpeimkbaaGreatDoor
namespace Go.Proofs.YticbbfbpeimkbaaGreatDoor
open Go.Ab
theorem yz (l:List UInt8):(bytesOf l).length=l.length:=by simp[bytesOf]
theorem Zg (a b:List UInt8):bytesOf a++bytesOf b=bytesOf (a++b):=by simp[bytesOf]
theorem Z6 (l:List UInt8):(bytesOf l).map (·.map AV.strip1)=bytesOf l:=by simp[bytesOf,AV.strip1]
theorem zaU (l:List UInt8):zdh (bytesOf l)=some l:=by
 induction l with
 | nil=>rfl
 | cons c r ih =>
  have h:=c.toNat_lt
  simp only[bytesOf,List.map_cons] at ih ⊢
  simp only[zdh,ih,yS]
  rw[if_pos ⟨by omega,by omega⟩]
  simp
theorem zfv (acc:List UInt8) (c:UInt8):bytesOf acc++[[.int .u8 c.toNat]]=bytesOf (acc++[c]):=Zg acc [c]
theorem zta {n:Nat} (h:n<4294967296):IntKind.wrap .u32 (n:Int)=n:=by
 have e:IntKind.wrap .u32 (n:Int)=(n:Int) % 4294967296:=rfl
 rw[e];omega
theorem zn1 {n:Nat} (h:n<2147483648):IntKind.wrap .i32 (n:Int)=n:=by
 have e:IntKind.wrap .i32 (n:Int)=if (n:Int) % 4294967296≥2147483648 then (n:Int) % 4294967296-4294967296 else (n:Int) % 4294967296:=by
  simp[IntKind.wrap,IntKind.bits,IntKind.signed]
 rw[e];split<;>omega
theorem wr8 (n:Nat):IntKind.wrap .u8 (n:Int)=((n % 256:Nat):Int):=by
 have e:IntKind.wrap .u8 (n:Int)=(n:Int) % 256:=rfl
 rw[e];omega
theorem fd6 (n:Nat):(n:Int).fdiv (2 ^ min 6 IntKind.i32.bits)=((n / 64:Nat):Int):=by
 show (n:Int).fdiv 64=_
 rw[Int.fdiv_eq_ediv_of_nonneg _ (by decide)];omega
theorem zr9 (n:Nat):(n:Int).fdiv (2 ^ min 12 IntKind.i32.bits)=((n / 4096:Nat):Int):=by
 show (n:Int).fdiv 4096=_
 rw[Int.fdiv_eq_ediv_of_nonneg _ (by decide)];omega
theorem ztJ (n:Nat):(n:Int).fdiv (2 ^ min 18 IntKind.i32.bits)=((n / 262144:Nat):Int):=by
 show (n:Int).fdiv 262144=_
 rw[Int.fdiv_eq_ediv_of_nonneg _ (by decide)];omega
theorem zti:∀ x:Fin 32,IntKind.wrap .u8 ((BitVec.ofInt IntKind.u8.bits 192 ||| BitVec.ofInt IntKind.u8.bits ((x.val:Nat):Int)).toNat:Int)=((UInt8.ofNat (192+x.val)).toNat:Int):=by decide +kernel
theorem zth:∀ x:Fin 16,IntKind.wrap .u8 ((BitVec.ofInt IntKind.u8.bits 224 ||| BitVec.ofInt IntKind.u8.bits ((x.val:Nat):Int)).toNat:Int)=((UInt8.ofNat (224+x.val)).toNat:Int):=by decide +kernel
theorem zs7:∀ x:Fin 8,IntKind.wrap .u8 ((BitVec.ofInt IntKind.u8.bits 240 ||| BitVec.ofInt IntKind.u8.bits ((x.val:Nat):Int)).toNat:Int)=((UInt8.ofNat (240+x.val)).toNat:Int):=by decide +kernel
theorem zsM:∀ x:Fin 256,IntKind.wrap .u8 ((BitVec.ofInt IntKind.u8.bits 128 ||| BitVec.ofInt IntKind.u8.bits (IntKind.wrap .u8 ((BitVec.ofInt IntKind.u8.bits ((x.val:Nat):Int) &&& BitVec.ofInt IntKind.u8.bits 63).toNat:Int))).toNat:Int)=((UInt8.ofNat (128+x.val % 64)).toNat:Int):=by decide +kernel
theorem zsD {m:Nat} (h:m<32):IntKind.wrap .u8 ((BitVec.ofInt IntKind.u8.bits 192 ||| BitVec.ofInt IntKind.u8.bits (IntKind.wrap .u8 (m:Int))).toNat:Int)=((UInt8.ofNat (192+m)).toNat:Int):=by
 rw[wr8 m,Nat.mod_eq_of_lt (show m<256 by omega)];exact zti ⟨m,h⟩
theorem zqJ {m:Nat} (h:m<16):IntKind.wrap .u8 ((BitVec.ofInt IntKind.u8.bits 224 ||| BitVec.ofInt IntKind.u8.bits (IntKind.wrap .u8 (m:Int))).toNat:Int)=((UInt8.ofNat (224+m)).toNat:Int):=by
 rw[wr8 m,Nat.mod_eq_of_lt (show m<256 by omega)];exact zth ⟨m,h⟩
theorem ztr {m:Nat} (h:m<8):IntKind.wrap .u8 ((BitVec.ofInt IntKind.u8.bits 240 ||| BitVec.ofInt IntKind.u8.bits (IntKind.wrap .u8 (m:Int))).toNat:Int)=((UInt8.ofNat (240+m)).toNat:Int):=by
 rw[wr8 m,Nat.mod_eq_of_lt (show m<256 by omega)];exact zs7 ⟨m,h⟩
theorem zqv (m:Nat):IntKind.wrap .u8 ((BitVec.ofInt IntKind.u8.bits 128 ||| BitVec.ofInt IntKind.u8.bits (IntKind.wrap .u8 ((BitVec.ofInt IntKind.u8.bits (IntKind.wrap .u8 (m:Int)) &&& BitVec.ofInt IntKind.u8.bits 63).toNat:Int))).toNat:Int)=((UInt8.ofNat (128+m % 64)).toNat:Int):=by
 rw[wr8 m]
 have:=zsM ⟨m % 256,Nat.mod_lt _ (by decide)⟩
 simp only at this
 rw[this,Nat.mod_mod_of_dvd m (by decide)]
theorem zsi (n:Nat) (h0:127<n) (h1:n≤1114111) (h2:¬ (55296≤n∧n≤57343)) (acc:List UInt8) (H:za) (o:Own) (ho:yq H o acc.length 1) (hb:acc.length≤Lim) :
  zoF Tryz.prog 356 [.sl o 1 (bytesOf acc),.int .i32 n] H o 1 (bytesOf (acc++Zz n)):=by
 refine zf.goO ir356 ck356 (Al4 _) fun KP Q hQ hP=>?_
 have e1:=zta (n:=n) (by omega)
 have hal:=yz acc
 simp only[Lim] at hb
 have ho':yq H o (bytesOf acc).length 1:=by rw[hal];exact ho
 have fin:∀(e:List UInt8) o' H',Zz n=e→OwnS H o H' o' ((bytesOf acc).length+e.length) 1→ztb H o 1 (bytesOf (acc++Zz n)) (.sl o' 1 (bytesOf acc++bytesOf e)) H':=fun e o' H' he hs=>by
  rw[he];exact⟨o',by rw[Zg],by rw[yz,Al5];rw[hal] at hs;exact hs⟩
 by_cases h3:n≤2047
 ·have g1:((n:Int)≤2047)=True:=eq_true (by omega)
  simp(disch:=first|omega|assumption) only[ir356,e1,g1,steps,st2,pev,rev,oev,zN,zU,ye,yf,bound,zC,mm2,mk,zn,AV.cells,AV.boxable,AV.one,AV.strip1,zz,zy,Nat.reduceEqDiff,reduceCtorEq,↓reduceIte,Nat.reduceAdd,Int.reduceNeg,Nat.reduceLeDiff,Int.reduceToNat,Int.reduceEq,Int.reduceLT,Int.reduceLE,Int.reduceAdd,Io,Im,If,Il,Jt,Jf,AC.rg,Jm,Jl,Ja,Fm,Fl,Fa,Imv,Imb,Iai,Iei,Igi,Isi,Ipf,Ipt,Ilb,Iia,Ilt,Iap,Ink,Iln,Ils,Iad,Iex,Ibx,Ing]
  simp only[fd6,zsD (show n / 64<32 by omega),zqv]
  refine zE ho' (by simp[hal];omega) (by simp[hal,maxLen];omega) fun o' H' hs=>?_
  simp(disch:=first|omega|assumption) only[steps,st2,pev,rev,oev,zN,zU,ye,yf,bound,zC,mm2,mk,zn,AV.cells,AV.boxable,AV.one,AV.strip1,zz,zy,Nat.reduceEqDiff,reduceCtorEq,↓reduceIte,Nat.reduceAdd,Int.reduceNeg,Nat.reduceLeDiff,Int.reduceToNat,Int.reduceEq,Int.reduceLT,Int.reduceLE,Int.reduceAdd]
  exact hQ _ _ H' H' [_] nofun rfl (Low.refl _) (fin [_,_] o' H' (by unfold Zz;rw[if_neg (by omega),if_pos h3]) hs)
 ·have g1:¬ ((n:Int)≤2047):=by omega
  by_cases h4:n≤65535
  ·by_cases h5:n<55296
   ·have g2:((n:Int)<55296)=True:=eq_true (by omega)
    simp(disch:=first|omega|assumption) only[ir356,e1,g1,g2,steps,st2,pev,rev,oev,zN,zU,ye,yf,bound,zC,mm2,mk,zn,AV.cells,AV.boxable,AV.one,AV.strip1,zz,zy,Nat.reduceEqDiff,reduceCtorEq,↓reduceIte,Nat.reduceAdd,Int.reduceNeg,Nat.reduceLeDiff,Int.reduceToNat,Int.reduceEq,Int.reduceLT,Int.reduceLE,Int.reduceAdd,Io,Im,If,Il,Jt,Jf,AC.rg,Jm,Jl,Ja,Fm,Fl,Fa,Imv,Imb,Iai,Iei,Igi,Isi,Ipf,Ipt,Ilb,Iia,Ilt,Iap,Ink,Iln,Ils,Iad,Iex,Ibx,Ing]
    simp only[fd6,zr9,zqJ (show n / 4096<16 by omega),zqv]
    refine zE ho' (by simp[hal];omega) (by simp[hal,maxLen];omega) fun o' H' hs=>?_
    simp(disch:=first|omega|assumption) only[steps,st2,pev,rev,oev,zN,zU,ye,yf,bound,zC,mm2,mk,zn,AV.cells,AV.boxable,AV.one,AV.strip1,zz,zy,Nat.reduceEqDiff,reduceCtorEq,↓reduceIte,Nat.reduceAdd,Int.reduceNeg,Nat.reduceLeDiff,Int.reduceToNat,Int.reduceEq,Int.reduceLT,Int.reduceLE,Int.reduceAdd]
    exact hQ _ _ H' H' [_] nofun rfl (Low.refl _) (fin [_,_,_] o' H' (by unfold Zz;rw[if_neg (by omega),if_neg h3,if_pos h4]) hs)
   ·have g2:¬ ((n:Int)<55296):=by omega
    have g3:((57343:Int)<n)=True:=eq_true (by omega)
    have g4:((n:Int)≤65535)=True:=eq_true (by omega)
    simp(disch:=first|omega|assumption) only[ir356,e1,g1,g2,g3,g4,steps,st2,pev,rev,oev,zN,zU,ye,yf,bound,zC,mm2,mk,zn,AV.cells,AV.boxable,AV.one,AV.strip1,zz,zy,Nat.reduceEqDiff,reduceCtorEq,↓reduceIte,Nat.reduceAdd,Int.reduceNeg,Nat.reduceLeDiff,Int.reduceToNat,Int.reduceEq,Int.reduceLT,Int.reduceLE,Int.reduceAdd,Io,Im,If,Il,Jt,Jf,AC.rg,Jm,Jl,Ja,Fm,Fl,Fa,Imv,Imb,Iai,Iei,Igi,Isi,Ipf,Ipt,Ilb,Iia,Ilt,Iap,Ink,Iln,Ils,Iad,Iex,Ibx,Ing]
    simp only[fd6,zr9,zqJ (show n / 4096<16 by omega),zqv]
    refine zE ho' (by simp[hal];omega) (by simp[hal,maxLen];omega) fun o' H' hs=>?_
    simp(disch:=first|omega|assumption) only[steps,st2,pev,rev,oev,zN,zU,ye,yf,bound,zC,mm2,mk,zn,AV.cells,AV.boxable,AV.one,AV.strip1,zz,zy,Nat.reduceEqDiff,reduceCtorEq,↓reduceIte,Nat.reduceAdd,Int.reduceNeg,Nat.reduceLeDiff,Int.reduceToNat,Int.reduceEq,Int.reduceLT,Int.reduceLE,Int.reduceAdd]
    exact hQ _ _ H' H' [_] nofun rfl (Low.refl _) (fin [_,_,_] o' H' (by unfold Zz;rw[if_neg (by omega),if_neg h3,if_pos h4]) hs)
  ·have g2:¬ ((n:Int)<55296):=by omega
   have g3:((57343:Int)<n)=True:=eq_true (by omega)
   have g4:¬ ((n:Int)≤65535):=by omega
   have g5:((65535:Int)<n)=True:=eq_true (by omega)
   have g6:((n:Int)≤1114111)=True:=eq_true (by omega)
   simp(disch:=first|omega|assumption) only[ir356,e1,g1,g2,g3,g4,g5,g6,steps,st2,pev,rev,oev,zN,zU,ye,yf,bound,zC,mm2,mk,zn,AV.cells,AV.boxable,AV.one,AV.strip1,zz,zy,Nat.reduceEqDiff,reduceCtorEq,↓reduceIte,Nat.reduceAdd,Int.reduceNeg,Nat.reduceLeDiff,Int.reduceToNat,Int.reduceEq,Int.reduceLT,Int.reduceLE,Int.reduceAdd,Io,Im,If,Il,Jt,Jf,AC.rg,Jm,Jl,Ja,Fm,Fl,Fa,Imv,Imb,Iai,Iei,Igi,Isi,Ipf,Ipt,Ilb,Iia,Ilt,Iap,Ink,Iln,Ils,Iad,Iex,Ibx,Ing]
   simp only[fd6,zr9,ztJ,ztr (show n / 262144<8 by omega),zqv]
   refine zE ho' (by simp[hal];omega) (by simp[hal,maxLen];omega) fun o' H' hs=>?_
   simp(disch:=first|omega|assumption) only[steps,st2,pev,rev,oev,zN,zU,ye,yf,bound,zC,mm2,mk,zn,AV.cells,AV.boxable,AV.one,AV.strip1,zz,zy,Nat.reduceEqDiff,reduceCtorEq,↓reduceIte,Nat.reduceAdd,Int.reduceNeg,Nat.reduceLeDiff,Int.reduceToNat,Int.reduceEq,Int.reduceLT,Int.reduceLE,Int.reduceAdd]
   exact hQ _ _ H' H' [_] nofun rfl (Low.refl _) (fin [_,_,_,_] o' H' (by unfold Zz;rw[if_neg (by omega),if_neg h3,if_neg h4]) hs)
theorem zi0 (n:Nat) (h1:n≤1114111) (h2:¬ (55296≤n∧n≤57343)) (acc:List UInt8) (H:za) (o:Own) (ho:yq H o acc.length 1) (hb:acc.length≤Lim) :
  zoF Tryz.prog 346 [.sl o 1 (bytesOf acc),.int .i32 n] H o 1 (bytesOf (acc++Zz n)):=by
 refine zf.goO ir346 ck346 (Al4 _) fun KP Q hQ hP=>?_
 have e1:=zta (n:=n) (by omega)
 have hal:=yz acc
 by_cases h3:n≤127
 ·have g1:((n:Int)≤127)=True:=eq_true (by omega)
  have g2:IntKind.wrap .u8 (n:Int)=((UInt8.ofNat n).toNat:Int):=by rw[wr8];simp
  simp only[Lim] at hb
  simp(disch:=first|omega|assumption) only[ir346,e1,g1,g2,go_sem]
  refine zE (by rw[hal];exact ho) (by simp[hal];omega) (by simp[hal,maxLen];omega) fun o' H' hs=>?_
  simp(disch:=first|omega|assumption) only[go_sem]
  refine hQ _ _ H' H' [_] nofun rfl (Low.refl _) ⟨o',?_,?_⟩
  ·have:Zz n=[UInt8.ofNat n]:=by unfold Zz;rw[if_pos h3]
   rw[this];exact congrArg _ (zfv _ _)
  ·have:Zz n=[UInt8.ofNat n]:=by unfold Zz;rw[if_pos h3]
   rw[this,yz];simpa[hal] using hs
 ·have g1:¬ ((n:Int)≤127):=by omega
  simp(disch:=first|omega|assumption) only[ir346,e1,g1,go_sem]
  refine zcW (zsi n (by omega) h1 h2 acc H o ho hb) fun o' H' hs=>?_
  simp(disch:=first|omega|assumption) only[go_sem]
  exact hQ _ _ H' H' [_] nofun rfl (Low.refl _) ⟨o',rfl,hs⟩
theorem zsR:∀ x:Fin 256,IntKind.wrap .u8 ((BitVec.ofInt IntKind.u8.bits ((x.val:Nat):Int) ||| BitVec.ofInt IntKind.u8.bits 32).toNat:Int)=((UInt8.ofNat x.val ||| 32).toNat:Int):=by decide +kernel
theorem ztY (c:UInt8):IntKind.wrap .u8 ((BitVec.ofInt IntKind.u8.bits (c.toNat:Int) ||| BitVec.ofInt IntKind.u8.bits 32).toNat:Int)=((c ||| 32).toNat:Int):=by
 have:=zsR ⟨c.toNat,c.toNat_lt⟩
 simpa using this
theorem ziK (l:List UInt8) (c:UInt8):-1≤Lib.indexByte l c∧Lib.indexByte l c<l.length:=by
 induction l with
 | nil=>simp[Lib.indexByte]
 | cons x r ih =>
  simp only[Lib.indexByte,Al2]
  split
  ·omega
  ·split
   ·omega
   ·omega
theorem zpn {c:UInt8} {k:Nat} (h:hexD c=some k):k<16:=by
 unfold hexD at h
 split at h
 ·cases h
 ·cases h;have:=ziK hexL (c ||| 32);simp only[hexL,Al2,Al3] at this ⊢;omega
theorem zku:∀(n:Nat) (t:List UInt8) (u v m:Nat),u<m→ZN n t u=some v→v<m*16 ^ n
 | 0,_,u,v,m,hu,h=>by simp only[ZN,Al1] at h;subst h;simpa using hu
 | n+1,[],_,_,_,_,h=>by cases h
 | n+1,c::t,u,v,m,hu,h=>by
  simp only[ZN] at h
  split at h
  ·cases h
  ·rename_i k hk
   have h1:=zpn hk
   have h2:=zku n t (16*u+k) v (16*m) (by omega) h
   rw[Nat.pow_succ];rw[show 16*m*16 ^ n=m*(16 ^ n*16) by rw[Nat.mul_comm (16 ^ n) 16,← Nat.mul_assoc,Nat.mul_comm m 16]] at h2;exact h2
theorem zpg {t:List UInt8} {u:Nat} (h:Yb t=some u):u<65536:=zku 4 t 0 u 1 (by decide) h
theorem zs6 (s:List UInt8) (hs:s.length≤Lim):zr Tryz.prog 326 [.str s] (.tup [.int .i64 ((Yb s).getD 0:Nat),.bool (Yb s).isSome]):=by
 refine zr.go ir326 ck326 (Al4 _) fun KP Q hQ=>?_
 simp only[Lim] at hs
 by_cases h4:s.length<4
 ·have g1:((s.length:Int)<4)=True:=eq_true (by omega)
  have:Yb s=none:=by
   cases h:Yb s with
   | none=>rfl
   | some u=>have:=zau _ _ _ _ h;omega
  simp(disch:=first|omega|assumption) only[ir326,g1,steps,st2,pev,rev,oev,zN,zU,ye,yf,bound,zC,mm2,mk,zn,AV.cells,AV.boxable,AV.one,AV.strip1,zz,zy,Nat.reduceEqDiff,reduceCtorEq,↓reduceIte,Nat.reduceAdd,Int.reduceNeg,Nat.reduceLeDiff,Int.reduceToNat,Int.reduceEq,Int.reduceLT,Int.reduceLE,Int.reduceAdd,Io,Im,If,Il,Jt,Jf,AC.rg,Jm,Jl,Ja,Fm,Fl,Fa,Imv,Imb,Iai,Iei,Igi,Isi,Ipf,Ipt,Ilb,Iia,Ilt,Iap,Ink,Iln,Ils,Iad,Iex,Ibx,Ing]
  exact hQ _ _ _ _ nofun rfl (by simp[zb,ze,AV.strip,AV.strip1,this])
 ·have g1:¬ ((s.length:Int)<4):=by omega
  obtain⟨l,r,hl,hsr⟩:∃ l r:List UInt8,l.length=4∧s=l++r:=⟨s.take 4,s.drop 4,by simp;omega,by simp⟩
  have hl':(l.length:Int)=4:=by omega
  have key:∀(a b:List UInt8) (u:Nat),l=a++b→ZN b.length (b++r) u=ZN (4-a.length) (s.drop a.length) u:=fun a b u h=>by
   have:a.length+b.length=4:=by rw[← hl,h];simp
   rw[hsr,h,zfM,List.drop_left];congr 1;omega
  simp(disch:=first|omega|assumption) only[ir326,g1,steps,st2,pev,rev,oev,zN,zU,ye,yf,bound,zC,mm2,mk,zn,AV.cells,AV.boxable,AV.one,AV.strip1,zz,zy,Nat.reduceEqDiff,reduceCtorEq,↓reduceIte,Nat.reduceAdd,Int.reduceNeg,Nat.reduceLeDiff,Int.reduceToNat,Int.reduceEq,Int.reduceLT,Int.reduceLE,Int.reduceAdd,Io,Im,If,Il,Jt,Jf,AC.rg,Jm,Jl,Ja,Fm,Fl,Fa,Imv,Imb,Iai,Iei,Igi,Isi,Ipf,Ipt,Ilb,Iia,Ilt,Iap,Ink,Iln,Ils,Iad,Iex,Ibx,Ing]
  refine Zf l 10 (fun u:Nat=>[(4,.int .i64 u)]) (fun done rest u H=>ZN rest.length (rest++r) u=Yb s∧u<16 ^ done.length∧H=za.emp) 0 (by simp(disch:=first|omega|assumption) only[steps,st2,pev,rev,oev,zN,zU,ye,yf,bound,zC,mm2,mk,zn,AV.cells,AV.boxable,AV.one,AV.strip1,zz,zy,Nat.reduceEqDiff,reduceCtorEq,↓reduceIte,Nat.reduceAdd,Int.reduceNeg,Nat.reduceLeDiff,Int.reduceToNat,Int.reduceEq,Int.reduceLT,Int.reduceLE,Int.reduceAdd]) ⟨by rw[hl,← hsr];rfl,by simp,rfl⟩ ?_ ?_
  ·rintro u H J ⟨hu,_,rfl⟩ hlt
   simp only[Al3,ZN] at hu
   simp(disch:=first|omega|assumption) only[hl',steps,st2,pev,rev,oev,zN,zU,ye,yf,bound,zC,mm2,mk,zn,AV.cells,AV.boxable,AV.one,AV.strip1,zz,zy,Nat.reduceEqDiff,reduceCtorEq,↓reduceIte,Nat.reduceAdd,Int.reduceNeg,Nat.reduceLeDiff,Int.reduceToNat,Int.reduceEq,Int.reduceLT,Int.reduceLE,Int.reduceAdd]
   exact hQ _ _ _ _ nofun rfl (by simp[zb,ze,AV.strip,AV.strip1,← hu])
  ·rintro done c rest u H J hd hlt hlt2 ⟨hu,hb,rfl⟩ hJ
   have hd4:done.length<4:=by omega
   have hlt':(done.length:Int)<4:=by omega
   have hlt3:(done.length:Int)<s.length:=by omega
   have hg:s.getD done.length 0=c:=by rw[hsr,hd];simp
   have hpow:16 ^ done.length≤4096:=by
    have:done.length≤3:=by omega
    calc 16 ^ done.length≤16 ^ 3:=Nat.pow_le_pow_right (by decide) this
     _=4096:=rfl
   simp only[Al2,Al6,ZN] at hu
   have hidx:=ziK hexL (c ||| 32)
   have hc:=c.toNat_lt
   simp only[hexL,Al2,Al3] at hidx
   simp(disch:=first|omega|assumption) only[hlt',hlt3,hg,ztY,steps,st2,pev,rev,oev,zN,zU,ye,yf,bound,zC,mm2,mk,zn,AV.cells,AV.boxable,AV.one,AV.strip1,zz,zy,Nat.reduceEqDiff,reduceCtorEq,↓reduceIte,Nat.reduceAdd,Int.reduceNeg,Nat.reduceLeDiff,Int.reduceToNat,Int.reduceEq,Int.reduceLT,Int.reduceLE,Int.reduceAdd]
   refine zd (zgO hexL (c ||| 32)) ?_
   have no:hexD c=none→(Yb s)=none:=fun e=>by rw[e] at hu;exact hu.symm
   by_cases n1:Lib.indexByte hexL (c ||| 32)<0
   ·have e:hexD c=none:=by unfold hexD;rw[if_pos (.inl n1)]
    simp(disch:=first|omega|assumption) only[n1,steps,st2,pev,rev,oev,zN,zU,ye,yf,bound,zC,mm2,mk,zn,AV.cells,AV.boxable,AV.one,AV.strip1,zz,zy,Nat.reduceEqDiff,reduceCtorEq,↓reduceIte,Nat.reduceAdd,Int.reduceNeg,Nat.reduceLeDiff,Int.reduceToNat,Int.reduceEq,Int.reduceLT,Int.reduceLE,Int.reduceAdd]
    exact hQ _ _ _ _ nofun rfl (by simp[zb,ze,AV.strip,AV.strip1,no e])
   obtain⟨k,hk⟩:∃ k:Nat,Lib.indexByte hexL (c ||| 32)=(k:Int):=⟨(Lib.indexByte hexL (c ||| 32)).toNat,by omega⟩
   have hk16:k<16:=by rw[show Lib.indexByte [48,49,50,51,52,53,54,55,56,57,97,98,99,100,101,102] (c ||| 32)=(k:Int) from hk] at hidx;omega
   have hu4:u<4096:=by omega
   have hkn:¬ ((k:Int)<0):=by omega
   have hnext:hexD c=some k→ZN rest.length (rest++r) (16*u+k)=Yb s∧16*u+k<16 ^ (done++[c]).length∧za.emp=za.emp:=fun e=>by
    rw[e] at hu
    refine⟨hu,?_,rfl⟩
    rw[Al5,Al2,Al3,Nat.pow_succ];omega
   have hpush:((16*u+k:Nat):Int)=16*(u:Int)+k:=by omega
   by_cases n2:c.toNat<48
   ·have e:hexD c=none:=by unfold hexD;rw[if_pos (.inr (.inl n2))]
    have n2':((c.toNat:Int)<48)=True:=eq_true (by omega)
    simp(disch:=first|omega|assumption) only[hk,hkn,n2',hlt3,hg,steps,st2,pev,rev,oev,zN,zU,ye,yf,bound,zC,mm2,mk,zn,AV.cells,AV.boxable,AV.one,AV.strip1,zz,zy,Nat.reduceEqDiff,reduceCtorEq,↓reduceIte,Nat.reduceAdd,Int.reduceNeg,Nat.reduceLeDiff,Int.reduceToNat,Int.reduceEq,Int.reduceLT,Int.reduceLE,Int.reduceAdd]
    exact hQ _ _ _ _ nofun rfl (by simp[zb,ze,AV.strip,AV.strip1,no e])
   have n2':¬ ((c.toNat:Int)<48):=by omega
   by_cases n3:57<c.toNat
   ·have n3':((57:Int)<c.toNat)=True:=eq_true (by omega)
    by_cases n4:c.toNat<65
    ·have e:hexD c=none:=by unfold hexD;rw[if_pos (.inr (.inr ⟨n3,n4⟩))]
     have n4':((c.toNat:Int)<65)=True:=eq_true (by omega)
     simp(disch:=first|omega|assumption) only[hk,hkn,n2',n3',n4',hlt3,hg,steps,st2,pev,rev,oev,zN,zU,ye,yf,bound,zC,mm2,mk,zn,AV.cells,AV.boxable,AV.one,AV.strip1,zz,zy,Nat.reduceEqDiff,reduceCtorEq,↓reduceIte,Nat.reduceAdd,Int.reduceNeg,Nat.reduceLeDiff,Int.reduceToNat,Int.reduceEq,Int.reduceLT,Int.reduceLE,Int.reduceAdd]
     exact hQ _ _ _ _ nofun rfl (by simp[zb,ze,AV.strip,AV.strip1,no e])
    ·have e:hexD c=some k:=by unfold hexD;rw[if_neg (by omega),hk];rfl
     have n4':¬ ((c.toNat:Int)<65):=by omega
     simp(disch:=first|omega|assumption) only[hk,hkn,n2',n3',n4',hlt3,hg,wrap64,steps,st2,pev,rev,oev,zN,zU,ye,yf,bound,zC,mm2,mk,zn,AV.cells,AV.boxable,AV.one,AV.strip1,zz,zy,Nat.reduceEqDiff,reduceCtorEq,↓reduceIte,Nat.reduceAdd,Int.reduceNeg,Nat.reduceLeDiff,Int.reduceToNat,Int.reduceEq,Int.reduceLT,Int.reduceLE,Int.reduceAdd]
     refine goJ (hJ (16*u+k) _ (hnext e)) (by simp(disch:=first|omega|assumption) only[hpush,steps,st2,pev,rev,oev,zN,zU,ye,yf,bound,zC,mm2,mk,zn,AV.cells,AV.boxable,AV.one,AV.strip1,zz,zy,Nat.reduceEqDiff,reduceCtorEq,↓reduceIte,Nat.reduceAdd,Int.reduceNeg,Nat.reduceLeDiff,Int.reduceToNat,Int.reduceEq,Int.reduceLT,Int.reduceLE,Int.reduceAdd])
   ·have e:hexD c=some k:=by unfold hexD;rw[if_neg (by omega),hk];rfl
    have n3':¬ ((57:Int)<c.toNat):=by omega
    simp(disch:=first|omega|assumption) only[hk,hkn,n2',n3',hlt3,hg,wrap64,steps,st2,pev,rev,oev,zN,zU,ye,yf,bound,zC,mm2,mk,zn,AV.cells,AV.boxable,AV.one,AV.strip1,zz,zy,Nat.reduceEqDiff,reduceCtorEq,↓reduceIte,Nat.reduceAdd,Int.reduceNeg,Nat.reduceLeDiff,Int.reduceToNat,Int.reduceEq,Int.reduceLT,Int.reduceLE,Int.reduceAdd]
    refine goJ (hJ (16*u+k) _ (hnext e)) (by simp(disch:=first|omega|assumption) only[hpush,steps,st2,pev,rev,oev,zN,zU,ye,yf,bound,zC,mm2,mk,zn,AV.cells,AV.boxable,AV.one,AV.strip1,zz,zy,Nat.reduceEqDiff,reduceCtorEq,↓reduceIte,Nat.reduceAdd,Int.reduceNeg,Nat.reduceLeDiff,Int.reduceToNat,Int.reduceEq,Int.reduceLT,Int.reduceLE,Int.reduceAdd])
def cU (l:List Nat):List (List AV):=l.map fun(n:Nat)=>[AV.int .i64 (n:Int)]
theorem ziw (l:List Nat):(cU l).length=l.length:=by simp[cU]
theorem znu (l:List Nat):(cU l).map (·.map AV.strip1)=cU l:=by simp[cU,AV.strip1]
theorem zsH (us:List Nat) (hl:us.length≤68719476736):zr Tryz.prog 327 [.sl .no 1 (cU us)] (.tup [.str ((zX us).getD []),.bool (zX us).isSome]):=by
 refine zr.go ir327 ck327 (Al4 _) fun KP Q hQ=>?_
 have hll:=ziw us
 simp(disch:=first|omega|assumption) only[ir327,go_sem]
 refine zI (fun s:List Nat×List Nat×Own×List UInt8=>[(4,.sl s.2.2.1 1 (bytesOf s.2.2.2)),(5,.int .i64 s.1.length)]) (fun s H=>us=s.1++s.2.1∧zX us=(zX s.2.1).map (s.2.2.2++·)∧s.2.2.2.length≤2*s.1.length*2∧yq H s.2.2.1 s.2.2.2.length 1) (fun s=>s.2.1.length) ([],us,.nil,[]) (by simp(disch:=first|omega|assumption) only[go_sem];rfl) ⟨rfl,by cases zX us<;>rfl,by simp,rfl⟩ ?_
 rintro⟨done,rest,o,out⟩ H J ⟨hd,hj,hle,ho⟩ hJ
 simp only at hd hj hle ho
 have hdl:done.length+rest.length=us.length:=by rw[hd];simp
 cases rest with
 | nil =>
  simp only[List.append_nil] at hd
  have hlt:¬ ((done.length:Int)<us.length):=by rw[hd];omega
  simp(disch:=first|omega|assumption) only[hll,hlt,go_sem]
  simp only[zX,yS,List.append_nil] at hj
  simp(disch:=first|omega|assumption) only[zaU,go_sem]
  exact hQ _ _ _ _ nofun rfl (by simp[zb,ze,AV.strip,AV.strip1,hj])
 | cons u r =>
  have hlt:((done.length:Int)<us.length):=by simp at hdl;omega
  have hg:(cU us).getD done.length []=[.int .i64 u]:=by rw[hd];simp[cU]
  have hu0:¬ ((u:Int)<0):=by omega
  have hrl:r.length+1+done.length=us.length:=by simp at hdl;omega
  have none_of:zX (u::r)=none→zX us=none:=fun e=>by rw[hj,e];rfl
  have hmax:maxLen=9223372036854775807:=rfl
  by_cases a1:65535<u
  ·have e:=none_of (by rw[zX.eq_def];simp only;rw[if_pos (.inl a1)])
   have a1':((65535:Int)<u)=True:=eq_true (by omega)
   simp(disch:=first|omega|assumption) only[hll,hlt,hg,hu0,a1',go_sem]
   exact hQ _ _ _ _ nofun rfl (by simp[zb,ze,AV.strip,AV.strip1,e])
  have a1':¬ ((65535:Int)<u):=by omega
  by_cases a2:56320≤u∧u≤57343
  ·have e:=none_of (by rw[zX.eq_def];simp only;rw[if_pos (.inr a2)])
   have a2':((56320:Int)≤u)=True:=eq_true (by omega)
   have a3':((u:Int)≤57343)=True:=eq_true (by omega)
   simp(disch:=first|omega|assumption) only[hll,hlt,hg,hu0,a1',a2',a3',go_sem]
   exact hQ _ _ _ _ nofun rfl (by simp[zb,ze,AV.strip,AV.strip1,e])
  by_cases a3:55296≤u∧u<56320
  ·have b1:¬ ((56320:Int)≤u):=by omega
   have b2:((55296:Int)≤u)=True:=eq_true (by omega)
   have b3:((u:Int)<56320)=True:=eq_true (by omega)
   cases r with
   | nil =>
    have e:=none_of (by rw[zX.eq_def];simp only;rw[if_neg (by omega),if_pos a3])
    have b4:((done.length:Int)+1=us.length)=True:=eq_true (by simp at hrl;omega)
    simp(disch:=first|omega|assumption) only[hll,hlt,hg,hu0,a1',b1,b2,b3,wrap64,b4,go_sem]
    exact hQ _ _ _ _ nofun rfl (by simp[zb,ze,AV.strip,AV.strip1,e])
   | cons v r =>
    have b4:¬ ((done.length:Int)+1=us.length):=by simp at hrl;omega
    have b5:((done.length:Int)+1<us.length):=by simp at hrl;omega
    have b6:((done.length:Int)+1).toNat=done.length+1:=by omega
    have hg2:(cU us).getD (done.length+1) []=[.int .i64 v]:=by rw[hd];simp[cU]
    by_cases c1:v<56320
    ·have e:=none_of (by rw[zX.eq_def];simp only;rw[if_neg (by omega),if_pos a3,if_pos (.inl c1)])
     have c1':((v:Int)<56320)=True:=eq_true (by omega)
     simp(disch:=first|omega|assumption) only[hll,hlt,hg,hu0,a1',b1,b2,b3,wrap64,b4,b5,b6,hg2,c1',go_sem]
     exact hQ _ _ _ _ nofun rfl (by simp[zb,ze,AV.strip,AV.strip1,e])
    have c1':¬ ((v:Int)<56320):=by omega
    by_cases c2:57343<v
    ·have e:=none_of (by rw[zX.eq_def];simp only;rw[if_neg (by omega),if_pos a3,if_pos (.inr c2)])
     have c2':((57343:Int)<v)=True:=eq_true (by omega)
     simp(disch:=first|omega|assumption) only[hll,hlt,hg,hu0,a1',b1,b2,b3,wrap64,b4,b5,b6,hg2,c1',c2',go_sem]
     exact hQ _ _ _ _ nofun rfl (by simp[zb,ze,AV.strip,AV.strip1,e])
    have c2':¬ ((57343:Int)<v):=by omega
    have ej:zX (u::v::r)=(zX r).map (Zz (65536+1024*(u-55296)+(v-56320))++·):=by rw[zX.eq_def];simp only;rw[if_neg (by omega),if_pos a3,if_neg (by omega)]
    obtain⟨m,hm⟩:∃ m,65536+1024*(u-55296)+(v-56320)=m:=⟨_,rfl⟩
    rw[hm] at ej
    have hm2:(65536+1024*((u:Int)-55296)+v-56320)=(m:Int):=by omega
    have hm3:=(Y7 m).1
    simp(disch:=first|omega|assumption) only[hll,hlt,hg,hu0,a1',b1,b2,b3,wrap64,b4,b5,b6,hg2,c1',c2',hm2,zn1 (show m<2147483648 by omega),go_sem]
    refine zcW (zi0 m (by omega) (by omega) out _ o ho (by simp only[Lim];omega)) fun o' H' hs=>?_
    simp(disch:=first|omega|assumption) only[wrap64,go_sem]
    have hown:=hs.own
    rw[yz] at hown
    have e5:(((done++[u,v]).length:Nat):Int)=(done.length:Int)+1+1:=by simp;omega
    refine goJ (hJ (done++[u,v],r,o',out++Zz m) _ (by simp;omega) ⟨by simp[hd],?_,?_,hown⟩) (by simp(disch:=first|omega|assumption) only[e5,go_sem])
    ·simp only[hj,ej];cases zX r<;>simp
    ·simp;omega
  have ej:zX (u::r)=(zX r).map (Zz u++·):=by
   rw[zX.eq_def];simp only;rw[if_neg (by omega),if_neg a3]
  have hm3:=(Y7 u).1
  have e5:(((done++[u]).length:Nat):Int)=(done.length:Int)+1:=by simp
  by_cases h:u<55296
  ·have b1:¬ ((56320:Int)≤u):=by omega
   have b2:¬ ((55296:Int)≤u):=by omega
   simp(disch:=first|omega|assumption) only[hll,hlt,hg,hu0,a1',b1,b2,zn1 (show u<2147483648 by omega),go_sem]
   refine zcW (zi0 u (by omega) (by omega) out _ o ho (by simp only[Lim];omega)) fun o' H' hs=>?_
   simp(disch:=first|omega|assumption) only[wrap64,go_sem]
   have hown:=hs.own
   rw[yz] at hown
   refine goJ (hJ (done++[u],r,o',out++Zz u) _ (by simp) ⟨by simp[hd],?_,?_,hown⟩) (by simp(disch:=first|omega|assumption) only[e5,go_sem])
   ·simp only[hj,ej];cases zX r<;>simp
   ·simp;omega
  ·have b1:((56320:Int)≤u)=True:=eq_true (by omega)
   have b2:¬ ((u:Int)≤57343):=by omega
   have b3:((55296:Int)≤u)=True:=eq_true (by omega)
   have b4:¬ ((u:Int)<56320):=by omega
   simp(disch:=first|omega|assumption) only[hll,hlt,hg,hu0,a1',b1,b2,b3,b4,zn1 (show u<2147483648 by omega),go_sem]
   refine zcW (zi0 u (by omega) (by omega) out _ o ho (by simp only[Lim];omega)) fun o' H' hs=>?_
   simp(disch:=first|omega|assumption) only[wrap64,go_sem]
   have hown:=hs.own
   rw[yz] at hown
   refine goJ (hJ (done++[u],r,o',out++Zz u) _ (by simp) ⟨by simp[hd],?_,?_,hown⟩) (by simp(disch:=first|omega|assumption) only[e5,go_sem])
   ·simp only[hj,ej];cases zX r<;>simp
   ·simp;omega
end Go.Proofs.YticbbfbpeimkbaaGreatDoor
