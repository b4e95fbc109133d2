import Derived.JoinedOf
import Derived.Lib.ItoaMem
import Derived.Lib.ParseIntBTie
import Derived.Lib.ItoaLen
import Derived.Test.YtaielcdfcgpbiaaGreatDoorM1
import Derived.Test.YtaielcdfcgpbiaaGreatDoorM2
import Derived.Test.YtaielcdfcgpbiaaGreatDoorM3
import Derived.Test.YtaielcdfcgpbiaaGreatDoorM4
set_option maxRecDepth 100000
set_option linter.all false
namespace Go.Proofs.YtaielcdfcgpbiaaGreatDoor
open Go.Ab
mutual
inductive Val where
 | mk (k n:Int) (s:List UInt8) (l:List Val) (m:List Mem)
inductive Mem where
 | mk (name:List UInt8) (v:Val)
end
mutual
def cV:Val→List AV
 | .mk k n s l m=>[.int .i64 k,.int .i64 n,.str s,.sl .no 5 (cVs l),.sl .no 6 (cMs m)]
def cVs:List Val→List (List AV)
 | []=>[]
 | v::r=>cV v::cVs r
def cM:Mem→List AV
 | .mk s v=>.str s::cV v
def cMs:List Mem→List (List AV)
 | []=>[]
 | x::r=>cM x::cMs r
end
theorem zaZ:∀ l,cVs l=l.map cV
 | []=>rfl
 | v::r=>by rw[cVs,zaZ r];rfl
theorem Z7:∀ l,cMs l=l.map cM
 | []=>rfl
 | v::r=>by rw[cMs,Z7 r];rfl
theorem zcU (l:List Val):(cVs l).length=l.length:=by rw[zaZ];simp
theorem zaX (l:List Mem):(cMs l).length=l.length:=by rw[Z7];simp
theorem zgV {l a:List Val} {x:Val} {b:List Val} (h:l=a++x::b):(cVs l).getD a.length []=cV x:=by rw[zaZ,getD_mid' h]
theorem zhj {l a:List Mem} {x:Mem} {b:List Mem} (h:l=a++x::b):(cMs l).getD a.length []=cM x:=by rw[Z7,getD_mid' h]
theorem zfQ (k n:Int) (s:List UInt8) (l:List Val) (m:List Mem):cV (.mk k n s l m)=[.int .i64 k,.int .i64 n,.str s,.sl .no 5 (cVs l),.sl .no 6 (cMs m)]:=rfl
theorem zm (s:List UInt8) (v:Val):cM (.mk s v)=.str s::cV v:=rfl
theorem Zd (v:Val):(cV v).map AV.strip1=cV v:=by cases v;rfl
theorem Ym (v:Mem):(cM v).map AV.strip1=cM v:=by cases v with|mk s v=>cases v;rfl
theorem zcr (l:List Val):(cVs l).map (·.map AV.strip1)=cVs l:=by
 rw[zaZ,List.map_map];exact List.map_congr_left fun v _=>Zd v
theorem Yb (l:List Mem):(cMs l).map (·.map AV.strip1)=cMs l:=by
 rw[Z7,List.map_map];exact List.map_congr_left fun v _=>Ym v
mutual
theorem Val.ind {P:Val→Prop} (h:∀ k n s l m,(∀ v∈l,P v)→(∀ s v,Mem.mk s v∈m→P v)→P (.mk k n s l m)):∀ v,P v
 | .mk k n s l m=>h k n s l m (Val.indL h l) (fun s v hm=>Val.indM h m s v hm)
theorem Val.indL {P:Val→Prop} (h:∀ k n s l m,(∀ v∈l,P v)→(∀ s v,Mem.mk s v∈m→P v)→P (.mk k n s l m)):∀ l:List Val,∀ v∈l,P v
 | [],_,hv=>by cases hv
 | x::r,v,hv=>(List.mem_cons.1 hv).elim (fun e=>e▸Val.ind h x) (Val.indL h r v)
theorem Val.ind1 {P:Val→Prop} (h:∀ k n s l m,(∀ v∈l,P v)→(∀ s v,Mem.mk s v∈m→P v)→P (.mk k n s l m)):∀ m:Mem,∀ s v,m=.mk s v→P v
 | .mk s v,s',v',e=>by cases e;exact Val.ind h v
theorem Val.indM {P:Val→Prop} (h:∀ k n s l m,(∀ v∈l,P v)→(∀ s v,Mem.mk s v∈m→P v)→P (.mk k n s l m)):∀ l:List Mem,∀ s v,Mem.mk s v∈l→P v
 | [],_,_,hv=>by cases hv
 | x::r,s,v,hv=>(List.mem_cons.1 hv).elim (fun e=>Val.ind1 h x s v e.symm) (Val.indM h r s v)
end
theorem zh (v:Val):(cV v).length=5:=by cases v;rfl
theorem zg (x:Mem):(cM x).length=6:=by cases x with|mk s v=>cases v;rfl
theorem zf (v:Val):(cV v).take 5=cV v:=by cases v;rfl
theorem ze (x:Mem):(cM x).take 6=cM x:=by cases x with|mk s v=>cases v;rfl
theorem zc (a b c d e:AV) (v:Val):splice [a,b,c,d,e] 0 (cV v)=cV v:=by cases v;rfl
theorem zb (a b c d e f:AV) (x:Mem):splice [a,b,c,d,e,f] 0 (cM x)=cM x:=by cases x with|mk s v=>cases v;rfl
mutual
def bV:Val→Nat
 | .mk _ _ s l m=>1+s.length+bVs l+bMs m
def bVs:List Val→Nat
 | []=>0
 | v::r=>bV v+bVs r
def bM:Mem→Nat
 | .mk s v=>s.length+bV v
def bMs:List Mem→Nat
 | []=>0
 | x::r=>bM x+bMs r
end
theorem zgM (v:Val):1≤bV v:=by cases v;simp only[bV];omega
theorem zlb (v:Mem):1≤bM v:=by cases v with|mk s v=>have:=zgM v;simp only[bM];omega
theorem zhl:∀ l,l.length≤bVs l
 | []=>by simp
 | v::r=>by have:=zhl r;have:=zgM v;simp only[bVs,Al2];omega
theorem zfj:∀ l,l.length≤bMs l
 | []=>by simp
 | v::r=>by have:=zfj r;have:=zlb v;simp only[bMs,Al2];omega
theorem zkt (a:List Val) (x:Val) (b:List Val):bVs (a++x::b)=bVs a+bV x+bVs b:=by
 induction a with
 | nil=>simp[bVs]
 | cons y a ih=>simp only[Al6,bVs,ih];omega
theorem zg2 (a:List Mem) (x:Mem) (b:List Mem):bMs (a++x::b)=bMs a+bM x+bMs b:=by
 induction a with
 | nil=>simp[bMs]
 | cons y a ih=>simp only[Al6,bMs,ih];omega
abbrev Lim:Nat:=1099511627776
noncomputable def eqd {α:Type} (a b:α):Bool:=@decide (a=b) (Classical.propDecidable _)
theorem ZG {α:Type} {a b:α} (h:a=b):eqd a b=true:=by simp[eqd,h]
theorem z7 {α:Type} {a b:α} (h:a≠b):eqd a b=false:=by simp[eqd,h]
def cT (l:List (List UInt8)):List (List AV):=l.map fun k=>[.str k]
theorem zbn (l:List (List UInt8)):(cT l).length=l.length:=by simp[cT]
theorem yE (l:List (List UInt8)):(cT l).map (·.map AV.strip1)=cT l:=by simp[cT,AV.strip1]
theorem ze6 {α:Type} {a b done rest:List α} {x:α} (h:a=done++x::rest) (hl:a.length=b.length) (hp:b.take done.length=done):∃ y r,b=done++y::r:=by
 have h1:done.length<b.length:=by rw[← hl,h];simp
 refine⟨b[done.length],b.drop (done.length+1),?_⟩
 conv=>lhs;rw[← List.take_append_drop done.length b,hp,List.drop_eq_getElem_cons h1]
theorem zdg {α:Type} {b done r:List α} {y:α} (h:b=done++y::r):b.take (done++[y]).length=done++[y]:=by
 subst h
 have e:done++y::r=(done++[y])++r:=by simp
 rw[e,List.take_left'];rfl
theorem ze2 {α:Type} {a b:List α} (hl:a.length=b.length) (hp:b.take a.length=a):a=b:=by
 rw[hl,List.take_length] at hp;exact hp.symm
theorem zgD {α:Type} {a b done rest r:List α} {x y:α} (h:a=done++x::rest) (h':b=done++y::r) (hxy:x≠y):a≠b:=fun e=>by
 rw[h,h'] at e
 exact hxy (List.cons.inj (List.append_cancel_left e)).1
def zV:Val:=.mk 0 0 [] [] []
theorem zl9 (n:Int):Pure Tryz.prog 79 [.int .i64 n] (.agg (cV (.mk 2 n [] [] []))):=by
 refine Pure.go ir79 ck79 (Al4 _) fun KP Q hQ=>?_
 simp(disch:=omega) only[ir79,go_sem]
 refine goA_intro fun b hb=>?_
 simp(disch:=omega) only[go_sem]
 exact hQ _ _ _ [.agg [.int .i64 2,.int .i64 n,.str [],.sl .nil 5 [],.sl .nil 6 []]] nofun (by simp(disch:=omega) only[ir79,resvs,resv,go_sem]) rfl
theorem zmD (n:Int):Pure Tryz.prog 90 [.int .i64 n] (.agg (cV (.mk 2 n [] [] []))):=by
 refine Pure.go ir90 ck90 (Al4 _) fun KP Q hQ=>?_
 simp(disch:=omega) only[ir90,go_sem]
 refine goA_intro fun b hb=>?_
 simp(disch:=omega) only[go_sem]
 exact hQ _ _ _ [.agg [.int .i64 2,.int .i64 n,.str [],.sl .nil 5 [],.sl .nil 6 []]] nofun (by simp(disch:=omega) only[ir90,resvs,resv,go_sem]) rfl
theorem zml (t:List UInt8):Pure Tryz.prog 80 [.str t] (.agg (cV (.mk 4 0 t [] []))):=by
 refine Pure.go ir80 ck80 (Al4 _) fun KP Q hQ=>?_
 simp(disch:=omega) only[ir80,go_sem]
 refine goA_intro fun b hb=>?_
 simp(disch:=omega) only[go_sem]
 exact hQ _ _ _ [.agg [.int .i64 4,.int .i64 0,.str t,.sl .nil 5 [],.sl .nil 6 []]] nofun (by simp(disch:=omega) only[ir80,resvs,resv,go_sem]) rfl
theorem zma (t:List UInt8):Pure Tryz.prog 91 [.str t] (.agg (cV (.mk 4 0 t [] []))):=by
 refine Pure.go ir91 ck91 (Al4 _) fun KP Q hQ=>?_
 simp(disch:=omega) only[ir91,go_sem]
 refine goA_intro fun b hb=>?_
 simp(disch:=omega) only[go_sem]
 exact hQ _ _ _ [.agg [.int .i64 4,.int .i64 0,.str t,.sl .nil 5 [],.sl .nil 6 []]] nofun (by simp(disch:=omega) only[ir91,resvs,resv,go_sem]) rfl
structure Tok where
 k:Int
 s:List UInt8
def cK (t:Tok):List AV:=[.int .i64 t.k,.str t.s]
def cKs (l:List Tok):List (List AV):=l.map cK
theorem za5 (l:List Tok):(cKs l).length=l.length:=by simp[cKs]
theorem zed (l:List Tok):(cKs l).map (·.map AV.strip1)=cKs l:=by simp[cKs,cK,AV.strip1]
theorem zf5 (a b:List Mem) (ha:a.length≤Lim) (hc:∀ s v,Mem.mk s v∈a→∀ u,Pure Tryz.prog 15 [.agg (cV v),.agg (cV u)] (.bool (eqd v u))) :
  Pure Tryz.prog 40 [.sl .no 6 (cMs a),.sl .no 6 (cMs b)] (.bool (eqd a b)):=by
 refine Pure.go ir40 ck40 (Al4 _) fun KP Q hQ=>?_
 have h1:=zaX a
 have h2:=zaX b
 simp only[Lim] at ha
 by_cases hl:a.length=b.length
 case neg =>
  have hl':¬ ((a.length:Int)=b.length):=by omega
  have hne:a≠b:=fun e=>hl (by rw[e])
  simp(disch:=omega) only[ir40,h1,h2,hl',go_sem]
  exact hQ _ _ _ _ nofun rfl (by simp[tupOf,envOf,AV.strip,AV.strip1,z7 hne])
 have hl':((a.length:Int)=b.length)=True:=eq_true (by omega)
 simp(disch:=omega) only[ir40,h1,h2,hl',go_sem]
 refine goL_range a 5 (fun _:Unit=>[]) (fun done rest n H=>b.take done.length=done) () (by simp(disch:=omega) only[go_sem]) rfl ?_ ?_
 ·rintro n H J hp hlt
  simp(disch:=omega) only[h1,hlt,go_sem]
  exact hQ _ _ _ _ nofun rfl (by simp[tupOf,envOf,AV.strip,AV.strip1,ZG (ze2 hl hp)])
 ·rintro done x rest n H J hd hlt _ hp hJ
  obtain⟨y,r,hb⟩:=ze6 hd hl hp
  have g1:=zhj hd
  have g2:=zhj hb
  have hlt2:(done.length:Int)<b.length:=by omega
  have hmem:x∈a:=by rw[hd];simp
  have hst:=zdg hb
  have hne:x≠y→a≠b:=zgD hd hb
  obtain⟨s,v⟩:=x
  obtain⟨t,u⟩:=y
  by_cases hs:s=t
  case neg =>
   have hne2:=hne (by simp[hs])
   simp(disch:=omega) only[zh,zf,zc,zg,ze,zb,zm,h1,h2,hlt,hlt2,g1,g2,hs,go_sem]
   exact hQ _ _ _ _ nofun rfl (by simp[tupOf,envOf,AV.strip,AV.strip1,z7 hne2])
  simp(disch:=omega) only[zh,zf,zc,zg,ze,zb,zm,h1,h2,hlt,hlt2,g1,g2,hs,go_sem]
  refine goK_pure (hc s v hmem u) ?_
  by_cases hv:v=u
  ·simp(disch:=omega) only[ZG hv,go_sem]
   exact goJ (hJ () _ (by rw[hs,hv];exact hst)) (by simp(disch:=omega) only[wrap64,go_sem])
  ·have:=hne (by simp[hv])
   simp(disch:=omega) only[z7 hv,go_sem]
   exact hQ _ _ _ _ nofun rfl (by simp[tupOf,envOf,AV.strip,AV.strip1,z7 this])
theorem zkK:∀ v,bV v≤Lim→∀ u,Pure Tryz.prog 15 [.agg (cV v),.agg (cV u)] (.bool (eqd v u)):=by
 refine Val.ind fun k n s l m ihl ihm hb u=>?_
 obtain⟨k',n',s',l',m'⟩:=u
 have hb':1+s.length+bVs l+bMs m≤Lim:=hb
 have hll:=zhl l
 have hml:=zfj m
 have il:∀ x∈l,∀ y,Pure Tryz.prog 15 [.agg (cV x),.agg (cV y)] (.bool (eqd x y)):=fun x hx y=>by
  obtain⟨a,b,hd⟩:=List.append_of_mem hx
  have:=zkt a x b
  rw[← hd] at this
  exact ihl x hx (by omega) y
 have im:∀ s v,Mem.mk s v∈m→∀ u,Pure Tryz.prog 15 [.agg (cV v),.agg (cV u)] (.bool (eqd v u)):=fun t v hx u=>by
  obtain⟨a,b,hd⟩:=List.append_of_mem hx
  have:=zg2 a (.mk t v) b
  rw[← hd] at this
  simp only[bM] at this
  exact ihm t v hx (by omega) u
 refine Pure.go ir15 ck15 (Al4 _) fun KP Q hQ=>?_
 have hlb:=zcU l
 have hlb':=zcU l'
 by_cases h1:k=k'
 case neg =>
  have hne:¬ (Val.mk k n s l m=Val.mk k' n' s' l' m'):=by simp[h1]
  simp(disch:=omega) only[ir15,zfQ,h1,go_sem]
  exact hQ _ _ _ _ nofun rfl (by simp[tupOf,envOf,AV.strip,AV.strip1,z7 hne])
 by_cases h2:n=n'
 case neg =>
  have hne:¬ (Val.mk k n s l m=Val.mk k' n' s' l' m'):=by simp[h2]
  simp(disch:=omega) only[ir15,zfQ,h1,h2,go_sem]
  exact hQ _ _ _ _ nofun rfl (by simp[tupOf,envOf,AV.strip,AV.strip1,z7 hne])
 by_cases h3:s=s'
 case neg =>
  have hne:¬ (Val.mk k n s l m=Val.mk k' n' s' l' m'):=by simp[h3]
  simp(disch:=omega) only[ir15,zfQ,h1,h2,h3,go_sem]
  exact hQ _ _ _ _ nofun rfl (by simp[tupOf,envOf,AV.strip,AV.strip1,z7 hne])
 by_cases hl:l.length=l'.length
 case neg =>
  have hl':¬ ((l.length:Int)=l'.length):=by omega
  have hne:¬ (Val.mk k n s l m=Val.mk k' n' s' l' m'):=by simp only[Val.mk.injEq];rintro⟨_,_,_,e,_⟩;exact hl (by rw[e])
  simp(disch:=omega) only[ir15,zfQ,h1,h2,h3,hlb,hlb',hl',go_sem]
  exact hQ _ _ _ _ nofun rfl (by simp[tupOf,envOf,AV.strip,AV.strip1,z7 hne])
 have hl':((l.length:Int)=l'.length)=True:=eq_true (by omega)
 simp(disch:=omega) only[ir15,zfQ,h1,h2,h3,hlb,hlb',hl',go_sem]
 simp only[Lim] at hb'
 refine goL_range l 5 (fun _:Unit=>[]) (fun done rest n H=>l'.take done.length=done) () (by simp(disch:=omega) only[go_sem]) rfl ?_ ?_
 ·rintro _ H J hp hlt
  have e4:=ze2 hl hp
  simp(disch:=omega) only[hlb,hlt,go_sem]
  refine goK_pure (zf5 m m' (by simp only[Lim];omega) im) ?_
  simp(disch:=omega) only[go_sem]
  have:eqd (Val.mk k n s l m) (Val.mk k' n' s' l' m')=eqd m m':=by
   by_cases h:m=m'
   ·rw[ZG h,ZG (by rw[h1,h2,h3,e4,h])]
   ·rw[z7 h,z7 (by simp[h])]
  exact hQ _ _ _ _ nofun rfl (by simp[tupOf,envOf,AV.strip,AV.strip1,this])
 ·rintro done x rest _ H J hd hlt _ hp hJ
  obtain⟨y,r,hb⟩:=ze6 hd hl hp
  have g1:=zgV hd
  have g2:=zgV hb
  have hlt2:(done.length:Int)<l'.length:=by omega
  simp(disch:=omega) only[zh,zf,zc,zg,ze,zb,zm,hlb,hlb',hlt,hlt2,g1,g2,go_sem]
  refine goK_pure (il x (by rw[hd];simp) y) ?_
  by_cases hxy:x=y
  ·simp(disch:=omega) only[ZG hxy,go_sem]
   exact goJ (hJ () _ (by rw[hxy];exact zdg hb)) (by simp(disch:=omega) only[wrap64,go_sem])
  ·have hne:¬ (Val.mk k n s l m=Val.mk k' n' s' l' m'):=by simp only[Val.mk.injEq];rintro⟨_,_,_,e,_⟩;exact zgD hd hb hxy e
   simp(disch:=omega) only[z7 hxy,go_sem]
   exact hQ _ _ _ _ nofun rfl (by simp[tupOf,envOf,AV.strip,AV.strip1,z7 hne])
abbrev zlY (H:Heap) (o:Own) (sz:Nat) (xs:List (List AV)):AV→Heap→Prop:=fun v H'=>∃ o',v=.sl o' sz xs∧OwnS H o H' o' xs.length sz
abbrev zii (P:Program) (f:FuncId) (args:List AV) (H:Heap) (o:Own) (sz:Nat) (xs:List (List AV)):Prop :=
 ACalls P f args H (fun e H'=>match e with|.ret v=>zlY H o sz xs v H'|.pan _=>False)
theorem za4 {P:Program} {KP:AV→Heap→Prop} {Q:AExit→Env→Heap→Prop} {st:List Fr} {ρ:Env} {H:Heap} {all l:List AItem} {d:Option Nat} {R:List Chk} {f:FuncId} {args:List AV} {o:Own} {sz:Nat} {xs:List (List AV)}
  (h:zii P f args H o sz xs) (hk:∀ o' H',OwnS H o H' o' xs.length sz→goR P KP Q all l st R (ρ.set d (.sl o' sz xs)) H'):goK P KP Q all l st d R ρ f args H :=
 goK_both (XP:=fun _ _=>False) h (fun v H' ⟨o',e,hs⟩=>by subst e;exact hk o' H' hs) (fun _ _ h=>h.elim)
def isD (c:UInt8):Bool:=decide (48≤c.toNat)&&decide (c.toNat≤57)
def isL (c:UInt8):Bool:=(decide (97≤c.toNat)&&decide (c.toNat≤122))||((decide (65≤c.toNat)&&decide (c.toNat≤90))||decide (c.toNat=95))
theorem zgs (c:UInt8):Pure Tryz.prog 126 [.int .u8 (c.toNat:Int)] (.bool (isD c)):=by
 refine Pure.go ir126 ck126 (Al4 _) fun KP Q hQ=>?_
 by_cases h:(48:Int)≤c.toNat
 ·simp(disch:=omega) only[ir126,h,go_sem]
  have h':48≤c.toNat:=by omega
  have e:decide ((c.toNat:Int)≤57)=decide (c.toNat≤57):=by rw[decide_eq_decide];omega
  exact hQ _ _ _ _ nofun rfl (by simp[tupOf,envOf,AV.strip,AV.strip1,isD,h',e])
 ·simp(disch:=omega) only[ir126,h,go_sem]
  have h':¬ 48≤c.toNat:=by omega
  exact hQ _ _ _ _ nofun rfl (by simp[tupOf,envOf,AV.strip,AV.strip1,isD,h'])
theorem zdm (c:UInt8):Pure Tryz.prog 147 [.int .u8 (c.toNat:Int)] (.bool (isD c)):=by
 refine Pure.go ir147 ck147 (Al4 _) fun KP Q hQ=>?_
 by_cases h:(48:Int)≤c.toNat
 ·simp(disch:=omega) only[ir147,h,go_sem]
  have h':48≤c.toNat:=by omega
  have e:decide ((c.toNat:Int)≤57)=decide (c.toNat≤57):=by rw[decide_eq_decide];omega
  exact hQ _ _ _ _ nofun rfl (by simp[tupOf,envOf,AV.strip,AV.strip1,isD,h',e])
 ·simp(disch:=omega) only[ir147,h,go_sem]
  have h':¬ 48≤c.toNat:=by omega
  exact hQ _ _ _ _ nofun rfl (by simp[tupOf,envOf,AV.strip,AV.strip1,isD,h'])
theorem zeQ (c:UInt8):Pure Tryz.prog 123 [.int .u8 (c.toNat:Int)] (.bool (isL c)):=by
 refine Pure.go ir123 ck123 (Al4 _) fun KP Q hQ=>?_
 have e:decide ((c.toNat:Int)=95)=decide (c.toNat=95):=by rw[decide_eq_decide];omega
 by_cases h:(97:Int)≤c.toNat
 ·have h':97≤c.toNat:=by omega
  by_cases h2:(c.toNat:Int)≤122
  ·have h2':c.toNat≤122:=by omega
   simp(disch:=omega) only[ir123,h,h2,go_sem]
   exact hQ _ _ _ _ nofun rfl (by simp[tupOf,envOf,AV.strip,AV.strip1,isL,h',h2'])
  ·have h2':¬ c.toNat≤122:=by omega
   have h3:(65:Int)≤c.toNat:=by omega
   have h4:¬ (c.toNat:Int)≤90:=by omega
   have h4':¬ c.toNat≤90:=by omega
   simp(disch:=omega) only[ir123,h,h2,h3,h4,go_sem]
   exact hQ _ _ _ _ nofun rfl (by simp[tupOf,envOf,AV.strip,AV.strip1,isL,h',h2',h4',e])
 ·have h':¬ 97≤c.toNat:=by omega
  by_cases h3:(65:Int)≤c.toNat
  ·have h3':65≤c.toNat:=by omega
   by_cases h4:(c.toNat:Int)≤90
   ·have h4':c.toNat≤90:=by omega
    simp(disch:=omega) only[ir123,h,h3,h4,go_sem]
    exact hQ _ _ _ _ nofun rfl (by simp[tupOf,envOf,AV.strip,AV.strip1,isL,h',h3',h4'])
   ·have h4':¬ c.toNat≤90:=by omega
    simp(disch:=omega) only[ir123,h,h3,h4,go_sem]
    exact hQ _ _ _ _ nofun rfl (by simp[tupOf,envOf,AV.strip,AV.strip1,isL,h',h3',h4',e])
  ·have h3':¬ 65≤c.toNat:=by omega
   simp(disch:=omega) only[ir123,h,h3,go_sem]
   exact hQ _ _ _ _ nofun rfl (by simp[tupOf,envOf,AV.strip,AV.strip1,isL,h',h3',e])
theorem ze1 (c:UInt8):Pure Tryz.prog 146 [.int .u8 (c.toNat:Int)] (.bool (isL c)):=by
 refine Pure.go ir146 ck146 (Al4 _) fun KP Q hQ=>?_
 have e:decide ((c.toNat:Int)=95)=decide (c.toNat=95):=by rw[decide_eq_decide];omega
 by_cases h:(97:Int)≤c.toNat
 ·have h':97≤c.toNat:=by omega
  by_cases h2:(c.toNat:Int)≤122
  ·have h2':c.toNat≤122:=by omega
   simp(disch:=omega) only[ir146,h,h2,go_sem]
   exact hQ _ _ _ _ nofun rfl (by simp[tupOf,envOf,AV.strip,AV.strip1,isL,h',h2'])
  ·have h2':¬ c.toNat≤122:=by omega
   have h3:(65:Int)≤c.toNat:=by omega
   have h4:¬ (c.toNat:Int)≤90:=by omega
   have h4':¬ c.toNat≤90:=by omega
   simp(disch:=omega) only[ir146,h,h2,h3,h4,go_sem]
   exact hQ _ _ _ _ nofun rfl (by simp[tupOf,envOf,AV.strip,AV.strip1,isL,h',h2',h4',e])
 ·have h':¬ 97≤c.toNat:=by omega
  by_cases h3:(65:Int)≤c.toNat
  ·have h3':65≤c.toNat:=by omega
   by_cases h4:(c.toNat:Int)≤90
   ·have h4':c.toNat≤90:=by omega
    simp(disch:=omega) only[ir146,h,h3,h4,go_sem]
    exact hQ _ _ _ _ nofun rfl (by simp[tupOf,envOf,AV.strip,AV.strip1,isL,h',h3',h4'])
   ·have h4':¬ c.toNat≤90:=by omega
    simp(disch:=omega) only[ir146,h,h3,h4,go_sem]
    exact hQ _ _ _ _ nofun rfl (by simp[tupOf,envOf,AV.strip,AV.strip1,isL,h',h3',h4',e])
  ·have h3':¬ 65≤c.toNat:=by omega
   simp(disch:=omega) only[ir146,h,h3,go_sem]
   exact hQ _ _ _ _ nofun rfl (by simp[tupOf,envOf,AV.strip,AV.strip1,isL,h',h3',e])
def zeF:List UInt8→Nat→Bool
 | [],_=>true
 | c::r,i=>if isL c||(decide (i≠0)&&isD c) then zeF r (i+1) else false
def zaD (s:List UInt8):Bool:=zeF s 0&&decide (s≠[])
theorem zki {s a:List UInt8} {x:UInt8} {b:List UInt8} (h:s=a++x::b):s.getD a.length 0=x:=by subst h;simp
def zn:List UInt8→Nat
 | []=>0
 | c::r=>if isD c then zn r+1 else 0
theorem y7:∀ l,zn l≤l.length
 | []=>Al4 _
 | c::r=>by have:=y7 r;simp only[zn,Al2];split<;>omega
theorem z6 (s:List UInt8) (k:Nat):(s.drop k=[]∧s.length≤k)∨(k<s.length∧s.drop k=s.getD k 0::s.drop (k+1)):=by
 rcases Nat.lt_or_ge k s.length with h|h
 ·right
  refine⟨h,?_⟩
  rw[List.drop_eq_getElem_cons h]
  simp[h]
 ·left;exact⟨List.drop_of_length_le h,h⟩
theorem ZB (s:List UInt8) (hs:s.length≤Lim):Pure Tryz.prog 180 [.str s] (.int .i64 (zn s)):=by
 refine Pure.go ir180 ck180 (Al4 _) fun KP Q hQ=>?_
 simp only[Lim] at hs
 have hr1:=y7 s
 simp(disch:=omega) only[ir180,go_sem]
 refine goL_st (fun n:Nat=>[(3,.int .i64 n)]) (fun n H=>zn s=n+zn (s.drop n)∧n≤s.length) (fun n=>s.length-n) 0 (by simp(disch:=omega) only[go_sem]) ⟨by simp,by omega⟩ ?_
 rintro n H J ⟨hn,hle⟩ hJ
 rcases z6 s n with ⟨h1,h2⟩|⟨h1,h2⟩
 ·have hlt:¬ ((n:Int)<s.length):=by omega
  rw[h1] at hn
  simp only[zn,Nat.add_zero] at hn
  simp(disch:=omega) only[hlt,go_sem]
  exact hQ _ _ _ _ nofun rfl (by simp[tupOf,envOf,AV.strip,AV.strip1,hn])
 ·have hlt:((n:Int)<s.length):=by omega
  rw[h2] at hn
  simp only[zn] at hn
  simp(disch:=omega) only[hlt,go_sem]
  refine goK_pure (zgs (s.getD n 0)) ?_
  cases hd:isD (s.getD n 0) with
  | true =>
   simp only[hd,if_true] at hn
   simp(disch:=omega) only[hd,go_sem]
   exact goJ (hJ (n+1) _ (by omega) ⟨by omega,by omega⟩) (by simp(disch:=omega) only[wrap64,Int.natCast_add,Int.natCast_one,go_sem])
  | false =>
   simp only[hd,Al7,if_false,Nat.add_zero] at hn
   simp(disch:=omega) only[hd,go_sem]
   exact hQ _ _ _ _ nofun rfl (by simp[tupOf,envOf,AV.strip,AV.strip1,hn])
theorem zjp (s:List UInt8) (i:Int) (h0:0≤i) (h1:i≤s.length) (hs:s.length≤Lim):Pure Tryz.prog 205 [.str s,.int .i64 i] (.int .i64 (zn (s.drop i.toNat))):=by
 obtain⟨k,rfl⟩:∃ k:Nat,i=k:=⟨i.toNat,by omega⟩
 refine Pure.go ir205 ck205 (Al4 _) fun KP Q hQ=>?_
 simp only[Lim] at hs
 have hr1:=y7 (s.drop k)
 rw[zU] at hr1
 simp(disch:=omega) only[ir205,go_sem]
 refine goL_st (fun n:Nat=>[(5,.int .i64 n)]) (fun n H=>zn (s.drop k)=n+zn (s.drop (k+n))∧k+n≤s.length) (fun n=>s.length-n) 0 (by simp(disch:=omega) only[go_sem]) ⟨by simp,by omega⟩ ?_
 rintro n H J ⟨hn,hle⟩ hJ
 have hto:((k:Int)+n).toNat=k+n:=by omega
 have hnn:(0:Int)≤(k:Int)+n:=by omega
 rcases z6 s (k+n) with ⟨h1,h2⟩|⟨h1,h2⟩
 ·have hlt:¬ ((k:Int)+n<s.length):=by omega
  rw[h1] at hn
  simp only[zn,Nat.add_zero] at hn
  simp(disch:=omega) only[hlt,wrap64,go_sem]
  exact hQ _ _ _ _ nofun rfl (by simp[tupOf,envOf,AV.strip,AV.strip1,hn])
 ·have hlt:((k:Int)+n<s.length):=by omega
  rw[h2] at hn
  simp only[zn] at hn
  simp(disch:=omega) only[hlt,wrap64,hto,hnn,go_sem]
  refine goK_pure (zdm (s.getD (k+n) 0)) ?_
  cases hd:isD (s.getD (k+n) 0) with
  | true =>
   simp only[hd,if_true] at hn
   simp(disch:=omega) only[hd,go_sem]
   exact goJ (hJ (n+1) _ (by omega) ⟨by rw[← Nat.add_assoc];omega,by omega⟩) (by simp(disch:=omega) only[wrap64,Int.natCast_add,Int.natCast_one,go_sem])
  | false =>
   simp only[hd,Al7,if_false,Nat.add_zero] at hn
   simp(disch:=omega) only[hd,go_sem]
   exact hQ _ _ _ _ nofun rfl (by simp[tupOf,envOf,AV.strip,AV.strip1,hn])
theorem zgX (c:UInt8) (s:List UInt8):[c].isPrefixOf s=decide (s.head?=some c):=by
 cases s with
 | nil=>rfl
 | cons d r =>
  by_cases h:d=c
  ·subst h;simp[List.isPrefixOf]
  ·have h':¬ c=d:=fun e=>h e.symm
   simp[List.isPrefixOf,h,h']
def yT (s:List UInt8):Nat:=if zn s=0 then 0 else if s.getD 0 0=48 then 1 else zn s
def zi (s:List UInt8):Nat:=if s.head?=some 45 then (if zn s.tail=0 then 0 else 1+yT s.tail) else yT s
theorem zhk (s:List UInt8):yT s≤s.length:=by have:=y7 s;unfold yT;split<;>(try split)<;>omega
theorem zid {s:List UInt8} (h:zn s≠0):0<yT s:=by unfold yT;simp only[h,if_false];split<;>omega
theorem zaT (s:List UInt8):zi s≤s.length:=by
 have h1:=zhk s
 have h2:=zhk s.tail
 unfold zi
 split
 ·rename_i h
  cases s with
  | nil=>simp at h
  | cons c r =>
   simp only[List.tail_cons,Al2] at h2 ⊢
   by_cases h0:zn r=0<;>simp only[h0,if_true,if_false]<;>omega
 ·exact h1
theorem zlV {a b:UInt8}:((a.toNat:Int)=(b.toNat:Int))=(a=b):=by
 apply propext
 rw[Int.natCast_inj]
 exact UInt8.toNat_inj
theorem zdD (a:UInt8) (n:Nat) (hn:n<256):decide ((a.toNat:Int)=n)=decide (a=UInt8.ofNat n):=by
 rw[decide_eq_decide]
 have:(UInt8.ofNat n).toNat=n:=by simp[UInt8.toNat_ofNat'];omega
 constructor
 ·intro h;apply UInt8.toNat_inj.1;rw[this];omega
 ·intro h;subst h;rw[this]
theorem zk9 (s:List UInt8) (hs:s.length≤Lim):Pure Tryz.prog 179 [.str s] (.int .i64 (zi s)):=by
 refine Pure.go ir179 ck179 (Al4 _) fun KP Q hQ=>?_
 simp only[Lim] at hs
 simp(disch:=omega) only[ir179,go_sem]
 refine goK_pure (YI s [45]) ?_
 rw[zgX]
 by_cases h:s.head?=some 45
 ·cases s with
  | nil=>simp at h
  | cons c r =>
   have hc:c=45:=by simpa using h
   subst hc
   simp only[Al2] at hs
   have h1:(1:Int)≤((r.length+1:Nat):Int):=by omega
   have h2:(1:Int)<((r.length+1:Nat):Int)∨r=[]:=by cases r<;>simp;omega
   simp(disch:=omega) only[h,h1,Int.toNat_one,go_sem]
   refine goK_pure (ZB r (by simp only[Lim];omega)) ?_
   by_cases h0:zn r=0
   ·simp(disch:=omega) only[h0,go_sem]
    exact hQ _ _ _ _ nofun rfl (by simp[tupOf,envOf,AV.strip,AV.strip1,zi,h0])
   ·have h0':¬ ((zn r:Int)=0):=by omega
    have hrl:=y7 r
    have hlt:(1:Int)<((r.length+1:Nat):Int):=by omega
    have e:=zdD (r.getD 0 0) 48 (by omega)
    by_cases h48:r.getD 0 0=48
    ·have hi:yT r=1:=by simp only[yT,h0,h48,if_false,if_true]
     simp(disch:=omega) only[h0',hlt,Int.toNat_one,h48,UInt8.reduceToNat,wrap64,go_sem]
     exact hQ _ _ _ _ nofun rfl (by simp[tupOf,envOf,AV.strip,AV.strip1,zi,h0,hi])
    ·have h48':¬ ((r.getD 0 0).toNat:Int)=48:=by
      intro hh
      rw[decide_eq_true (by exact hh)] at e
      exact h48 (by simpa using e.symm)
     have hi:yT r=zn r:=by simp only[yT,h0,h48,if_false]
     simp(disch:=omega) only[h0',hlt,Int.toNat_one,h48',wrap64,go_sem]
     exact hQ _ _ _ _ nofun rfl (by simp[tupOf,envOf,AV.strip,AV.strip1,zi,h0,hi])
 ·simp(disch:=omega) only[h,go_sem]
  refine goK_pure (ZB s (by simp only[Lim];omega)) ?_
  by_cases h0:zn s=0
  ·simp(disch:=omega) only[h0,go_sem]
   exact hQ _ _ _ _ nofun rfl (by simp[tupOf,envOf,AV.strip,AV.strip1,zi,h,yT,h0])
  ·have h0':¬ ((zn s:Int)=0):=by omega
   have hrl:=y7 s
   have hlt:(0:Int)<(s.length:Int):=by omega
   have e:=zdD (s.getD 0 0) 48 (by omega)
   by_cases h48:s.getD 0 0=48
   ·have hi:yT s=1:=by simp only[yT,h0,h48,if_false,if_true]
    simp(disch:=omega) only[h0',hlt,h48,UInt8.reduceToNat,wrap64,go_sem]
    exact hQ _ _ _ _ nofun rfl (by simp[tupOf,envOf,AV.strip,AV.strip1,zi,h,hi])
   ·have h48':¬ ((s.getD 0 0).toNat:Int)=48:=by
     intro hh
     rw[decide_eq_true (by exact hh)] at e
     exact h48 (by simpa using e.symm)
    have hi:yT s=zn s:=by simp only[yT,h0,h48,if_false]
    simp(disch:=omega) only[h0',hlt,h48',wrap64,go_sem]
    exact hQ _ _ _ _ nofun rfl (by simp[tupOf,envOf,AV.strip,AV.strip1,zi,h,hi])
def isE (c:UInt8):Bool:=decide (c=101)||decide (c=69)
def sgN (r:List UInt8):Nat:=if r.head?=some 43∨r.head?=some 45 then 1 else 0
def y8:List UInt8→Nat
 | []=>0
 | c::r=>if isE c then (if zn (r.drop (sgN r))=0 then 0 else 1+sgN r+zn (r.drop (sgN r))) else 0
theorem zfn (r:List UInt8):sgN r≤r.length:=by
 unfold sgN
 split
 ·cases r<;>simp_all
 ·omega
theorem zfi:∀ s,y8 s≤s.length
 | []=>by simp[y8]
 | c::r=>by
  have h:=y7 (r.drop (sgN r))
  have h2:=zfn r
  rw[zU] at h
  simp only[y8,Al2]
  split
  ·split<;>omega
  ·omega
theorem zgn (s:List UInt8) (hs:s.length≤Lim):Pure Tryz.prog 181 [.str s] (.int .i64 (y8 s)):=by
 refine Pure.go ir181 ck181 (Al4 _) fun KP Q hQ=>?_
 simp only[Lim] at hs
 cases s with
 | nil =>
  simp(disch:=omega) only[ir181,go_sem]
  exact hQ _ _ _ _ nofun rfl (by simp[tupOf,envOf,AV.strip,AV.strip1,y8])
 | cons c r =>
  simp only[Al2] at hs
  have hne:¬ (c::r=[]):=by simp
  have hp:(0:Int)<((r.length+1:Nat):Int):=by omega
  have e1:=zdD c 101 (by omega)
  have e2:=zdD c 69 (by omega)
  have hE:∀(P:Prop),P→P:=fun _ h=>h
  by_cases hc:isE c=true
  case neg =>
   have hc1:¬ (c.toNat:Int)=101:=by
    intro hh;rw[decide_eq_true (by exact hh)] at e1
    exact hc (by simp[isE,(by simpa using e1.symm:c=101)])
   have hc2:¬ (c.toNat:Int)=69:=by
    intro hh;rw[decide_eq_true (by exact hh)] at e2
    exact hc (by simp[isE,(by simpa using e2.symm:c=69)])
   simp(disch:=omega) only[ir181,hne,hp,hc1,hc2,go_sem]
   have hcf:isE c=false:=by simpa using hc
   exact hQ _ _ _ _ nofun rfl (by simp[tupOf,envOf,AV.strip,AV.strip1,y8,hcf])
  have fin:∀ k:Nat,zn (r.drop (sgN r))=k→y8 (c::r)=if k=0 then 0 else 1+sgN r+k:=fun k hk=>by subst hk;simp only[y8,hc,if_true]
  have hcase:(c.toNat:Int)=101∨(¬ (c.toNat:Int)=101∧(c.toNat:Int)=69):=by
   simp only[isE,zbQ,zu] at hc
   rcases hc with rfl|rfl
   ·exact .inl rfl
   ·exact .inr ⟨by decide,rfl⟩
  have hdl:=y7 (r.drop (sgN r))
  rw[zU] at hdl
  have hsl:=zfn r
  cases r with
  | nil =>
   have k0:=fin 0 (by simp[sgN,zn])
   rcases hcase with h1|⟨h1,h2⟩
   ·simp(disch:=omega) only[ir181,h1,go_sem]
    refine goK_pure (ZB [] (by simp)) ?_
    simp(disch:=omega) only[zn,go_sem]
    exact hQ _ _ _ _ nofun rfl (by simp[tupOf,envOf,AV.strip,AV.strip1,k0])
   ·simp(disch:=omega) only[ir181,h1,h2,go_sem]
    refine goK_pure (ZB [] (by simp)) ?_
    simp(disch:=omega) only[zn,go_sem]
    exact hQ _ _ _ _ nofun rfl (by simp[tupOf,envOf,AV.strip,AV.strip1,k0])
  | cons d t =>
   simp only[Al2] at hs
   have hl1:(1:Int)<((t.length+1+1:Nat):Int):=by omega
   have hl2:(2:Int)≤((t.length+1+1:Nat):Int):=by omega
   have hl3:(1:Int)≤((t.length+1+1:Nat):Int):=by omega
   have f1:=zdD d 43 (by omega)
   have f2:=zdD d 45 (by omega)
   by_cases hsg:d=43∨d=45
   ·have hsg1:sgN (d::t)=1:=by simp only[sgN,List.head?_cons,Al1,hsg,if_true]
    have k0:=fin (zn t) (by rw[hsg1];rfl)
    rw[hsg1] at k0 hdl
    have hd:(d.toNat:Int)=43∨(¬ (d.toNat:Int)=43∧(d.toNat:Int)=45):=by
     rcases hsg with rfl|rfl
     ·exact .inl rfl
     ·exact .inr ⟨by decide,rfl⟩
    rcases hcase with h1|⟨h1,h2⟩<;>rcases hd with h3|⟨h3,h4⟩
    all_goals
     simp only[hl1,hl2,Al2,List.drop_succ_cons,List.drop_zero] at hdl
    ·simp(disch:=omega) only[ir181,h1,h3,hl1,hl2,Int.toNat_one,go_sem]
     refine goK_pure (ZB t (by simp only[Lim];omega)) ?_
     by_cases hz:zn t=0
     ·simp(disch:=omega) only[hz,go_sem]
      exact hQ _ _ _ _ nofun rfl (by simp[tupOf,envOf,AV.strip,AV.strip1,k0,hz])
     ·have hz':¬ (zn t:Int)=0:=by omega
      simp(disch:=omega) only[hz',wrap64,go_sem]
      exact hQ _ _ _ _ nofun rfl (by simp[tupOf,envOf,AV.strip,AV.strip1,k0,hz])
    ·simp(disch:=omega) only[ir181,h1,h3,h4,hl1,hl2,Int.toNat_one,go_sem]
     refine goK_pure (ZB t (by simp only[Lim];omega)) ?_
     by_cases hz:zn t=0
     ·simp(disch:=omega) only[hz,go_sem]
      exact hQ _ _ _ _ nofun rfl (by simp[tupOf,envOf,AV.strip,AV.strip1,k0,hz])
     ·have hz':¬ (zn t:Int)=0:=by omega
      simp(disch:=omega) only[hz',wrap64,go_sem]
      exact hQ _ _ _ _ nofun rfl (by simp[tupOf,envOf,AV.strip,AV.strip1,k0,hz])
    ·simp(disch:=omega) only[ir181,h1,h2,h3,hl1,hl2,Int.toNat_one,go_sem]
     refine goK_pure (ZB t (by simp only[Lim];omega)) ?_
     by_cases hz:zn t=0
     ·simp(disch:=omega) only[hz,go_sem]
      exact hQ _ _ _ _ nofun rfl (by simp[tupOf,envOf,AV.strip,AV.strip1,k0,hz])
     ·have hz':¬ (zn t:Int)=0:=by omega
      simp(disch:=omega) only[hz',wrap64,go_sem]
      exact hQ _ _ _ _ nofun rfl (by simp[tupOf,envOf,AV.strip,AV.strip1,k0,hz])
    ·simp(disch:=omega) only[ir181,h1,h2,h3,h4,hl1,hl2,Int.toNat_one,go_sem]
     refine goK_pure (ZB t (by simp only[Lim];omega)) ?_
     by_cases hz:zn t=0
     ·simp(disch:=omega) only[hz,go_sem]
      exact hQ _ _ _ _ nofun rfl (by simp[tupOf,envOf,AV.strip,AV.strip1,k0,hz])
     ·have hz':¬ (zn t:Int)=0:=by omega
      simp(disch:=omega) only[hz',wrap64,go_sem]
      exact hQ _ _ _ _ nofun rfl (by simp[tupOf,envOf,AV.strip,AV.strip1,k0,hz])
   ·have hsg0:sgN (d::t)=0:=by simp only[sgN,List.head?_cons,Al1,hsg,if_false]
    have k0:=fin (zn (d::t)) (by rw[hsg0];rfl)
    rw[hsg0] at k0 hdl
    have h3:¬ (d.toNat:Int)=43:=by
     intro hh;rw[decide_eq_true (by exact hh)] at f1
     exact hsg (.inl (by simpa using f1.symm))
    have h4:¬ (d.toNat:Int)=45:=by
     intro hh;rw[decide_eq_true (by exact hh)] at f2
     exact hsg (.inr (by simpa using f2.symm))
    simp only[List.drop_zero,Al2] at hdl
    rcases hcase with h1|⟨h1,h2⟩
    ·simp(disch:=omega) only[ir181,h1,h3,h4,hl1,hl3,Int.toNat_one,go_sem]
     refine goK_pure (ZB (d::t) (by simp only[Lim,Al2];omega)) ?_
     by_cases hz:zn (d::t)=0
     ·simp(disch:=omega) only[hz,go_sem]
      exact hQ _ _ _ _ nofun rfl (by simp[tupOf,envOf,AV.strip,AV.strip1,k0,hz])
     ·have hz':¬ (zn (d::t):Int)=0:=by omega
      simp(disch:=omega) only[hz',wrap64,go_sem]
      exact hQ _ _ _ _ nofun rfl (by simp[tupOf,envOf,AV.strip,AV.strip1,k0,hz])
    ·simp(disch:=omega) only[ir181,h1,h2,h3,h4,hl1,hl3,Int.toNat_one,go_sem]
     refine goK_pure (ZB (d::t) (by simp only[Lim,Al2];omega)) ?_
     by_cases hz:zn (d::t)=0
     ·simp(disch:=omega) only[hz,go_sem]
      exact hQ _ _ _ _ nofun rfl (by simp[tupOf,envOf,AV.strip,AV.strip1,k0,hz])
     ·have hz':¬ (zn (d::t):Int)=0:=by omega
      simp(disch:=omega) only[hz',wrap64,go_sem]
      exact hQ _ _ _ _ nofun rfl (by simp[tupOf,envOf,AV.strip,AV.strip1,k0,hz])
def zQ (r:List UInt8):Nat:=if r.head?=some 46∧0<zn r.tail then 1+zn r.tail else 0
def zL (s:List UInt8):Nat×Int :=
 if zi s=0 then (0,0) else
  (zi s+zQ (s.drop (zi s))+y8 (s.drop (zi s+zQ (s.drop (zi s)))),if zQ (s.drop (zi s))=0∧y8 (s.drop (zi s+zQ (s.drop (zi s))))=0 then 3 else 4)
theorem zdJ (r:List UInt8):zQ r≤r.length:=by
 unfold zQ
 split
 ·rename_i h
  cases r with
  | nil=>simp at h
  | cons c t=>have:=y7 t;simp only[List.tail_cons,Al2];omega
 ·omega
theorem zg8 (s:List UInt8) (hs:s.length≤Lim):Pure Tryz.prog 125 [.str s] (.tup [.int .i64 (zL s).1,.int .i64 (zL s).2]):=by
 refine Pure.go ir125 ck125 (Al4 _) fun KP Q hQ=>?_
 have hs':=hs
 simp only[Lim] at hs
 simp(disch:=omega) only[ir125,go_sem]
 refine goK_pure (zk9 s hs') ?_
 have hw:=zaT s
 by_cases h0:zi s=0
 ·simp(disch:=omega) only[h0,go_sem]
  exact hQ _ _ _ _ nofun rfl (by simp[tupOf,envOf,AV.strip,AV.strip1,zL,h0])
 have h0':¬ ((zi s:Int)=0):=by omega
 have hwl:(zi s:Int)≤s.length:=by omega
 simp(disch:=omega) only[h0',hwl,go_sem]
 refine goK_pure (YI (s.drop (zi s)) [46]) ?_
 rw[zgX]
 generalize hn:zi s=n at *
 have fin:∀ f p:Nat,zQ (s.drop n)=f→y8 (s.drop (n+f))=p→zL s=(n+f+p,if f=0∧p=0 then 3 else 4):=fun f p hf hp=>by
  unfold zL
  rw[hn,hf,hp]
  simp only[h0,if_false]
 have hpl:=zfi (s.drop n)
 rw[zU] at hpl
 by_cases h46:(s.drop n).head?=some 46
 ·obtain⟨c,t,hct⟩:∃ c t,s.drop n=c::t:=by
   cases hx:s.drop n with
   | nil=>rw[hx] at h46;simp at h46
   | cons c t=>exact⟨c,t,rfl⟩
  have hlen:s.length=n+1+t.length:=by have:=congrArg List.length hct;simp at this;omega
  have hdr:s.drop (n+1)=t:=by rw[← List.drop_drop,hct];rfl
  have hto:((n:Int)+1).toNat=n+1:=by omega
  have hn1:(0:Int)≤(n:Int)+1:=by omega
  have hn2:(n:Int)+1≤s.length:=by omega
  have hrl:=y7 t
  simp(disch:=omega) only[h46,wrap64,hto,hn1,hn2,hdr,go_sem]
  refine goK_pure (ZB t (by simp only[Lim];omega)) ?_
  by_cases hk:(0:Int)<zn t
  ·have hk':0<zn t:=by omega
   have hfr:zQ (s.drop n)=1+zn t:=by unfold zQ;rw[if_pos ⟨h46,by rw[hct];exact hk'⟩,hct];rfl
   have hto2:((n:Int)+1+zn t).toNat=n+(1+zn t):=by omega
   have hn3:(0:Int)≤(n:Int)+1+zn t:=by omega
   have hn4:(n:Int)+1+zn t≤s.length:=by omega
   have hpl2:=zfi (s.drop (n+(1+zn t)))
   rw[zU] at hpl2
   simp(disch:=omega) only[hk,wrap64,hto2,hn3,hn4,go_sem]
   refine goK_pure (zgn (s.drop (n+(1+zn t))) (by rw[zU];simp only[Lim];omega)) ?_
   have hf:=fin _ _ hfr rfl
   generalize hp:y8 (s.drop (n+(1+zn t)))=p at *
   by_cases hp0:(0:Int)<p
   ·simp(disch:=omega) only[hp0,wrap64,go_sem]
    exact hQ _ _ _ _ nofun rfl (by simp[tupOf,envOf,AV.strip,AV.strip1,hf,Int.add_assoc])
   ·have hp00:p=0:=by omega
    subst hp00
    simp(disch:=omega) only[go_sem]
    exact hQ _ _ _ _ nofun rfl (by simp[tupOf,envOf,AV.strip,AV.strip1,hf,Int.add_assoc])
  ·have hk0:zn t=0:=by omega
   have hfr:zQ (s.drop n)=0:=by unfold zQ;exact if_neg fun hh=>by have:=hh.2;rw[hct] at this;simp only[List.tail_cons] at this;omega
   simp(disch:=omega) only[hk,hwl,go_sem]
   refine goK_pure (zgn (s.drop n) (by rw[zU];simp only[Lim];omega)) ?_
   have hf:=fin _ _ hfr rfl
   rw[Nat.add_zero] at hf
   generalize hp:y8 (s.drop n)=p at *
   by_cases hp0:(0:Int)<p
   ·have hp1:¬ p=0:=by omega
    simp(disch:=omega) only[hp0,wrap64,go_sem]
    exact hQ _ _ _ _ nofun rfl (by simp[tupOf,envOf,AV.strip,AV.strip1,hf,hp1])
   ·have hp00:p=0:=by omega
    subst hp00
    simp(disch:=omega) only[go_sem]
    exact hQ _ _ _ _ nofun rfl (by simp[tupOf,envOf,AV.strip,AV.strip1,hf])
 ·have hfr:zQ (s.drop n)=0:=by unfold zQ;exact if_neg fun hh=>h46 hh.1
  simp(disch:=omega) only[h46,hwl,go_sem]
  refine goK_pure (zgn (s.drop n) (by rw[zU];simp only[Lim];omega)) ?_
  have hf:=fin _ _ hfr rfl
  rw[Nat.add_zero] at hf
  generalize hp:y8 (s.drop n)=p at *
  by_cases hp0:(0:Int)<p
  ·have hp1:¬ p=0:=by omega
   simp(disch:=omega) only[hp0,wrap64,go_sem]
   exact hQ _ _ _ _ nofun rfl (by simp[tupOf,envOf,AV.strip,AV.strip1,hf,hp1])
  ·have hp00:p=0:=by omega
   subst hp00
   simp(disch:=omega) only[go_sem]
   exact hQ _ _ _ _ nofun rfl (by simp[tupOf,envOf,AV.strip,AV.strip1,hf])
def zao (s:List UInt8):Int:=if (zL s).1=s.length then (zL s).2 else 0
theorem zku (s:List UInt8) (hs:s.length≤Lim):Pure Tryz.prog 129 [.str s] (.int .i64 (zao s)):=by
 refine Pure.go ir129 ck129 (Al4 _) fun KP Q hQ=>?_
 simp(disch:=omega) only[ir129,go_sem]
 refine goK_pure (zg8 s hs) ?_
 by_cases h:(zL s).1=s.length
 ·have h':(((zL s).1:Int)=s.length)=True:=eq_true (by omega)
  simp(disch:=omega) only[h',go_sem]
  exact hQ _ _ _ _ nofun rfl (by simp[tupOf,envOf,AV.strip,AV.strip1,zao,h])
 ·have h':¬ ((zL s).1:Int)=s.length:=by omega
  simp(disch:=omega) only[h',go_sem]
  exact hQ _ _ _ _ nofun rfl (by simp[tupOf,envOf,AV.strip,AV.strip1,zao,h])
def okI:Lib.NumEnd Int→Bool
 | .ok _=>true
 | _=>false
def zd3 (s:List UInt8):Int:=match Lib.parseIntB 64 s with
 | .ok v=>v
 | Lib.NumEnd.syntax=>0
 | .range=>Lib.intSat 64 s
def Yj (s:List UInt8):Bool:=okI (Lib.parseIntB 64 s)&&decide (zao s=3)
theorem ziP (s:List UInt8) (hs:s.length≤Lim):Pure Tryz.prog 78 [.str s] (.tup [.int .i64 (zd3 s),.bool (Yj s)]):=by
 refine Pure.go ir78 ck78 (Al4 _) fun KP Q hQ=>?_
 simp(disch:=omega) only[ir78,go_sem]
 refine goK_pure (zh2 s (by simp only[Lim] at hs;omega)) ?_
 rcases hp:Lib.parseIntB 64 s with v|_|_
 ·simp(disch:=omega) only[parseA,hp,go_sem]
  refine goK_pure (zku s hs) ?_
  simp(disch:=omega) only[go_sem]
  exact hQ _ _ _ _ nofun rfl (by simp[tupOf,envOf,AV.strip,AV.strip1,zd3,Yj,hp,okI])
 ·simp(disch:=omega) only[parseA,hp,go_sem]
  exact hQ _ _ _ _ nofun rfl (by simp[tupOf,envOf,AV.strip,AV.strip1,zd3,Yj,hp,okI])
 ·simp(disch:=omega) only[parseA,hp,go_sem]
  exact hQ _ _ _ _ nofun rfl (by simp[tupOf,envOf,AV.strip,AV.strip1,zd3,Yj,hp,okI])
def zlU (s:List UInt8):Bool:=decide (zao s=4)||(decide (zao s=3)&&!Yj s)
def zme (s:List UInt8):Bool:=decide (s=[116,114,117,101])||(decide (s=[102,97,108,115,101])||decide (s=[110,117,108,108]))
def zf8 (n:Int) (s:List UInt8) (l:List Val) (m:List Mem):Bool:=decide (n=0)&&(decide (s=[])&&(decide (l.length=0)&&decide (m.length=0)))
def zhm (k n:Int) (s:List UInt8) (l:List Val) (m:List Mem):Bool :=
 zf8 0 [] l m&&(if k=0 then decide (n=0)&&decide (s=[]) else if k=1 then (decide (n=0)||decide (n=1))&&decide (s=[]) else if k=2 then decide (s=[])
  else if k=3 then decide (n=0)&&zlU s else if k=4 then decide (n=0)&&Lib.validD s else if k=5 then decide (n=0)&&(zaD s&&!zme s) else if k=8 then decide (n=0)&&zaD s else false)
mutual
def zkg (may:List UInt8→Bool):Val→Bool
 | .mk k n s l m=>if k=6 then zie may l&&zf8 n s [] m else if k=7 then zij may m&&zf8 n s l [] else zhm k n s l m
def zie (may:List UInt8→Bool):List Val→Bool
 | []=>true
 | v::r=>zkg may v&&zie may r
def zmt (may:List UInt8→Bool):Mem→Bool
 | .mk s v=>may s&&zkg may v
def zij (may:List UInt8→Bool):List Mem→Bool
 | []=>true
 | x::r=>zmt may x&&zij may r
end
def inR (n:Int):Prop:=-9223372036854775808≤n∧n≤9223372036854775807
mutual
def wfV:Val→Prop
 | .mk _ n _ l m=>inR n∧zkR l∧zio m
def zkR:List Val→Prop
 | []=>True
 | v::r=>wfV v∧zkR r
def wfM:Mem→Prop
 | .mk _ v=>wfV v
def zio:List Mem→Prop
 | []=>True
 | x::r=>wfM x∧zio r
end
theorem zhr (a:List Tok) (t:Tok):cKs a++[[.int .i64 t.k,.str t.s]]=cKs (a++[t]):=by simp[cKs,cK]
end Go.Proofs.YtaielcdfcgpbiaaGreatDoor
namespace Go.Proofs.YtaielcdfcgpbiaaGreatDoor
def zgj (P:Program) (f:FuncId) (fn:Func) (s:ChangeSpec) (c:OpenClaim):Bool:=c.wf (OpenSpec.ofChange s)&&laidOutB P&&mapsRowed P&&fn.params.all (P.readableRec ·)&&namedTie P c.named s.vars
def zgx (P:Program) (f:FuncId) (fn:Func) (s:ChangeSpec) (c:OpenClaim):Bool:=(c.stops==[])&&(P.stops==[])&&(c.knobs==[])&&(P.stopKnobs==[])&&(c.maps==(fn.params.toList++s.plain.varTypes P).any (P.mapsRec ·))&&(c.ifaces==(fn.params.toList++s.plain.varTypes P).any (P.ifacesRec ·))&&(c.mapsOut==P.mapsAmong fn.resultTypes.toList)&&(c.loops==(fn.params.toList++s.plain.varTypes P).any (P.loopsFrom ·))&&(c.wideKeys==(fn.params.toList++s.plain.varTypes P++fn.resultTypes.toList).any (P.wideKeysFrom ·))&&s.vars.all (P.varReadable ·)&&fn.resultTypes.all (fun t=>P.readableRec t&&decide (t<P.types.size))&&(c.ifacesOut==fn.resultTypes.toList.any (P.ifacesRec ·))&&(c.loopsOut==fn.resultTypes.toList.any (P.loopsFrom ·))&&(c.veiled==(fn.params.toList++s.plain.varTypes P++fn.resultTypes.toList).any (P.veiledRec ·))&&c.veiledFits P fn.params.toList (fn.params.toList++s.plain.varTypes P++fn.resultTypes.toList)
def zgf (P:Program) (f:FuncId) (fn:Func) (s:ChangeSpec) (c:OpenClaim):Bool:=(c.inPlace==P.inPlace f)&&(c.unfollowed==P.unfollowed f)&&(c.recurses==P.recurses f)&&(c.named==P.varsNamed f)
def zgA (P:Program) (f:FuncId) (fn:Func) (s:ChangeSpec) (c:OpenClaim):Bool:=(c.plainKeys==P.plainKeys)&&c.shortTexts.isNone
def zgv (P:Program) (f:FuncId) (fn:Func) (s:ChangeSpec) (c:OpenClaim):Bool:=P.stopsHeard
def zgC (P:Program) (f:FuncId) (fn:Func) (s:ChangeSpec) (c:OpenClaim):Bool:=P.mayEnter
def zgi (P:Program) (f:FuncId) (fn:Func) (s:ChangeSpec) (c:OpenClaim):Bool:=(c.lifted==P.liftsFinal)&&(P.make==some c.make)&&(c.kinds==(if c.domain.isEmpty then [] else fn.params.toList.map fun t=>match P.underlying t with|some (.int k)=>some k|_=>none))&&(c.pinned==c.pinnedBy)
theorem zhu {P:Program} {f:FuncId} {fn:Func} {s:ChangeSpec} {c:OpenClaim} (h0:zgj P f fn s c=true) (h1:zgx P f fn s c=true) (h2:zgf P f fn s c=true) (h3:zgA P f fn s c=true) (h4:zgv P f fn s c=true) (h5:zgC P f fn s c=true) (h6:zgi P f fn s c=true):joinedFacts P f fn s c=true:=by
 simp only[zgj,Al0] at h0
 obtain⟨⟨⟨⟨a0,a1⟩,a2⟩,a3⟩,a4⟩:=h0
 simp only[zgx,Al0] at h1
 obtain⟨⟨⟨⟨⟨⟨⟨⟨⟨⟨⟨⟨⟨⟨a5,a6⟩,a7⟩,a8⟩,a13⟩,a14⟩,a15⟩,a16⟩,a17⟩,a18⟩,a19⟩,a20⟩,a21⟩,a30⟩,a31⟩:=h1
 simp only[zgf,Al0] at h2
 obtain⟨⟨⟨a9,a10⟩,a11⟩,a12⟩:=h2
 simp only[zgA,Al0] at h3
 obtain⟨a22,a23⟩:=h3
 simp only[zgv,Al0] at h4
 have a24:=h4
 simp only[zgC,Al0] at h5
 have a25:=h5
 simp only[zgi,Al0] at h6
 obtain⟨⟨⟨a26,a27⟩,a28⟩,a29⟩:=h6
 simp only[joinedFacts,Al0]
 exact⟨⟨⟨⟨⟨⟨⟨⟨⟨⟨⟨⟨⟨⟨⟨⟨⟨⟨⟨⟨⟨⟨⟨⟨⟨⟨⟨⟨⟨⟨⟨a0,a1⟩,a2⟩,a3⟩,a4⟩,a5⟩,a6⟩,a7⟩,a8⟩,a9⟩,a10⟩,a11⟩,a12⟩,a13⟩,a14⟩,a15⟩,a16⟩,a17⟩,a18⟩,a19⟩,a20⟩,a21⟩,a22⟩,a23⟩,a24⟩,a25⟩,a26⟩,a27⟩,a28⟩,a29⟩,a30⟩,a31⟩
open Go.Ab Go.ChangeAt Go.ChangeShapes Go.Lib Go.RowKit Go.WideElems Go.WideShapes
theorem own:ownKnob Tryz.prog.godebug=none:=by kernel_rfl
theorem laidOut:laidOutB Tryz.prog=true:=by kernel_rfl
theorem zhB {H:Type} {s:ChangeSpec} {ds:List (DataW H)} (h:∀ k,(Rows.OpenSpec.upto s).cond=some k→k H ds=true):blkAll ds≤1048576:=by
 have h1:Rows.uptoSmall H ds=true:=h _ rfl
 have h2:=of_decide_eq_true h1
 rwa [Yq] at h2
end Go.Proofs.YtaielcdfcgpbiaaGreatDoor
namespace Go.Proofs.YtaielcdfcgpbiaaGreatDoor
open Go.Ab
structure DirD where
 nm:List UInt8
 args:List Mem
inductive SelD where
 | mk (k:Int) (al nm:List UInt8) (args:List Mem) (dirs:List DirD) (on:List UInt8) (sels:List SelD)
structure TyD where
 nm:List UInt8
 lists:Int
 musts:Int
structure VarD where
 nm:List UInt8
 t:TyD
 has:Bool
 d:Val
structure OpD where
 k:Int
 nm:List UInt8
 vars:List VarD
 dirs:List DirD
 sels:List SelD
structure FragD where
 nm:List UInt8
 on:List UInt8
 dirs:List DirD
 sels:List SelD
structure DocD where
 ops:List OpD
 frags:List FragD
def cD (x:DirD):List AV:=[.str x.nm,.sl .no 6 (cMs x.args)]
def cDs (l:List DirD):List (List AV):=l.map cD
def cTy (t:TyD):List AV:=[.str t.nm,.int .i64 t.lists,.int .i64 t.musts]
def cW (x:VarD):List AV:=cTy ⟨x.nm,0,0⟩ |>.take 1 |>.append (cTy x.t++(.bool x.has::cV x.d))
def cWs (l:List VarD):List (List AV):=l.map cW
theorem zf2 (nm:List UInt8) (t:TyD) (h:Bool) (d:Val):cW ⟨nm,t,h,d⟩=.str nm::.str t.nm::.int .i64 t.lists::.int .i64 t.musts::.bool h::cV d:=rfl
theorem zc0 (l:List DirD):(cDs l).length=l.length:=by simp[cDs]
theorem zfc (l:List VarD):(cWs l).length=l.length:=by simp[cWs]
theorem zg7 {l a:List DirD} {x:DirD} {b:List DirD} (h:l=a++x::b):(cDs l).getD a.length []=cD x:=getD_mid' h
theorem zka {l a:List VarD} {x:VarD} {b:List VarD} (h:l=a++x::b):(cWs l).getD a.length []=cW x:=getD_mid' h
theorem zf4 (x:DirD):(cD x).map AV.strip1=cD x:=rfl
theorem Yv (x:VarD):(cW x).map AV.strip1=cW x:=by rcases x with ⟨a,b,c,⟨⟩⟩;rfl
theorem zcp (l:List VarD):(cWs l).map (·.map AV.strip1)=cWs l:=by rw[cWs,List.map_map];exact List.map_congr_left fun v _=>Yv v
theorem zbP (x:VarD):(cW x).length=10:=by rcases x with ⟨a,b,c,⟨⟩⟩;rfl
theorem zal (x:VarD):(cW x).take 10=cW x:=by rcases x with ⟨a,b,c,⟨⟩⟩;rfl
def bD (x:DirD):Nat:=1+x.nm.length+bMs x.args
def bDs (l:List DirD):Nat:=(l.map bD).sum
mutual
def bS:SelD→Nat
 | .mk _ al nm args dirs on sels=>1+al.length+nm.length+on.length+bMs args+bDs dirs+bSs sels
def bSs:List SelD→Nat
 | []=>0
 | x::r=>bS x+bSs r
end
def bW (x:VarD):Nat:=x.nm.length+x.t.nm.length+bV x.d
def bWs (l:List VarD):Nat:=(l.map bW).sum
def bF (x:FragD):Nat:=1+x.nm.length+x.on.length+bDs x.dirs+bSs x.sels
theorem za0 {α:Type} {f:α→Nat} (hf:∀ x,1≤f x):∀ l:List α,l.length≤(l.map f).sum
 | []=>Nat.zero_le _
 | x::r=>by have:=za0 hf r;have:=hf x;simp only[List.map_cons,List.sum_cons,Al2];omega
theorem zcY {α:Type} (f:α→Nat) (a:List α) (x:α) (b:List α):((a++x::b).map f).sum=(a.map f).sum+f x+(b.map f).sum:=by simp;omega
theorem zkr (l:List DirD):l.length≤bDs l:=za0 (fun x=>by simp only[bD];omega) l
theorem zjE (l:List VarD):l.length≤bWs l:=za0 (fun x=>by have:=zgM x.d;simp only[bW];omega) l
theorem zkx (a:List DirD) (x:DirD) (b:List DirD):bDs (a++x::b)=bDs a+bD x+bDs b:=zcY ..
theorem zjR (a:List VarD) (x:VarD) (b:List VarD):bWs (a++x::b)=bWs a+bW x+bWs b:=zcY ..
mutual
theorem SelD.ind {P:SelD→Prop} (h:∀ k al nm args dirs on sels,(∀ v∈sels,P v)→P (.mk k al nm args dirs on sels)):∀ v,P v
 | .mk k al nm args dirs on sels=>h k al nm args dirs on sels (SelD.indL h sels)
theorem SelD.indL {P:SelD→Prop} (h:∀ k al nm args dirs on sels,(∀ v∈sels,P v)→P (.mk k al nm args dirs on sels)):∀ l:List SelD,∀ v∈l,P v
 | [],_,hv=>by cases hv
 | x::r,v,hv=>(List.mem_cons.1 hv).elim (fun e=>e▸SelD.ind h x) (SelD.indL h r v)
end
theorem zj1 {t:List UInt8} {v:Val} {m:List Mem} (h:Mem.mk t v∈m):bV v≤bMs m:=by
 obtain⟨a,b,hd⟩:=List.append_of_mem h
 have:=zg2 a (.mk t v) b
 rw[← hd] at this
 simp only[bM] at this
 omega
theorem ziT (a b:List Mem) (ha:bMs a≤Lim):Pure Tryz.prog 40 [.sl .no 6 (cMs a),.sl .no 6 (cMs b)] (.bool (eqd a b)) :=
 zf5 a b (by have:=zfj a;omega) fun s v hm u=>zkK v (by have:=zj1 hm;omega) u
def hexL:List UInt8:=[48,49,50,51,52,53,54,55,56,57,97,98,99,100,101,102]
def hexD (c:UInt8):Option Nat:=if Lib.indexByte hexL (c ||| 32)<0∨c.toNat<48∨(57<c.toNat∧c.toNat<65) then none else some (Lib.indexByte hexL (c ||| 32)).toNat
def Zb:Nat→List UInt8→Nat→Option Nat
 | 0,_,u=>some u
 | _+1,[],_=>none
 | n+1,c::t,u=>match hexD c with
  | none=>none
  | some k=>Zb n t (16*u+k)
def Zo (s:List UInt8):Option Nat:=Zb 4 s 0
def y0 (n:Nat):List UInt8 :=
 if n≤127 then [UInt8.ofNat n]
 else if n≤2047 then [UInt8.ofNat (192+n / 64),UInt8.ofNat (128+n % 64)]
 else if n≤65535 then [UInt8.ofNat (224+n / 4096),UInt8.ofNat (128+n / 64 % 64),UInt8.ofNat (128+n % 64)]
 else [UInt8.ofNat (240+n / 262144),UInt8.ofNat (128+n / 4096 % 64),UInt8.ofNat (128+n / 64 % 64),UInt8.ofNat (128+n % 64)]
def zp:List Nat→Option (List UInt8)
 | []=>some []
 | u::r=>if 65535<u∨(56320≤u∧u≤57343) then none
  else if 55296≤u∧u<56320 then match r with
   | []=>none
   | v::r=>if v<56320∨57343<v then none else (zp r).map (y0 (65536+1024*(u-55296)+(v-56320))++·)
  else (zp r).map (y0 u++·)
structure Sd where
 b:List UInt8
 u:List Nat
 ok:Bool
def zS (q:Sd):Sd:=⟨q.b++(zp q.u).getD [],[],q.ok&&(zp q.u).isSome⟩
def Sd.put (q:Sd) (c:UInt8):Sd:=⟨(zS q).b++[c],[],(zS q).ok⟩
def YA:List UInt8:=[34,92,47,98,102,110,114,116]
def zgu:List UInt8:=[34,92,47,8,12,10,13,9]
def Zx (q:Sd):List UInt8→Option (Sd×List UInt8)
 | []=>none
 | c::t=>if c=117 then (Zo t).map fun u=>(⟨q.b,q.u++[u],q.ok⟩,t.drop 4)
  else if Lib.indexByte YA c<0 then none else some (q.put (zgu.getD (Lib.indexByte YA c).toNat 0),t)
def Z1 (may:UInt8→Bool):Nat→List UInt8→Sd→Option (Sd×List UInt8)
 | 0,_,_=>none
 | _+1,[],_=>none
 | n+1,c::t,q=>if c=34 then some (zS q,t)
  else if c=92 then match Zx q t with
   | none=>none
   | some (q',t')=>Z1 may n t' q'
  else if may c then Z1 may n t (q.put c) else none
def Zc (may:UInt8→Bool) (t:List UInt8):Option (List UInt8×List UInt8):=match Z1 may (t.length+1) t ⟨[],[],true⟩ with
 | some (q,t')=>if q.ok then some (q.b,t') else none
 | none=>none
def bk (c:UInt8):Bool:=decide (0≤Lib.indexByte [9,10,13,32] c)
def nch (c:UInt8):Bool:=decide (0≤Lib.indexByte [48,49,50,51,52,53,54,55,56,57,43,45,46,101,69] c)
def nst (c:UInt8):Bool:=decide (0≤Lib.indexByte [45,48,49,50,51,52,53,54,55,56,57] c)
def zdO (s:List UInt8):Val:=if Yj s then .mk 2 (zd3 s) [] [] [] else .mk 3 0 s [] []
theorem zcb {q q':Sd} {t t':List UInt8} (h:Zx q t=some (q',t')):t' <:+ t∧t'.length<t.length:=by
 cases t with
 | nil=>cases h
 | cons c t =>
  simp only[Zx] at h
  split at h
  ·cases hu:Zo t with
   | none=>simp[hu] at h
   | some u =>
    simp only[hu,yd,Al1,Al8] at h
    obtain⟨_,rfl⟩:=h
    exact⟨(List.drop_suffix _ _).trans (List.suffix_cons ..),by simp;omega⟩
  ·split at h
   ·cases h
   ·simp only[Al1,Al8] at h
    obtain⟨_,rfl⟩:=h
    exact⟨List.suffix_cons ..,by simp⟩
theorem zdy {may:UInt8→Bool}:∀(n:Nat) (t:List UInt8) (q q':Sd) (t':List UInt8),Z1 may n t q=some (q',t')→t' <:+ t∧t'.length<t.length
 | 0,_,_,_,_,h=>by cases h
 | _+1,[],_,_,_,h=>by cases h
 | n+1,c::t,q,q',t',h=>by
  simp only[Z1] at h
  split at h
  ·simp only[Al1,Al8] at h
   obtain⟨_,rfl⟩:=h
   exact⟨List.suffix_cons ..,by simp⟩
  ·split at h
   ·cases he:Zx q t with
    | none=>simp[he] at h
    | some x =>
     obtain⟨q1,t1⟩:=x
     simp only[he] at h
     have h1:=zcb he
     have h2:=zdy n t1 q1 q' t' h
     exact⟨(h2.1.trans h1.1).trans (List.suffix_cons ..),by simp;omega⟩
   ·split at h
    ·have h2:=zdy n t _ q' t' h
     exact⟨h2.1.trans (List.suffix_cons ..),by simp;omega⟩
    ·cases h
theorem zfu {may:UInt8→Bool} {t t' b:List UInt8} (h:Zc may t=some (b,t')):t' <:+ t∧t'.length<t.length:=by
 unfold Zc at h
 split at h
 ·rename_i q t1 hq
  split at h
  ·cases h;exact zdy _ _ _ _ _ hq
  ·cases h
 ·cases h
theorem Yd:∀(n:Nat) (t:List UInt8) (u v:Nat),Zb n t u=some v→n≤t.length
 | 0,_,_,_,_=>Nat.zero_le _
 | n+1,[],_,_,h=>by cases h
 | n+1,c::t,u,v,h=>by
  simp only[Zb] at h
  split at h
  ·cases h
  ·have:=Yd n t _ v h;simp;omega
theorem ZW (n:Nat):(y0 n).length≤4∧(n≤65535→(y0 n).length≤3):=by
 unfold y0
 split
 ·simp
 ·split
  ·simp
  ·split
   ·simp
   ·refine⟨by simp,fun h=>by omega⟩
theorem Yf:∀(u:List Nat) (s:List UInt8),zp u=some s→s.length≤3*u.length
 | [],s,h=>by cases h;simp
 | u::[],s,h=>by
  simp only[zp] at h
  split at h
  ·cases h
  ·rename_i h1
   split at h
   ·cases h
   ·simp only[yd,Al1] at h
    subst h
    have:=(ZW u).2 (by omega)
    simp;omega
 | u::v::r,s,h=>by
  rw[zp] at h
  split at h
  ·cases h
  ·rename_i h1
   split at h
   ·split at h
    ·cases h
    ·cases hr:zp r with
     | none=>simp[hr] at h
     | some x =>
      simp only[hr,yd,Al1] at h
      subst h
      have h2:=Yf r x hr
      have h3:=(ZW (65536+1024*(u-55296)+(v-56320))).1
      simp only[Al5,Al2];omega
   ·cases hr:zp (v::r) with
    | none=>simp[hr] at h
    | some x =>
     simp only[hr,yd,Al1] at h
     subst h
     have h2:=Yf (v::r) x hr
     have h3:=(ZW u).2 (by omega)
     simp only[Al5,Al2] at h2 ⊢;omega
def Sd.w (q:Sd):Nat:=q.b.length+3*q.u.length
theorem zcc (q:Sd):(zS q).b.length≤q.w:=by
 unfold zS Sd.w
 cases h:zp q.u with
 | none=>simp
 | some s=>have:=Yf _ _ h;simp;omega
theorem zjz (q:Sd) (c:UInt8):(q.put c).w≤q.w+1:=by
 have:=zcc q
 simp only[Sd.put,Sd.w,Al5,Al2,Al3] at this ⊢;omega
theorem zib {q q':Sd} {t t':List UInt8} (h:Zx q t=some (q',t')):q'.w+t'.length≤q.w+t.length:=by
 cases t with
 | nil=>cases h
 | cons c t =>
  simp only[Zx] at h
  split at h
  ·cases hu:Zo t with
   | none=>simp[hu] at h
   | some u =>
    simp only[hu,yd,Al1,Al8] at h
    obtain⟨rfl,rfl⟩:=h
    have:=Yd _ _ _ _ hu
    simp only[Sd.w,Al5,Al2,Al3,zU];omega
  ·split at h
   ·cases h
   ·simp only[Al1,Al8] at h
    obtain⟨rfl,rfl⟩:=h
    have:=zjz q (zgu.getD (Lib.indexByte YA c).toNat 0)
    simp only[Al2];omega
theorem zgl {may:UInt8→Bool}:∀(n:Nat) (t:List UInt8) (q q':Sd) (t':List UInt8),Z1 may n t q=some (q',t')→q'.b.length+t'.length+1≤q.w+t.length
 | 0,_,_,_,_,h=>by cases h
 | _+1,[],_,_,_,h=>by cases h
 | n+1,c::t,q,q',t',h=>by
  simp only[Z1] at h
  split at h
  ·simp only[Al1,Al8] at h
   obtain⟨rfl,rfl⟩:=h
   have:=zcc q
   simp only[Al2];omega
  ·split at h
   ·cases he:Zx q t with
    | none=>simp[he] at h
    | some x =>
     obtain⟨q1,t1⟩:=x
     simp only[he] at h
     have h1:=zib he
     have h2:=zgl n t1 q1 q' t' h
     simp only[Al2];omega
   ·split at h
    ·have h2:=zgl n t _ q' t' h
     have h3:=zjz q c
     simp only[Al2];omega
    ·cases h
theorem zls {may:UInt8→Bool} {t t' b:List UInt8} (h:Zc may t=some (b,t')):b.length+t'.length+1≤t.length:=by
 unfold Zc at h
 split at h
 ·rename_i q t1 hq
  split at h
  ·cases h;have:=zgl _ _ _ _ _ hq;simpa[Sd.w] using this
  ·cases h
 ·cases h
theorem zeZ:inR 0:=by simp[inR]
theorem zhS {s:List UInt8} {n:Int} (h:Lib.parseIntB 64 s=.ok n):inR n:=by
 cases s with
 | nil=>cases h
 | cons c r =>
  simp only[Lib.parseIntB] at h
  split at h
  ·cases h
  ·cases h
  ·split at h
   ·cases h
   ·split at h
    ·cases h
    ·rename_i h1 h2
     cases h
     simp only[inR]
     split<;>simp_all<;>omega
theorem zju (s:List UInt8):bV (zdO s)≤1+s.length∧wfV (zdO s):=by
 unfold zdO
 split
 ·rename_i h
  refine⟨by simp only[bV,bVs,bMs,Al3];omega,?_,trivial,trivial⟩
  unfold Yj at h
  unfold zd3
  rcases hp:Lib.parseIntB 64 s with v|_|_
  ·exact zhS hp
  ·exact zeZ
  ·rw[hp] at h;simp[okI] at h
 ·exact⟨by simp only[bV,bVs,bMs];omega,zeZ,trivial,trivial⟩
abbrev TS:=List Tok
def hdT (t:TS):Tok:=t.headD ⟨0,[]⟩
def isP (m:List UInt8) (t:TS):Bool:=decide ((hdT t).k=1)&&decide ((hdT t).s=m)
def isW (w:List UInt8) (t:TS):Bool:=decide ((hdT t).k=2)&&decide ((hdT t).s=w)
abbrev PR (α:Type):=Except Int (α×TS)
def pb {α β:Type} (x:PR α) (f:α→TS→PR β):PR β:=match x with
 | .ok (a,t)=>f a t
 | .error e=>.error e
theorem zl {α β:Type} (a:α) (t:TS) (f:α→TS→PR β):pb (.ok (a,t)) f=f a t:=rfl
def yk (m:List UInt8) (t:TS):PR Unit:=if isP m t then .ok ((),t.tail) else .error 2
def ya (t:TS):PR (List UInt8):=if (hdT t).k=2 then .ok ((hdT t).s,t.tail) else .error 2
def z1 (w:List UInt8) (t:TS):TS:=if isW w t then t.tail else t
def zY {α:Type} (m:List UInt8) (f:TS→PR α):Nat→List α→TS→PR (List α)
 | 0,_,_=>.error 0
 | n+1,l,t=>if isP m t then .ok (l,t.tail) else pb (f t) fun x t=>zY m f n (l++[x]) t
def yS {α:Type} (m:List UInt8) (f:TS→PR α) (t:TS):PR (List α):=pb (f t) fun x t=>zY m f (t.length+1) [x] t
def y9 {α:Type} (m:List UInt8) (f:TS→PR α):Nat→List α→TS→PR (List α)
 | 0,_,_=>.error 0
 | n+1,l,t=>if isP m t then pb (f t.tail) fun x t=>y9 m f n (l++[x]) t else .ok (l,t)
def zaI (ty:TyD) (t:TS):PR TyD:=if isP [33] t then .ok (⟨ty.nm,ty.lists,ty.musts+1⟩,t.tail) else .ok (ty,t)
def zjk {α:Type} (f:Nat→α):Nat→Option α
 | 0=>none
 | k+1=>some (f k)
theorem zg3 {α:Type} (f:Nat→α) (k:Nat):zjk f (k+1)=some (f k):=rfl
def zcS (sub:Option (TS→PR TyD)) (t:TS):PR TyD:=if isP [91] t then (match sub with
   | none=>.error 4
   | some f=>pb (f t.tail) fun ty t=>pb (yk [93] t) fun _ t=>zaI ⟨ty.nm,ty.lists+1,ty.musts*2⟩ t)
  else pb (ya t) fun s t=>zaI ⟨s,0,0⟩ t
def zan:Nat→TS→PR TyD
 | 0=>zcS none
 | k+1=>zcS (some (zan k))
theorem Z4 (k:Nat) (t:TS):zan k t=zcS (zjk zan k) t:=by cases k<;>rfl
def Zt (s:List UInt8):Val:=if s=[110,117,108,108] then zV else if s=[116,114,117,101] then .mk 1 1 [] [] [] else if s=[102,97,108,115,101] then .mk 1 0 [] [] [] else .mk 5 0 s [] []
def yh (v:TS→PR Val) (t:TS):PR Mem:=pb (ya t) fun s t=>pb (yk [58] t) fun _ t=>pb (v t) fun x t=>.ok (.mk s x,t)
def YM (fixed:Bool) (sub:Option (TS→PR Val)) (t:TS):PR Val :=
  if (hdT t).k=2 then .ok (Zt (hdT t).s,t.tail)
  else if (hdT t).k=3∨(hdT t).k=4 then .ok (zdO (hdT t).s,t.tail)
  else if (hdT t).k=5 then .ok (.mk 4 0 (hdT t).s [] [],t.tail)
  else if isP [91] t then (match sub with
   | none=>.error 4
   | some f=>pb (zY [93] f (t.tail.length+1) [] t.tail) fun l t=>.ok (.mk 6 0 [] l [],t))
  else if isP [123] t then (match sub with
   | none=>.error 4
   | some f=>pb (zY [125] (yh f) (t.tail.length+1) [] t.tail) fun l t=>.ok (.mk 7 0 [] [] l,t))
  else if fixed then .error 2
  else pb (yk [36] t) fun _ t=>pb (ya t) fun s t=>.ok (.mk 8 0 s [] [],t)
def yW (fixed:Bool):Nat→TS→PR Val
 | 0=>YM fixed none
 | k+1=>YM fixed (some (yW fixed k))
theorem yx (fixed:Bool) (k:Nat) (t:TS):yW fixed k t=YM fixed (zjk (yW fixed) k) t:=by cases k<;>rfl
def YD (fixed:Bool) (k:Nat) (t:TS):PR (List Mem):=if isP [40] t then yS [41] (yh (yW fixed k)) t.tail else .ok ([],t)
def zdi (fixed:Bool) (k:Nat) (t:TS):PR DirD:=pb (ya t) fun s t=>pb (YD fixed k t) fun a t=>.ok (⟨s,a⟩,t)
def zbf (fixed:Bool) (k:Nat) (t:TS):PR (List DirD):=y9 [64] (zdi fixed k) (t.length+1) [] t
def wK (t:Tok):Nat:=t.s.length+4
def wT (l:TS):Nat:=(l.map wK).sum
theorem ze0 (x:Tok) (l:TS):wT (x::l)=wK x+wT l:=by simp[wT]
theorem zlC {a b:TS} (h:a <:+ b):wT a≤wT b:=by
 obtain⟨p,rfl⟩:=h;simp[wT]
structure Fp {α:Type} (b:α→Nat) (ok:α→Prop) (c:Nat) (t:TS) (a:α) (t':TS):Prop where
 suf:t' <:+ t
 w:b a+c+wT t'≤wT t
 ok:ok a
def GP {α:Type} (b:α→Nat) (ok:α→Prop) (c:Nat) (f:TS→PR α):Prop:=∀ t a t',f t=.ok (a,t')→Fp b ok c t a t'
theorem Fp.lt {α:Type} {b:α→Nat} {ok:α→Prop} {c:Nat} {t t':TS} {a:α} (h:Fp b ok c t a t') (hc:0<c):t'.length<t.length:=by
 obtain⟨p,hp⟩:=h.suf
 have h2:=h.w
 cases p with
 | nil=>simp at hp;subst hp;omega
 | cons x p=>rw[← hp];simp;omega
theorem zcT {t:TS} (h:(hdT t).k≠0):t=hdT t::t.tail:=by
 cases t with
 | nil=>exact absurd rfl h
 | cons x t=>rfl
theorem zdS {m:List UInt8} {t:TS} (h:isP m t=true):(hdT t).k≠0:=by
 simp only[isP,Al0,zu] at h;rw[h.1];decide
theorem zjn {m:List UInt8} {t:TS} (h:isW m t=true):(hdT t).k≠0:=by
 simp only[isW,Al0,zu] at h;rw[h.1];decide
theorem zbE {t:TS} (h:(hdT t).k≠0):t.tail <:+ t∧(hdT t).s.length+4+wT t.tail=wT t:=by
 refine⟨List.tail_suffix t,?_⟩
 conv=>rhs;rw[zcT h,ze0]
 rfl
theorem Ys {m:List UInt8} {t:TS} (h:isP m t=true):t.tail <:+ t∧4+wT t.tail≤wT t:=by
 have:=zbE (zdS h);exact⟨this.1,by omega⟩
theorem zaR {m:List UInt8} {t:TS} (h:isW m t=true):t.tail <:+ t∧4+wT t.tail≤wT t:=by
 have:=zbE (zjn h);exact⟨this.1,by omega⟩
def T1 {α:Type} (_:α):Prop:=True
def b0 {α:Type} (_:α):Nat:=0
theorem yq (m:List UInt8):GP b0 T1 4 (yk m):=fun t a t' h=>by
 unfold yk at h
 split at h
 ·rename_i hp;simp only[zfN,Al8] at h;obtain⟨_,rfl⟩:=h
  have:=Ys hp;exact⟨this.1,by simp only[b0];omega,trivial⟩
 ·cases h
theorem zH:GP List.length T1 4 ya:=fun t a t' h=>by
 unfold ya at h
 split at h
 ·rename_i hp;simp only[zfN,Al8] at h;obtain⟨rfl,rfl⟩:=h
  have:=zbE (t:=t) (by rw[hp];decide);exact⟨this.1,by omega,trivial⟩
 ·cases h
theorem zj {α β:Type} {x:PR α} {f:α→TS→PR β} {b:β} {t':TS} (h:pb x f=.ok (b,t')):∃ a t,x=.ok (a,t)∧f a t=.ok (b,t'):=by
 rcases x with e|⟨a,t⟩
 ·cases h
 ·exact⟨a,t,rfl,h⟩
def sm {α:Type} (b:α→Nat) (l:List α):Nat:=(l.map b).sum+l.length
theorem zhc {α:Type} (b:α→Nat) (l:List α) (x:α):sm b (l++[x])=sm b l+b x+1:=by simp[sm];omega
theorem zg6 {α:Type} {ok:α→Prop} {l:List α} {x:α} (h:∀ y∈l,ok y) (hx:ok x):∀ y∈l++[x],ok y:=fun y hy=>by
 rcases List.mem_append.1 hy with h1|h1
 ·exact h y h1
 ·simp at h1;subst h1;exact hx
theorem zaN {α:Type} {b:α→Nat} {ok:α→Prop} {m:List UInt8} {f:TS→PR α} (hf:GP b ok 1 f):∀(n:Nat) (l:List α) (t:TS) (l':List α) (t':TS),(∀ x∈l,ok x)→zY m f n l t=.ok (l',t')→t' <:+ t∧sm b l'+4+wT t'≤sm b l+wT t∧∀ x∈l',ok x
 | 0,_,_,_,_,_,h=>by cases h
 | n+1,l,t,l',t',hl,h=>by
  simp only[zY] at h
  split at h
  ·rename_i hp;simp only[zfN,Al8] at h;obtain⟨rfl,rfl⟩:=h
   have:=Ys hp;exact⟨this.1,by omega,hl⟩
  ·obtain⟨x,t1,h1,h2⟩:=zj h
   have g1:=hf _ _ _ h1
   have w:=g1.w
   have g2:=zaN hf n _ _ _ _ (zg6 hl g1.ok) h2
   rw[zhc] at g2
   exact⟨g2.1.trans g1.suf,by omega,g2.2.2⟩
theorem zbq {α:Type} {b:α→Nat} {ok:α→Prop} {m:List UInt8} {f:TS→PR α} (hf:GP b ok 1 f):∀(n:Nat) (l:List α) (t:TS) (l':List α) (t':TS),(∀ x∈l,ok x)→y9 m f n l t=.ok (l',t')→t' <:+ t∧sm b l'+wT t'≤sm b l+wT t∧∀ x∈l',ok x
 | 0,_,_,_,_,_,h=>by cases h
 | n+1,l,t,l',t',hl,h=>by
  simp only[y9] at h
  split at h
  ·rename_i hp
   have h0:=Ys hp
   obtain⟨x,t1,h1,h2⟩:=zj h
   have g1:=hf _ _ _ h1
   have w:=g1.w
   have g2:=zbq hf n _ _ _ _ (zg6 hl g1.ok) h2
   rw[zhc] at g2
   exact⟨(g2.1.trans g1.suf).trans h0.1,by omega,g2.2.2⟩
  ·simp only[zfN,Al8] at h;obtain⟨rfl,rfl⟩:=h
   exact⟨List.suffix_refl t,by omega,hl⟩
theorem Yi {α:Type} {b:α→Nat} {ok:α→Prop} {m:List UInt8} {f:TS→PR α} (hf:GP b ok 1 f):GP (sm b) (fun l=>∀ x∈l,ok x) 4 (yS m f):=fun t l t' h=>by
 obtain⟨x,t1,h1,h2⟩:=zj h
 have g1:=hf _ _ _ h1
 have w:=g1.w
 have g2:=zaN hf _ [x] _ _ _ (fun y hy=>by simp at hy;subst hy;exact g1.ok) h2
 have e:sm b [x]=b x+1:=by simp[sm]
 exact⟨g2.1.trans g1.suf,by omega,g2.2.2⟩
theorem zcW {m:List UInt8} {t:TS} (h:isP m t=true):t.tail.length<t.length:=by
 conv=>rhs;rw[zcT (zdS h)]
 simp
theorem GP.lt {α:Type} {b:α→Nat} {ok:α→Prop} {c:Nat} {f:TS→PR α} (h:GP b ok c f) (hc:0<c):∀ t a t',f t=.ok (a,t')→t'.length<t.length:=fun t a t' e=>(h t a t' e).lt hc
def zmA (ty:TyD) (n:Nat):Prop:=0≤ty.lists∧ty.lists≤n∧0≤ty.musts∧ty.musts<2 ^ (ty.lists.toNat+1)∧ty.musts % 2=0
def zgd (n:Nat) (ty:TyD):Prop:=0≤ty.lists∧ty.lists≤n∧0≤ty.musts∧ty.musts<2 ^ (ty.lists.toNat+1)
theorem zee {ty:TyD} {n:Nat} (h:zmA ty n):∀ t a t',zaI ty t=.ok (a,t')→t' <:+ t∧a.nm=ty.nm∧wT t'≤wT t∧zgd n a:=fun t a t' e=>by
 obtain⟨h1,h2,h3,h4,h5⟩:=h
 unfold zaI at e
 split at e
 ·rename_i hp;simp only[zfN,Al8] at e;obtain⟨rfl,rfl⟩:=e
  have:=Ys hp
  refine⟨this.1,rfl,by omega,h1,h2,by simp only;omega,?_⟩
  have e2:(2:Int) ^ (ty.lists.toNat+1) % 2=0:=by rw[Int.pow_succ];omega
  simp only;omega
 ·simp only[zfN,Al8] at e;obtain⟨rfl,rfl⟩:=e
  exact⟨List.suffix_refl t,rfl,Al4 _,h1,h2,h3,h4⟩
theorem zeD (n:Nat) (ih:∀ m,n=m+1→GP (fun ty=>ty.nm.length) (zgd m) 4 (zan m)):GP (fun ty=>ty.nm.length) (zgd n) 4 (zan n):=fun t a t' h=>by
 rw[Z4,zcS.eq_def] at h
 split at h
 ·rename_i hp
  have h0:=Ys hp
  cases n with
  | zero=>cases h
  | succ n =>
   obtain⟨ty,t1,h1,h2⟩:=zj h
   obtain⟨_,t2,h3,h4⟩:=zj h2
   have g1:=ih n rfl _ _ _ h1
   have g3:=yq _ _ _ _ h3
   obtain⟨a1,a2,a3,a4⟩:=g1.ok
   have e1:(ty.lists+1).toNat=ty.lists.toNat+1:=by omega
   have g4:=zee (n:=n+1) ⟨by simp only;omega,by simp only;omega,by simp only;omega,by simp only;rw[e1,Int.pow_succ];omega,by simp only;omega⟩ _ _ _ h4
   have w1:=g1.w
   have w3:=g3.w
   simp only[b0] at w1 w3
   exact⟨((g4.1.trans g3.suf).trans g1.suf).trans h0.1,by rw[g4.2.1];simp only;omega,g4.2.2.2⟩
 ·obtain⟨s,t1,h1,h2⟩:=zj h
  have g1:=zH _ _ _ h1
  have g4:=zee (n:=n) ⟨by simp,by simp,by simp,by simp,by simp⟩ _ _ _ h2
  have w1:=g1.w
  exact⟨g4.1.trans g1.suf,by rw[g4.2.1];simp only;omega,g4.2.2.2⟩
theorem zbZ:∀ n,GP (fun ty=>ty.nm.length) (zgd n) 4 (zan n)
 | 0=>zeD 0 fun m h=>by cases h
 | k+1=>zeD (k+1) fun m h=>by cases h;exact zbZ k
def wfD (x:DirD):Prop:=zio x.args
def zlW (l:List DirD):Prop:=∀ x∈l,wfD x
def wfW (x:VarD):Prop:=inR x.t.lists∧inR x.t.musts∧wfV x.d
def pk (s:List UInt8):Tok:=⟨1,s⟩
theorem zeX:bV zV=1∧wfV zV:=⟨rfl,zeZ,trivial,trivial⟩
theorem zhM (s:List UInt8):bV (Zt s)≤1+s.length∧wfV (Zt s):=by
 unfold Zt
 split
 ·exact⟨by rw[zeX.1];omega,zeX.2⟩
 split
 ·exact⟨by simp only[bV,bVs,bMs,Al3];omega,by simp[inR],trivial,trivial⟩
 split
 ·exact⟨by simp only[bV,bVs,bMs,Al3];omega,zeZ,trivial,trivial⟩
 ·exact⟨by simp only[bV,bVs,bMs];omega,zeZ,trivial,trivial⟩
theorem ye {f:TS→PR Val} (hf:GP bV wfV 1 f):GP bM wfM 1 (yh f):=fun t x t' h=>by
 obtain⟨s,t1,h1,h2⟩:=zj h
 obtain⟨_,t2,h3,h4⟩:=zj h2
 obtain⟨v,t3,h5,h6⟩:=zj h4
 cases h6
 have g1:=zH _ _ _ h1
 have g2:=yq _ _ _ _ h3
 have g3:=hf _ _ _ h5
 have w1:=g1.w
 have w2:=g2.w
 have w3:=g3.w
 simp only[b0] at w2
 exact⟨(g3.suf.trans g2.suf).trans g1.suf,by simp only[bM];omega,g3.ok⟩
theorem ziS:∀ l:List Val,bVs l+l.length=sm bV l
 | []=>rfl
 | v::r=>by have:=ziS r;simp only[sm,bVs,Al2,List.map_cons,List.sum_cons] at *;omega
theorem zgL:∀ l:List Mem,bMs l+l.length=sm bM l
 | []=>rfl
 | v::r=>by have:=zgL r;simp only[sm,bMs,Al2,List.map_cons,List.sum_cons] at *;omega
theorem zgY:∀ {l:List Val},(∀ v∈l,wfV v)→zkR l
 | [],_=>trivial
 | v::r,h=>⟨h v (.head _),zgY fun x hx=>h x (.tail _ hx)⟩
theorem zfg:∀ {l:List Mem},(∀ v∈l,wfM v)→zio l
 | [],_=>trivial
 | v::r,h=>⟨h v (.head _),zfg fun x hx=>h x (.tail _ hx)⟩
theorem zec (fixed:Bool) (k:Nat) (ih:∀ n,k=n+1→GP bV wfV 1 (yW fixed n)):GP bV wfV 1 (yW fixed k):=fun t v t' h=>by
 rw[yx,YM.eq_def] at h
 split at h
 ·rename_i hk
  cases h
  have h0:=zbE (t:=t) (by omega)
  have h1:=zhM (hdT t).s
  exact⟨h0.1,by omega,h1.2⟩
 split at h
 ·rename_i hk
  cases h
  have h0:=zbE (t:=t) (by omega)
  have h1:=zju (hdT t).s
  exact⟨h0.1,by omega,h1.2⟩
 split at h
 ·rename_i hk
  cases h
  have h0:=zbE (t:=t) (by omega)
  exact⟨h0.1,by simp only[bV,bVs,bMs];omega,zeZ,trivial,trivial⟩
 split at h
 ·rename_i hp
  have h0:=Ys hp
  cases k with
  | zero=>cases h
  | succ n =>
   obtain⟨l,t1,h1,h2⟩:=zj h
   cases h2
   have g:=zaN (ih n rfl) _ [] _ _ _ (fun x hx=>by cases hx) h1
   have e:=ziS l
   have e0:sm bV []=0:=rfl
   exact⟨g.1.trans h0.1,by simp only[bV,bMs,Al3];omega,zeZ,zgY g.2.2,trivial⟩
 split at h
 ·rename_i hp
  have h0:=Ys hp
  cases k with
  | zero=>cases h
  | succ n =>
   obtain⟨l,t1,h1,h2⟩:=zj h
   cases h2
   have g:=zaN (ye (ih n rfl)) _ [] _ _ _ (fun x hx=>by cases hx) h1
   have e:=zgL l
   have e0:sm bM []=0:=rfl
   exact⟨g.1.trans h0.1,by simp only[bV,bVs,Al3];omega,zeZ,trivial,zfg g.2.2⟩
 split at h
 ·cases h
 ·obtain⟨_,t1,h1,h2⟩:=zj h
  obtain⟨s,t2,h3,h4⟩:=zj h2
  cases h4
  have g1:=yq _ _ _ _ h1
  have g2:=zH _ _ _ h3
  have w1:=g1.w
  have w2:=g2.w
  simp only[b0] at w1
  exact⟨g2.suf.trans g1.suf,by simp only[bV,bVs,bMs];omega,zeZ,trivial,trivial⟩
theorem yv (fixed:Bool):∀ k,GP bV wfV 1 (yW fixed k)
 | 0=>zec fixed 0 fun n h=>by cases h
 | k+1=>zec fixed (k+1) fun n h=>by cases h;exact yv fixed k
theorem zhR (fixed:Bool) (k:Nat):GP bMs zio 0 (YD fixed k):=fun t a t' h=>by
 unfold YD at h
 split at h
 ·rename_i hp
  have h0:=Ys hp
  have g:=Yi (ye (yv fixed k)) _ _ _ h
  have e:=zgL a
  have w:=g.w
  exact⟨g.suf.trans h0.1,by omega,zfg g.ok⟩
 ·cases h
  exact⟨List.suffix_refl t,by simp[bMs],trivial⟩
theorem zaM (fixed:Bool) (k:Nat):GP bD wfD 1 (zdi fixed k):=fun t a t' h=>by
 obtain⟨s,t1,h1,h2⟩:=zj h
 obtain⟨l,t2,h3,h4⟩:=zj h2
 cases h4
 have g1:=zH _ _ _ h1
 have g2:=zhR fixed k _ _ _ h3
 have w1:=g1.w
 have w2:=g2.w
 exact⟨g2.suf.trans g1.suf,by simp only[bD];omega,g2.ok⟩
theorem zlk (l:List DirD):bDs l+l.length=sm bD l:=rfl
theorem zhL (fixed:Bool) (k:Nat):GP bDs zlW 0 (zbf fixed k):=fun t a t' h=>by
 have g:=zbq (zaM fixed k) _ [] _ _ _ (fun x hx=>by cases hx) h
 have e:=zlk a
 have e0:sm bD []=0:=rfl
 exact⟨g.1,by omega,g.2.2⟩
theorem zel {n:Int} (h0:0≤n) (h1:n<64):inR n:=by simp only[inR];omega
theorem zhi {ty:TyD} (h:zgd 4 ty):inR ty.lists∧inR ty.musts:=by
 obtain⟨h1,h2,h3,h4⟩:=h
 refine⟨zel h1 (by omega),zel h3 ?_⟩
 have:ty.lists.toNat+1≤5:=by omega
 have h5:(2:Int) ^ (ty.lists.toNat+1)≤2 ^ 5:=by exact_mod_cast Nat.pow_le_pow_right (by decide) this
 omega
theorem zim (l:List VarD):bWs l+l.length=sm bW l:=rfl
theorem zcL {c:UInt8} {n:Nat} (hn:n<256) (h:c≠UInt8.ofNat n):¬ ((c.toNat:Int)=n):=fun e=>by
 have h2:=zdD c n hn
 rw[e] at h2
 simp at h2
 exact h h2
theorem zja (s:List UInt8) (hs:s.length≤Lim):Pure Tryz.prog 157 [.str s] (.tup [.int .i64 (zL s).1,.int .i64 (zL s).2]):=by
 refine Pure.go ir157 ck157 (Al4 _) fun KP Q hQ=>?_
 have hs':=hs
 simp only[Lim] at hs
 simp(disch:=omega) only[ir157,go_sem]
 refine goU_cut (fun i:Nat=>[(4,.int .i64 i)]) (fun i H=>(i=if s.head?=some 45 then 1 else 0)∧H=Heap.emp) (fun J hJ=>?_) ?_
 ·cases s with
  | nil =>
   simp(disch:=omega) only[go_sem]
   exact goJ (hJ 0 _ ⟨rfl,rfl⟩) (by simp(disch:=omega) only[go_sem])
  | cons c t =>
   have hp:(0:Int)<((t.length+1:Nat):Int):=by omega
   by_cases h:c=45
   ·have h':(c.toNat:Int)=45:=by rw[h];rfl
    simp(disch:=omega) only[hp,h',go_sem]
    exact goJ (hJ 1 _ ⟨by rw[h];rfl,rfl⟩) (by simp(disch:=omega) only[wrap64,go_sem])
   ·have h':¬ (c.toNat:Int)=45:=zcL (n:=45) (by omega) h
    simp(disch:=omega) only[hp,h',go_sem]
    exact goJ (hJ 0 _ ⟨by simp[h],rfl⟩) (by simp(disch:=omega) only[go_sem])
 rintro i H ⟨hi,rfl⟩
 have hil:i≤s.length:=by
  rw[hi];split
  ·rename_i h;cases s<;>simp_all
  ·omega
 have hw:zi s=if zn (s.drop i)=0 then 0 else i+yT (s.drop i):=by
  unfold zi
  rw[hi]
  split
  ·cases s<;>simp_all
  ·simp only[List.drop_zero,Nat.zero_add]
   split
   ·rename_i h;simp[yT,h]
   ·rfl
 have hrl:=y7 (s.drop i)
 rw[zU] at hrl
 simp(disch:=omega) only[go_sem]
 refine goK_pure (zjp s i (by omega) (by omega) hs') ?_
 rw[Int.toNat_natCast]
 by_cases h0:zn (s.drop i)=0
 ·have hw0:zi s=0:=by rw[hw,if_pos h0]
  simp(disch:=omega) only[h0,go_sem]
  exact hQ _ _ _ _ nofun rfl (by simp[tupOf,envOf,AV.strip,AV.strip1,zL,hw0])
 have h0':¬ ((zn (s.drop i):Int)=0):=by omega
 rw[if_neg h0] at hw
 simp(disch:=omega) only[h0',go_sem]
 have hlt:(i:Int)<s.length:=by omega
 refine goU_cut (fun k:Nat=>[(5,.int .i64 k)]) (fun k H=>k=yT (s.drop i)∧H=Heap.emp) (fun J hJ=>?_) ?_
 ·rcases z6 s i with ⟨e1,e2⟩|⟨e1,e2⟩
  ·rw[e1] at h0;exact absurd rfl h0
  have hg:(s.drop i).getD 0 0=s.getD i 0:=by rw[e2];rfl
  by_cases h:s.getD i 0=48
  ·have h':((s.getD i 0).toNat:Int)=48:=by rw[h];rfl
   simp(disch:=omega) only[hlt,h',go_sem]
   exact goJ (hJ 1 _ ⟨by unfold yT;rw[if_neg h0,hg,if_pos h],rfl⟩) (by simp(disch:=omega) only[go_sem])
  ·have h':¬ ((s.getD i 0).toNat:Int)=48:=zcL (n:=48) (by omega) h
   simp(disch:=omega) only[hlt,h',go_sem]
   exact goJ (hJ (zn (s.drop i)) _ ⟨by unfold yT;rw[if_neg h0,hg,if_neg h],rfl⟩) (by simp(disch:=omega) only[go_sem])
 rintro k H ⟨hk,rfl⟩
 subst hk
 have hn0:zi s≠0:=by have:=zid h0;omega
 have hwl:=zaT s
 have hik:(i:Int)+(yT (s.drop i):Int)=zi s:=by omega
 have hnum:zL s=(zi s+zQ (s.drop (zi s))+y8 (s.drop (zi s+zQ (s.drop (zi s)))),if zQ (s.drop (zi s))=0∧y8 (s.drop (zi s+zQ (s.drop (zi s))))=0 then 3 else 4):=by
  unfold zL;rw[if_neg hn0]
 generalize zi s=n at hn0 hwl hik hnum
 simp(disch:=omega) only[wrap64,hik,go_sem]
 refine goU_cut (fun x:Nat×Int=>[(4,.int .i64 x.1),(6,.int .i64 x.2)]) (fun x H=>x=(n+zQ (s.drop n),if zQ (s.drop n)=0 then 3 else 4)∧H=Heap.emp) (fun J hJ=>?_) ?_
 ·simp(disch:=omega) only[wrap64,hik,go_sem]
  rcases z6 s n with ⟨e1,e2⟩|⟨e1,e2⟩
  ·have hlt:¬ (n:Int)<s.length:=by omega
   have hf:zQ (s.drop n)=0:=by simp[zQ,e1]
   simp(disch:=omega) only[hlt,go_sem]
   exact goJ (hJ (n,3) _ ⟨by simp[hf],rfl⟩) (by simp(disch:=omega) only[go_sem])
  ·have hlt:(n:Int)<s.length:=by omega
   by_cases h:s.getD n 0=46
   ·have hto:((n:Int)+1).toNat=n+1:=by omega
    have hv:((s.getD n 0).toNat:Int)=46:=by rw[h];rfl
    simp(disch:=omega) only[hlt,hv,wrap64,go_sem]
    refine goK_pure (zjp s (n+1) (by omega) (by omega) hs') ?_
    rw[hto]
    have hrl2:=y7 (s.drop (n+1))
    rw[zU] at hrl2
    by_cases hr:0<zn (s.drop (n+1))
    ·have hf:zQ (s.drop n)=1+zn (s.drop (n+1)):=by rw[e2,h];simp only[zQ,List.head?_cons,List.tail_cons,true_and];rw[if_pos hr]
     have hr':(0:Int)<zn (s.drop (n+1)):=by omega
     simp(disch:=omega) only[hr',wrap64,go_sem]
     refine goK_pure (zjp s (n+1) (by omega) (by omega) hs') ?_
     rw[hto]
     simp(disch:=omega) only[wrap64,go_sem]
     exact goJ (hJ (n+1+zn (s.drop (n+1)),4) _ ⟨by rw[hf];simp;omega,rfl⟩) (by simp(disch:=omega) only[Int.natCast_add,Int.natCast_one,go_sem])
    ·have hf:zQ (s.drop n)=0:=by rw[e2,h];simp only[zQ,List.head?_cons,List.tail_cons,true_and];rw[if_neg hr]
     have hr':¬ (0:Int)<zn (s.drop (n+1)):=by omega
     simp(disch:=omega) only[hr',go_sem]
     exact goJ (hJ (n,3) _ ⟨by simp[hf],rfl⟩) (by simp(disch:=omega) only[go_sem])
   ·have h':¬ ((s.getD n 0).toNat:Int)=46:=zcL (n:=46) (by omega) h
    have hf:zQ (s.drop n)=0:=by rw[e2];simp only[zQ,List.head?_cons,Al1];rw[if_neg (fun e=>h e.1)]
    simp(disch:=omega) only[hlt,h',go_sem]
    exact goJ (hJ (n,3) _ ⟨by simp[hf],rfl⟩) (by simp(disch:=omega) only[go_sem])
 rintro⟨m,k⟩ H ⟨hx,rfl⟩
 simp only[Al8] at hx
 obtain⟨hm,hk⟩:=hx
 have hml:m≤s.length:=by
  have:=zdJ (s.drop n)
  rw[zU] at this
  omega
 rw[← hm] at hnum
 simp(disch:=omega) only[go_sem]
 refine goU_cut (fun x:Nat×Int=>[(4,.int .i64 x.1),(6,.int .i64 x.2)]) (fun x H=>x=(m+y8 (s.drop m),if y8 (s.drop m)=0 then k else 4)∧H=Heap.emp) (fun J hJ=>?_) ?_
 ·rcases z6 s m with ⟨e1,e2⟩|⟨e1,e2⟩
  ·have hlt:¬ (m:Int)<s.length:=by omega
   have hp:y8 (s.drop m)=0:=by rw[e1];rfl
   simp(disch:=omega) only[hlt,go_sem]
   exact goJ (hJ (m,k) _ ⟨by simp[hp],rfl⟩) (by simp(disch:=omega) only[go_sem])
  ·have hlt:(m:Int)<s.length:=by omega
   obtain⟨c,hc⟩:∃ c,s.getD m 0=c:=⟨_,rfl⟩
   rw[hc] at e2
   by_cases h:isE c=true
   ·have hE:c=101∨c=69:=by simpa[isE] using h
    have hp:y8 (s.drop m)=if zn (s.drop (m+1+sgN (s.drop (m+1))))=0 then 0 else 1+sgN (s.drop (m+1))+zn (s.drop (m+1+sgN (s.drop (m+1)))):=by
     rw[e2];simp only[y8,h,if_true,List.drop_drop]
    have hto:((m:Int)+1).toNat=m+1:=by omega
    have hm1:(0:Int)≤(m:Int)+1:=by omega
    have hsg:=zfn (s.drop (m+1))
    rw[zU] at hsg
    rcases hE with he|he
    case' inl =>
     have hv:(c.toNat:Int)=101:=by rw[he];rfl
     simp(disch:=omega) only[hlt,hc,hv,wrap64,go_sem]
    case' inr =>
     have hv:(c.toNat:Int)=69:=by rw[he];rfl
     have hv2:¬ (69:Int)=101:=by omega
     simp(disch:=omega) only[hlt,hc,hv,hv2,wrap64,go_sem]
    all_goals
     refine goU_cut (fun q:Nat=>[(7,.int .i64 q)]) (fun q H=>q=m+1+sgN (s.drop (m+1))∧H=Heap.emp) (fun J2 hJ2=>?_) ?_
     ·rcases z6 s (m+1) with ⟨f1,f2⟩|⟨f1,f2⟩
      ·have hq:¬ ((m:Int)+1<s.length):=by omega
       simp(disch:=omega) only[wrap64,hq,go_sem]
       exact goJ (hJ2 (m+1) _ ⟨by rw[f1];rfl,rfl⟩) (by simp(disch:=omega) only[Int.natCast_add,Int.natCast_one,go_sem])
      ·have hq:(m:Int)+1<s.length:=by omega
       obtain⟨d,hd⟩:∃ d,s.getD (m+1) 0=d:=⟨_,rfl⟩
       rw[hd] at f2
       by_cases d43:d=43
       ·have hv3:(d.toNat:Int)=43:=by rw[d43];rfl
        simp(disch:=omega) only[wrap64,hq,hto,hm1,hd,hv3,go_sem]
        exact goJ (hJ2 (m+1+1) _ ⟨by rw[f2,d43];rfl,rfl⟩) (by simp(disch:=omega) only[Int.natCast_add,Int.natCast_one,go_sem])
       ·have hv3:¬ (d.toNat:Int)=43:=zcL (n:=43) (by omega) d43
        by_cases d45:d=45
        ·have hv4:(d.toNat:Int)=45:=by rw[d45];rfl
         have hv5:¬ (45:Int)=43:=by omega
         simp(disch:=omega) only[wrap64,hq,hto,hm1,hd,hv4,hv5,go_sem]
         exact goJ (hJ2 (m+1+1) _ ⟨by rw[f2,d45];rfl,rfl⟩) (by simp(disch:=omega) only[Int.natCast_add,Int.natCast_one,go_sem])
        ·have hv4:¬ (d.toNat:Int)=45:=zcL (n:=45) (by omega) d45
         simp(disch:=omega) only[wrap64,hq,hto,hm1,hd,hv3,hv4,go_sem]
         exact goJ (hJ2 (m+1) _ ⟨by rw[f2];simp[sgN,d43,d45],rfl⟩) (by simp(disch:=omega) only[Int.natCast_add,Int.natCast_one,go_sem])
     rintro q H ⟨hq,rfl⟩
     rw[← hq] at hp
     have hql:q≤s.length:=by omega
     simp(disch:=omega) only[go_sem]
     refine goK_pure (zjp s q (by omega) (by omega) hs') ?_
     rw[Int.toNat_natCast]
     have hrl3:=y7 (s.drop q)
     rw[zU] at hrl3
     by_cases hr:zn (s.drop q)=0
     ·have hr':¬ (0:Int)<zn (s.drop q):=by omega
      rw[if_pos hr] at hp
      simp(disch:=omega) only[hr',go_sem]
      exact goJ (hJ (m,k) _ ⟨by simp[hp],rfl⟩) (by simp(disch:=omega) only[go_sem])
     ·have hr':(0:Int)<zn (s.drop q):=by omega
      rw[if_neg hr] at hp
      simp(disch:=omega) only[hr',go_sem]
      refine goK_pure (zjp s q (by omega) (by omega) hs') ?_
      rw[Int.toNat_natCast]
      simp(disch:=omega) only[wrap64,go_sem]
      exact goJ (hJ (q+zn (s.drop q),4) _ ⟨by rw[hp];simp;omega,rfl⟩) (by simp(disch:=omega) only[Int.natCast_add,go_sem])
   ·have h1:c≠101:=fun e=>h (by simp[isE,e])
    have h2:c≠69:=fun e=>h (by simp[isE,e])
    have hp:y8 (s.drop m)=0:=by rw[e2];simp[y8,h]
    have h1':¬ (c.toNat:Int)=101:=zcL (n:=101) (by omega) h1
    have h2':¬ (c.toNat:Int)=69:=zcL (n:=69) (by omega) h2
    simp(disch:=omega) only[hlt,hc,h1',h2',go_sem]
    exact goJ (hJ (m,k) _ ⟨by simp[hp],rfl⟩) (by simp(disch:=omega) only[go_sem])
 rintro⟨m2,k2⟩ H ⟨hx,rfl⟩
 simp only[Al8] at hx
 obtain⟨hm2,hk2⟩:=hx
 have hfin:zL s=(m2,k2):=by
  rw[hnum,hm2,hk2,hk]
  by_cases a:zQ (s.drop n)=0<;>by_cases b:y8 (s.drop m)=0<;>simp[a,b]
 simp(disch:=omega) only[go_sem]
 exact hQ _ _ _ _ nofun rfl (by simp[tupOf,envOf,AV.strip,AV.strip1,hfin])
end Go.Proofs.YtaielcdfcgpbiaaGreatDoor
namespace Go.Proofs.YtaielcdfcgpbiaaGreatDoor
open Go.Lib
end Go.Proofs.YtaielcdfcgpbiaaGreatDoor
namespace Go.Proofs.YtaielcdfcgpbiaaGreatDoor
open Go.Ab
def dg (c:UInt8):Int:=IntKind.u8.wrap ((c.toNat:Int)-48)
theorem zlN (c:UInt8):0≤dg c∧dg c≤255:=by
 unfold dg IntKind.wrap
 simp[IntKind.signed,IntKind.bits]
 omega
theorem zjy {c:UInt8} (h:isD c=true):dg c=(c.toNat:Int)-48:=by
 simp only[isD,Al0,zu] at h
 unfold dg IntKind.wrap
 simp[IntKind.signed,IntKind.bits]
 omega
def zbG:List UInt8→Int→Option Int
 | [],a=>some a
 | c::r,a=>if a<Int.tdiv (-9223372036854775808+dg c) 10 then none else zbG r (10*a-dg c)
theorem step_ok {a d:Int} (h0:0≤d) (h1:d≤255) (ha:-9223372036854775808≤a) (ha2:a≤0) (h:¬ a<Int.tdiv (-9223372036854775808+d) 10):-9223372036854775808≤10*a-d∧10*a-d≤0:=by
 have e:Int.tdiv (-9223372036854775808+d) 10=-((9223372036854775808-d) / 10):=by
  rw[show (-9223372036854775808+d)=-(9223372036854775808-d) by omega,Int.neg_tdiv,Int.tdiv_eq_ediv_of_nonneg (by omega)]
 rw[e] at h
 omega
def zbc (s:List UInt8):Int×Bool :=
 if s.head?=some 45 then (match zbG s.tail 0 with|some a=>(a,true)|none=>(0,false))
 else (match zbG s 0 with|some a=>if a=-9223372036854775808 then (0,false) else (-a,true)|none=>(0,false))
theorem zk0 (s:List UInt8) (hs:s.length≤Lim):Pure Tryz.prog 89 [.str s] (.tup [.int .i64 (zbc s).1,.bool (zbc s).2]):=by
 refine Pure.go ir89 ck89 (Al4 _) fun KP Q hQ=>?_
 simp only[Lim] at hs
 simp(disch:=omega) only[ir89,go_sem]
 refine goU_cut (fun x:Nat×Bool=>[(4,.int .i64 x.1),(5,.bool x.2)]) (fun x H=>x=(if s.head?=some 45 then (1,true) else (0,false))∧H=Heap.emp) (fun J hJ=>?_) ?_
 ·cases s with
  | nil =>
   simp(disch:=omega) only[go_sem]
   exact goJ (hJ (0,false) _ ⟨rfl,rfl⟩) (by simp(disch:=omega) only[go_sem])
  | cons c t =>
   have hp:(0:Int)<((t.length+1:Nat):Int):=by omega
   by_cases h:c=45
   ·have h':(c.toNat:Int)=45:=by rw[h];rfl
    simp(disch:=omega) only[hp,h',go_sem]
    exact goJ (hJ (1,true) _ ⟨by rw[h];rfl,rfl⟩) (by simp(disch:=omega) only[go_sem])
   ·have h':¬ (c.toNat:Int)=45:=zcL (n:=45) (by omega) h
    simp(disch:=omega) only[hp,h',go_sem]
    exact goJ (hJ (0,false) _ ⟨by simp[h],rfl⟩) (by simp(disch:=omega) only[go_sem])
 rintro⟨n0,neg⟩ H ⟨hx,rfl⟩
 have hn0:n0≤s.length:=by
  split at hx
  ·rename_i h
   cases s with
   | nil=>simp at h
   | cons c t=>cases hx;simp
  ·cases hx;omega
 have hR:zbc s=if neg then (match zbG (s.drop n0) 0 with|some a=>(a,true)|none=>(0,false)) else (match zbG (s.drop n0) 0 with|some a=>if a=-9223372036854775808 then (0,false) else (-a,true)|none=>(0,false)):=by
  unfold zbc
  split at hx
  ·rename_i h
   cases hx
   rw[if_pos h]
   simp
  ·rename_i h
   cases hx
   rw[if_neg h]
   simp
 simp(disch:=omega) only[go_sem]
 refine goL_st (fun x:Nat×Int=>[(4,.int .i64 x.1),(6,.int .i64 x.2)]) (fun x H=>zbG (s.drop x.1) x.2=zbG (s.drop n0) 0∧x.1≤s.length∧(-9223372036854775808≤x.2∧x.2≤0)) (fun x=>s.length-x.1) (n0,0) (by simp(disch:=omega) only[go_sem]) ⟨rfl,hn0,by omega,by omega⟩ ?_
 rintro⟨n,a⟩ H J ⟨hn,hle,ha1,ha2⟩ hJ
 simp only at hn hle ha1 ha2
 rcases z6 s n with ⟨e1,e2⟩|⟨e1,e2⟩
 ·have hlt:¬ (n:Int)<s.length:=by omega
  rw[e1] at hn
  simp only[zbG] at hn
  rw[← hn] at hR
  cases neg with
  | true =>
   simp(disch:=omega) only[hlt,go_sem]
   exact hQ _ _ _ _ nofun rfl (by simp[tupOf,envOf,AV.strip,AV.strip1,hR])
  | false =>
   by_cases hm:a=-9223372036854775808
   ·simp(disch:=omega) only[hlt,hm,go_sem]
    exact hQ _ _ _ _ nofun rfl (by simp[tupOf,envOf,AV.strip,AV.strip1,hR,hm])
   ·simp(disch:=omega) only[hlt,hm,wrap64,go_sem]
    exact hQ _ _ _ _ nofun rfl (by simp[tupOf,envOf,AV.strip,AV.strip1,hR,hm])
 ·have hlt:(n:Int)<s.length:=by omega
  obtain⟨c,hc⟩:∃ c,s.getD n 0=c:=⟨_,rfl⟩
  rw[hc] at e2
  rw[e2] at hn
  simp only[zbG] at hn
  have hd:=zlN c
  have hdg:IntKind.u8.wrap ((c.toNat:Int)-48)=dg c:=rfl
  have he:Int.tdiv (-9223372036854775808+dg c) 10=-((9223372036854775808-dg c) / 10):=by
   rw[show (-9223372036854775808+dg c)=-(9223372036854775808-dg c) by omega,Int.neg_tdiv,Int.tdiv_eq_ediv_of_nonneg (by omega)]
  by_cases hb:a<Int.tdiv (-9223372036854775808+dg c) 10
  ·rw[if_pos hb] at hn
   rw[← hn] at hR
   simp(disch:=omega) only[hlt,hc,hdg,wrap64,hb,go_sem]
   cases neg with
   | true=>exact hQ _ _ _ _ nofun rfl (by simp[tupOf,envOf,AV.strip,AV.strip1,hR])
   | false=>exact hQ _ _ _ _ nofun rfl (by simp[tupOf,envOf,AV.strip,AV.strip1,hR])
  ·have hst:=step_ok hd.1 hd.2 ha1 ha2 hb
   rw[if_neg hb] at hn
   simp(disch:=omega) only[hlt,hc,hdg,wrap64,hb,go_sem]
   exact goJ (hJ (n+1,10*a-dg c) _ (by simp only;omega) ⟨hn,by simp only;omega,hst⟩) (by simp(disch:=omega) only[Int.natCast_add,Int.natCast_one,go_sem])
def zbU (acc:Nat) (l:List UInt8):Nat:=l.foldl (fun a c=>a*10+(c.toNat-48)) acc
theorem zdR (acc:Nat):zbU acc []=acc:=by unfold zbU;rw[List.foldl_nil]
theorem zcg (acc:Nat) (c:UInt8) (r:List UInt8):zbU acc (c::r)=zbU (acc*10+(c.toNat-48)) r:=by unfold zbU;rw[List.foldl_cons]
theorem zhy (c:UInt8) (r:List UInt8) (a:Int):zbG (c::r) a=if a<Int.tdiv (-9223372036854775808+dg c) 10 then none else zbG r (10*a-dg c):=by rw[zbG]
theorem ze3:∀(r:List UInt8) (acc:Nat),acc≤zbU acc r
 | [],acc=>by rw[zdR];exact Al4 _
 | c::r,acc=>by have:=ze3 r (acc*10+(c.toNat-48));rw[zcg];omega
theorem ZY:∀(r:List UInt8) (acc:Nat),(∀ c∈r,isD c=true)→acc≤9223372036854775808→zbG r (-(acc:Int))=if zbU acc r≤9223372036854775808 then some (-(zbU acc r:Int)) else none
 | [],acc,_,h=>by rw[zdR,if_pos h];rfl
 | c::r,acc,hd,h=>by
  have hc:=hd c (by simp)
  have hv:=zjy hc
  simp only[isD,Al0,zu] at hc
  have he:Int.tdiv (-9223372036854775808+dg c) 10=-((9223372036854775808-dg c) / 10):=by
   rw[show (-9223372036854775808+dg c)=-(9223372036854775808-dg c) by omega,Int.neg_tdiv,Int.tdiv_eq_ediv_of_nonneg (by omega)]
  have hg:=ze3 r (acc*10+(c.toNat-48))
  rw[zhy,zcg]
  by_cases hb:-(acc:Int)<Int.tdiv (-9223372036854775808+dg c) 10
  ·rw[if_pos hb,if_neg (by omega)]
  ·rw[if_neg hb]
   have e:10*-(acc:Int)-dg c=-((acc*10+(c.toNat-48):Nat):Int):=by omega
   rw[e]
   exact ZY r _ (fun x hx=>hd x (by simp[hx])) (by omega)
theorem ZH:∀(r:List UInt8) (acc:Nat),(∀ c∈r,isD c=true)→acc<18446744073709551616→Lib.parseUint10 acc r=if zbU acc r<18446744073709551616 then .ok (zbU acc r) else .range
 | [],acc,_,h=>by rw[zdR,if_pos h];rfl
 | c::r,acc,hd,h=>by
  have hc:=hd c (by simp)
  simp only[isD,Al0,zu] at hc
  have hg:=ze3 r (acc*10+(c.toNat-48))
  rw[zcg]
  simp only[Lib.parseUint10]
  rw[if_pos hc]
  by_cases h1:1844674407370955162≤acc
  ·rw[if_pos h1,if_neg (by omega)]
  ·rw[if_neg h1]
   by_cases h2:18446744073709551616≤acc*10+(c.toNat-48)
   ·rw[if_pos h2,if_neg (by omega)]
   ·rw[if_neg h2]
    exact ZH r _ (fun x hx=>hd x (by simp[hx])) (by omega)
theorem zcE:∀ l:List UInt8,zn l=l.length→∀ c∈l,isD c=true
 | [],_,c,hc=>by cases hc
 | x::r,h,c,hc=>by
  simp only[zn,Al2] at h
  split at h
  ·rename_i hx
   rcases List.mem_cons.1 hc with e|e
   ·subst e;exact hx
   ·exact zcE r (by omega) c e
  ·omega
theorem zen {l:List UInt8} (h:yT l=l.length) (h0:zn l≠0):∀ c∈l,isD c=true:=by
 unfold yT at h
 rw[if_neg h0] at h
 split at h
 ·apply zcE
  have:=y7 l
  omega
 ·exact zcE l h
theorem ZR (t:List UInt8):zi (45::t)=if zn t=0 then 0 else 1+yT t:=by
 unfold zi;exact if_pos rfl
theorem Zw {s:List UInt8} (h:¬ s.head?=some 45):zi s=yT s:=by
 unfold zi;exact if_neg h
theorem zmo {s:List UInt8} (h:zao s=3):(∃ t,s=45::t∧t≠[]∧∀ c∈t,isD c=true)∨(∃ c t,s=c::t∧∀ x∈s,isD x=true):=by
 unfold zao at h
 split at h
 ·rename_i hl
  unfold zL at h hl
  split at h
  ·simp at h
  ·rename_i hw
   rw[if_neg hw] at hl
   simp only at h hl
   split at h
   ·rename_i hfp
    rw[hfp.2,hfp.1] at hl
    simp only[Nat.add_zero] at hl
    by_cases h45:s.head?=some 45
    ·cases s with
     | nil=>simp at h45
     | cons c t =>
      have hc:c=45:=by simpa using h45
      subst hc
      rw[ZR] at hl hw
      by_cases h0:zn t=0
      ·rw[if_pos h0] at hw;omega
      ·rw[if_neg h0] at hl
       refine .inl ⟨t,rfl,?_,zen (by simp only[Al2] at hl;omega) h0⟩
       intro e;subst e;exact h0 rfl
    ·rw[Zw h45] at hl hw
     have h0:zn s≠0:=fun e=>hw (by simp[yT,e])
     cases s with
     | nil=>exact absurd rfl h0
     | cons c t=>exact .inr ⟨c,t,rfl,zen hl h0⟩
   ·omega
 ·omega
theorem zgb (t:List UInt8):zbc (45::t)=match zbG t 0 with|some a=>(a,true)|none=>(0,false):=by
 unfold zbc;exact if_pos rfl
theorem zfP {c:UInt8} (t:List UInt8) (h:c≠45):zbc (c::t)=match zbG (c::t) 0 with|some a=>if a=-9223372036854775808 then (0,false) else (-a,true)|none=>(0,false):=by
 unfold zbc;exact if_neg (fun e=>h (by simpa using e))
theorem zlp {s:List UInt8} (h:zao s=3):(zbc s).2=okI (Lib.parseIntB 64 s):=by
 rw[Lib.parseIntB_64]
 rcases zmo h with ⟨t,rfl,hne,hd⟩|⟨c,t,rfl,hd⟩
 ·have h1:=ZY t 0 hd (by omega)
  have h2:=ZH t 0 hd (by omega)
  simp only[Int.natCast_zero,Int.neg_zero] at h1
  rw[Lib.atoiAll_minus,zgb,h1]
  unfold Lib.parseMag
  rw[if_neg hne,h2]
  generalize zbU 0 t=V
  by_cases a:V≤9223372036854775808
  ·rw[if_pos a,if_pos (by omega)]
   simp only[Lib.signed]
   rw[if_neg (by omega)]
   rfl
  ·rw[if_neg a]
   by_cases b:V<18446744073709551616
   ·rw[if_pos b]
    simp only[Lib.signed]
    rw[if_pos (by omega)]
    rfl
   ·rw[if_neg b]
    rfl
 ·have h1:=ZY (c::t) 0 hd (by omega)
  have h2:=ZH (c::t) 0 hd (by omega)
  have hc:=hd c (by simp)
  simp only[isD,Al0,zu] at hc
  have h45:c≠45:=fun e=>by subst e;simp at hc
  simp only[Int.natCast_zero,Int.neg_zero] at h1
  rw[Lib.atoiAll_plain c t (by omega) (by omega),zfP t h45,h1]
  unfold Lib.parseMag
  rw[if_neg (List.cons_ne_nil c t),h2]
  generalize zbU 0 (c::t)=V
  by_cases a:V≤9223372036854775808
  ·rw[if_pos a,if_pos (by omega)]
   simp only[Lib.signless]
   by_cases b:V=9223372036854775808
   ·rw[if_pos (by omega),if_pos (by omega)];rfl
   ·rw[if_neg (by omega),if_neg (by omega)];rfl
  ·rw[if_neg a]
   by_cases b:V<18446744073709551616
   ·rw[if_pos b]
    simp only[Lib.signless]
    rw[if_pos (by omega)]
    rfl
   ·rw[if_neg b]
    rfl
theorem zjI {s:List UInt8} (h:zao s=3) (h2:(zbc s).2=true):(zbc s).1=zd3 s:=by
 unfold zd3
 rw[Lib.parseIntB_64]
 rcases zmo h with ⟨t,rfl,hne,hd⟩|⟨c,t,rfl,hd⟩
 ·have h1:=ZY t 0 hd (by omega)
  have h3:=ZH t 0 hd (by omega)
  simp only[Int.natCast_zero,Int.neg_zero] at h1
  rw[Lib.atoiAll_minus]
  rw[zgb,h1] at h2 ⊢
  unfold Lib.parseMag
  rw[if_neg hne,h3]
  generalize zbU 0 t=V at h2 ⊢
  by_cases a:V≤9223372036854775808
  ·rw[if_pos a,if_pos (by omega)]
   simp only[Lib.signed]
   rw[if_neg (by omega)]
  ·rw[if_neg a] at h2;cases h2
 ·have h1:=ZY (c::t) 0 hd (by omega)
  have h3:=ZH (c::t) 0 hd (by omega)
  have hc:=hd c (by simp)
  simp only[isD,Al0,zu] at hc
  have h45:c≠45:=fun e=>by subst e;simp at hc
  simp only[Int.natCast_zero,Int.neg_zero] at h1
  rw[Lib.atoiAll_plain c t (by omega) (by omega)]
  rw[zfP t h45,h1] at h2 ⊢
  unfold Lib.parseMag
  rw[if_neg (List.cons_ne_nil c t),h3]
  generalize zbU 0 (c::t)=V at h2 ⊢
  by_cases a:V≤9223372036854775808
  ·rw[if_pos a] at h2
   rw[if_pos a,if_pos (by omega)]
   simp only[Lib.signless] at h2 ⊢
   by_cases b:V=9223372036854775808
   ·rw[if_pos (by omega)] at h2;cases h2
   ·rw[if_neg (by omega),if_neg (by omega)];simp only;omega
  ·rw[if_neg a] at h2;cases h2
structure St where
 i:Nat
 dp:Int
 e:Int
section
variable (L:TS)
def St.hd (s:St):Tok:=if s.e=0 then hdT (L.drop s.i) else ⟨0,[]⟩
def isS (m:List UInt8) (s:St):Bool:=decide ((s.hd L).k=1)&&decide ((s.hd L).s=m)
def zG (w:List UInt8) (s:St):Bool:=decide ((s.hd L).k=2)&&decide ((s.hd L).s=w)
def yc (n:Int) (s:St):St:=if s.e=0 then ⟨s.i,s.dp,n⟩ else s
def stepS (s:St):St:=⟨s.i+1,s.dp,s.e⟩
def zd (m:List UInt8) (s:St):St:=if isS L m s then stepS s else yc 2 s
def upS (d:Int) (s:St):St:=⟨s.i,IntKind.wrap .i64 (s.dp+d),s.e⟩
def yr (m:List UInt8) (s:St):St:=if isS L m s&&decide (16≤s.dp) then yc 4 s else upS 1 (zd L m s)
def Yt (m:List UInt8) (s:St):St:=upS (-1) (zd L m s)
def za (s:St):List UInt8×St:=if (s.hd L).k=2 then ((s.hd L).s,stepS s) else ([],yc 2 s)
def zO {α:Type} (m:List UInt8) (one:Bool) (f:St→α×St):Nat→List α→St→List α×St
 | 0,l,s=>(l,s)
 | n+1,l,s=>if s.e=0∧((one=true∧l.length=0)∨isS L m s=false) then zO m one f n (l++[(f s).1]) (f s).2 else (l,s)
def yQ {α:Type} (m:List UInt8) (f:St→α×St):Nat→List α→St→List α×St
 | 0,l,s=>(l,s)
 | n+1,l,s=>if isS L m s then yQ m f n (l++[(f (zd L m s)).1]) (f (zd L m s)).2 else (l,s)
def or1 (m:Int):Int:=IntKind.wrap .i64 (BitVec.ofInt IntKind.i64.bits m ||| BitVec.ofInt IntKind.i64.bits 1).toNat
def zhA (m:Int):Int:=IntKind.wrap .i64 (m*2 ^ min 1 IntKind.i64.bits)
def Zr (ty:TyD) (s:St):TyD×St:=if isS L [33] s then (⟨ty.nm,ty.lists,or1 ty.musts⟩,zd L [33] s) else (ty,s)
def yL (ty:TyD):TyD:=⟨ty.nm,IntKind.wrap .i64 (ty.lists+1),zhA ty.musts⟩
def yR:Nat→St→TyD×St
 | 0,s=>if isS L [91] s then (⟨[],0,0⟩,yc 4 s) else Zr L ⟨(za L s).1,0,0⟩ (za L s).2
 | k+1,s=>if isS L [91] s then Zr L (yL (yR k (zd L [91] s)).1) (zd L [93] (yR k (zd L [91] s)).2) else Zr L ⟨(za L s).1,0,0⟩ (za L s).2
def zaz (t:Tok):Val:=if t.k=3∧(zbc t.s).2=true then .mk 2 (zbc t.s).1 [] [] [] else .mk 3 0 t.s [] []
def Zk (v:St→Val×St) (s:St):Mem×St :=
 (.mk (za L s).1 (v (zd L [58] (za L s).2)).1,(v (zd L [58] (za L s).2)).2)
def ziF (v:St→Val×St) (s:St):Val×St:=(.mk 6 0 [] (zO L [93] false v (L.length+2) [] s).1 [],Yt L [93] (zO L [93] false v (L.length+2) [] s).2)
def zla (v:St→Val×St) (s:St):Val×St:=(.mk 7 0 [] [] (zO L [125] false (Zk L v) (L.length+2) [] s).1,Yt L [125] (zO L [125] false (Zk L v) (L.length+2) [] s).2)
def YW (s:St):Val×St:=if (s.hd L).k=3∨(s.hd L).k=4 then (zaz (s.hd L),stepS s) else if (s.hd L).k=5 then (.mk 4 0 (s.hd L).s [] [],stepS s) else (Zt (s.hd L).s,stepS s)
def Yr (s:St):Val×St:=(.mk 8 0 (za L (zd L [36] s)).1 [] [],(za L (zd L [36] s)).2)
def Zf (fixed:Bool):Nat→St→Val×St
 | 0,s=>if (s.hd L).k=3∨(s.hd L).k=4∨(s.hd L).k=5∨(s.hd L).k=2 then YW L s
  else if isS L [36] s&&!fixed then Yr L s
  else if isS L [91] s then (.mk 6 0 [] [] [],Yt L [93] (yr L [91] s))
  else if isS L [123] s then (.mk 7 0 [] [] [],Yt L [125] (yr L [123] s))
  else (zV,yc 2 s)
 | k+1,s=>if (s.hd L).k=3∨(s.hd L).k=4∨(s.hd L).k=5∨(s.hd L).k=2 then YW L s
  else if isS L [36] s&&!fixed then Yr L s
  else if isS L [91] s then ziF L (Zf fixed k) (yr L [91] s)
  else if isS L [123] s then zla L (Zf fixed k) (yr L [123] s)
  else (zV,yc 2 s)
def Yk (fixed:Bool) (k:Nat) (s:St):List Mem×St:=if isS L [40] s then
  ((zO L [41] true (Zk L (Zf L fixed k)) (L.length+2) [] (zd L [40] s)).1,zd L [41] (zO L [41] true (Zk L (Zf L fixed k)) (L.length+2) [] (zd L [40] s)).2)
 else ([],s)
def zge (fixed:Bool) (k:Nat) (s:St):DirD×St:=(⟨(za L s).1,(Yk L fixed k (za L s).2).1⟩,(Yk L fixed k (za L s).2).2)
def zbh (fixed:Bool) (k:Nat) (s:St):List DirD×St:=yQ L [64] (zge L fixed k) (L.length+2) [] s
end
def ZI {α:Type} (L:TS) (x:PR α) (dp:Int) (r:α×St):Prop:=match x with
 | .ok (a,t')=>∃ i',t'=L.drop i'∧r=(a,⟨i',dp,0⟩)
 | .error n=>n≠0∧r.2.e=n
def Bad {α:Type} (f:St→α×St):Prop:=∀ s,s.e≠0→(f s).2.e=s.e
structure SimS {α:Type} (L:TS) (f:TS→PR α) (dp:Int) (fS:St→α×St):Prop where
 rel:∀ i,ZI L (f (L.drop i)) dp (fS ⟨i,dp,0⟩)
 bad:Bad fS
theorem ZI.bind {α β:Type} {L:TS} {x:PR α} {dp dp':Int} {r:α×St} (hx:ZI L x dp r) {h:α→TS→PR β} {g:α×St→β×St} (hok:∀ a i,x=.ok (a,L.drop i)→r=(a,⟨i,dp,0⟩)→ZI L (h a (L.drop i)) dp' (g (a,⟨i,dp,0⟩)))
  (hbad:∀ q:α×St,q.2.e≠0→(g q).2.e=q.2.e):ZI L (pb x h) dp' (g r):=by
 rcases x with n|⟨a,t⟩
 ·obtain⟨h1,h2⟩:=hx
  exact⟨h1,by rw[hbad r (by rw[h2];exact h1),h2]⟩
 ·obtain⟨i,h1,h2⟩:=hx
  subst h1;subst h2
  exact hok a i rfl rfl
theorem ZI.ok {α:Type} {L:TS} {a:α} {i:Nat} {dp:Int}:ZI L (.ok (a,L.drop i)) dp (a,⟨i,dp,0⟩):=⟨i,rfl,rfl⟩
theorem YV {n:Int} {s:St} (h:s.e≠0):yc n s=s:=by simp[yc,h]
theorem zco {L:TS} {s:St} (h:s.e≠0):s.hd L=⟨0,[]⟩:=by simp[St.hd,h]
theorem ZV {L:TS} {m:List UInt8} {s:St} (h:s.e≠0):isS L m s=false:=by simp[isS,zco h]
theorem zaY {L:TS} {m:List UInt8} {s:St} (h:s.e≠0):zG L m s=false:=by simp[zG,zco h]
theorem zC {L:TS} {m:List UInt8} {s:St} (h:s.e≠0):zd L m s=s:=by simp[zd,ZV h,YV h]
theorem zR {L:TS} {s:St} (h:s.e≠0):za L s=([],s):=by simp[za,zco h,YV h]
theorem hd_ok {L:TS} {i:Nat} {dp:Int}:St.hd L ⟨i,dp,0⟩=hdT (L.drop i):=by simp[St.hd]
theorem yj {L:TS} {m:List UInt8} {i:Nat} {dp:Int}:isS L m ⟨i,dp,0⟩=isP m (L.drop i):=by simp[isS,isP,hd_ok]
theorem zay {L:TS} {m:List UInt8} {i:Nat} {dp:Int}:zG L m ⟨i,dp,0⟩=isW m (L.drop i):=by simp[zG,isW,hd_ok]
theorem zt (L:TS) (i:Nat):(L.drop i).tail=L.drop (i+1):=by simp
theorem yN (L:TS) (m:List UInt8) (i:Nat) (dp:Int):ZI L (yk m (L.drop i)) dp ((),zd L m ⟨i,dp,0⟩):=by
 unfold yk zd
 rw[yj]
 cases isP m (L.drop i) with
 | true=>exact⟨i+1,zt L i,rfl⟩
 | false=>exact⟨by decide,rfl⟩
theorem yb (L:TS) (i:Nat) (dp:Int):ZI L (ya (L.drop i)) dp (za L ⟨i,dp,0⟩):=by
 unfold ya za
 rw[hd_ok]
 split
 ·exact⟨i+1,zt L i,rfl⟩
 ·exact⟨by decide,rfl⟩
theorem Zz {L:TS} {m:List UInt8} {i:Nat} {dp:Int} (h:isP m (L.drop i)=true):zd L m ⟨i,dp,0⟩=⟨i+1,dp,0⟩:=by
 unfold zd;rw[yj,h];rfl
theorem zep (L:TS) (dp:Int):SimS L ya dp (za L):=⟨fun i=>yb L i dp,fun s h=>by rw[zR h]⟩
theorem Ya {α:Type} {L:TS} {m:List UInt8} {one:Bool} {f:St→α×St} {n:Nat} {l:List α} {s:St} (h:s.e≠0):zO L m one f n l s=(l,s):=by
 cases n with
 | zero=>rfl
 | succ n=>simp[zO,h]
theorem zaP {α:Type} {L:TS} {m:List UInt8} {one:Bool} {f:TS→PR α} {fS:St→α×St} {dp:Int} (hf:SimS L f dp fS):∀(n k:Nat) (l:List α) (i:Nat),(one=true→l.length≠0)→L.length-i<n→L.length-i<k→(∀ t a t',f t=.ok (a,t')→t'.length<t.length) →
  ZI L (zY m f n l (L.drop i)) dp ((zO L m one fS k l ⟨i,dp,0⟩).1,zd L m (zO L m one fS k l ⟨i,dp,0⟩).2)
 | 0,_,_,_,_,h,_,_=>by omega
 | _,0,_,_,_,_,h,_=>by omega
 | n+1,k+1,l,i,ho,h1,h2,hlt=>by
  cases hp:isP m (L.drop i) with
  | true =>
   have e:zO L m one fS (k+1) l ⟨i,dp,0⟩=(l,⟨i,dp,0⟩):=by
    rw[zO,if_neg]
    rintro⟨_,⟨a,b⟩|h⟩
    ·exact ho a b
    ·rw[yj,hp] at h;cases h
   rw[e,zY,if_pos hp]
   simp only
   rw[Zz hp,zt]
   exact .ok
  | false =>
   rw[zY,if_neg (by rw[hp];decide),zO,if_pos ⟨rfl,.inr (by rw[yj];exact hp)⟩]
   refine(hf.rel i).bind (g:=fun q=>((zO L m one fS k (l++[q.1]) q.2).1,zd L m (zO L m one fS k (l++[q.1]) q.2).2)) (fun a i' e1 _=>?_) fun q hq=>by simp only;rw[Ya hq,zC hq]
   have hl:=hlt _ _ _ e1
   simp only[zU] at hl
   exact zaP hf n k _ i' (fun _=>by simp) (by omega) (by omega) hlt
theorem zbj {α:Type} {L:TS} {m:List UInt8} {f:TS→PR α} {fS:St→α×St} {dp:Int} (hf:SimS L f dp fS) (i:Nat) (hlt:∀ t a t',f t=.ok (a,t')→t'.length<t.length) :
  ZI L (yS m f (L.drop i)) dp ((zO L m true fS (L.length+2) [] ⟨i,dp,0⟩).1,zd L m (zO L m true fS (L.length+2) [] ⟨i,dp,0⟩).2):=by
 rw[zO]
 simp only[true_and,Al3,true_or,if_true,zar,yS]
 refine(hf.rel i).bind (g:=fun q=>((zO L m true fS (L.length+1) [q.1] q.2).1,zd L m (zO L m true fS (L.length+1) [q.1] q.2).2)) (fun a i' e1 _=>?_) fun q hq=>by simp only;rw[Ya hq,zC hq]
 have hl:=hlt _ _ _ e1
 simp only[zU] at hl
 exact zaP hf _ _ _ i' (fun _=>by simp) (by simp) (by omega) hlt
theorem Y7 {α:Type} {L:TS} {m:List UInt8} {f:St→α×St} {n:Nat} {l:List α} {s:St} (h:s.e≠0):yQ L m f n l s=(l,s):=by
 cases n with
 | zero=>rfl
 | succ n=>simp[yQ,ZV h]
theorem zbF {α:Type} {L:TS} {m:List UInt8} {f:TS→PR α} {fS:St→α×St} {dp:Int} (hf:SimS L f dp fS):∀(n k:Nat) (l:List α) (i:Nat),L.length-i<n→L.length-i<k→(∀ t a t',f t=.ok (a,t')→t'.length<t.length) →
  ZI L (y9 m f n l (L.drop i)) dp (yQ L m fS k l ⟨i,dp,0⟩)
 | 0,_,_,_,h,_,_=>by omega
 | _,0,_,_,_,h,_=>by omega
 | n+1,k+1,l,i,h1,h2,hlt=>by
  simp only[y9,yQ]
  rw[yj]
  cases hp:isP m (L.drop i) with
  | true =>
   simp only[if_true]
   rw[Zz hp,zt]
   refine(hf.rel (i+1)).bind (g:=fun q=>yQ L m fS k (l++[q.1]) q.2) (fun a i' e1 _=>?_) fun q hq=>by rw[Y7 hq]
   have hl:=hlt _ _ _ e1
   simp only[zU] at hl
   exact zbF hf n k _ i' (by omega) (by omega) hlt
  | false=>exact .ok
def yI (x:Tok):Prop:=x.k=3∨x.k=4→zao x.s=x.k
theorem zlq {L:TS} {i:Nat} (h:(hdT (L.drop i)).k≠0):hdT (L.drop i)∈L:=by
 refine List.mem_of_mem_drop (i:=i) ?_
 generalize L.drop i=t at *
 cases t with
 | nil=>exact absurd rfl h
 | cons x t=>simp[hdT]
theorem zfM {t:Tok} (h:yI t) (hk:t.k=3∨t.k=4):zaz t=zdO t.s:=by
 have hn:=h hk
 unfold zaz zdO
 rcases hk with hk|hk
 ·rw[hk] at hn
  have e:=zlp hn
  simp only[hk,true_and,Yj,hn,decide_true,Bool.and_true,e]
  cases hp:okI (Lib.parseIntB 64 t.s) with
  | true =>
   have:=zjI hn (by rw[e];exact hp)
   simp[this]
  | false=>simp
 ·rw[hk] at hn
  simp[hk,Yj,hn]
theorem zkN (d:Int) (s:St):(upS d s).e=s.e:=rfl
theorem zh5 {L:TS} {m:List UInt8} {s:St} (h:s.e≠0):(yr L m s).e=s.e:=by simp[yr,ZV h,zC h,zkN]
theorem zd9 {L:TS} {m:List UInt8} {s:St} (h:s.e≠0):(Yt L m s).e=s.e:=by simp[Yt,zC h,zkN]
theorem YC {L:TS} {f:TS→PR Val} {fS:St→Val×St} {dp:Int} (hf:SimS L f dp fS):SimS L (yh f) dp (Zk L fS):=by
 refine⟨fun i=>?_,fun s h=>?_⟩
 ·unfold yh
  refine(yb L i dp).bind (β:=Mem) (g:=fun q=>(.mk q.1 (fS (zd L [58] q.2)).1,(fS (zd L [58] q.2)).2)) (fun nm i1 _ _=>?_) fun q hq=>by simp only;rw[zC hq,hf.bad _ hq]
  refine(yN L [58] i1 dp).bind (β:=Mem) (g:=fun q=>(.mk nm (fS q.2).1,(fS q.2).2)) (fun _ i2 _ _=>?_) fun q hq=>hf.bad _ hq
  exact(hf.rel i2).bind (β:=Mem) (g:=fun q=>(.mk nm q.1,q.2)) (fun v i3 _ _=>.ok) fun q hq=>rfl
 ·simp only[Zk]
  rw[zR h]
  simp only
  rw[zC h,hf.bad _ h]
theorem zkJ {dp:Int} (h0:0≤dp) (h1:dp≤16):IntKind.wrap .i64 (dp+1)=dp+1∧IntKind.wrap .i64 (dp+1+-1)=dp:=by
 refine⟨wrap64 (by omega) (by omega),?_⟩
 rw[wrap64 (by omega) (by omega)];omega
theorem zds {L:TS} {m:List UInt8} {i:Nat} {dp:Int} (h:isP m (L.drop i)=true) (h0:0≤dp) (h1:dp<16):yr L m ⟨i,dp,0⟩=⟨i+1,dp+1,0⟩:=by
 unfold yr
 rw[yj,h]
 have:decide (16≤(St.mk i dp 0).dp)=false:=decide_eq_false (by simp only;omega)
 rw[this]
 simp only[Bool.and_false,Al7,if_false,Zz h,upS,(zkJ h0 (by omega)).1]
theorem zbB {L:TS} {m:List UInt8} {i:Nat} (h:isP m (L.drop i)=true):yr L m ⟨i,16,0⟩=⟨i,16,4⟩:=by
 unfold yr
 rw[yj,h]
 rfl
theorem zfq {L:TS} {m:List UInt8} {i:Nat} {dp:Int} (h:isP m (L.drop i)=false):(yr L m ⟨i,dp,0⟩).e=2:=by
 unfold yr
 rw[yj,h]
 simp[zd,yj,h,yc,upS]
theorem zfv {α β:Type} {L:TS} {x:PR α} {dp:Int} {a:α} {m:List UInt8} {s:St} (F:α→β) (h0:0≤dp) (h1:dp<16) (h:ZI L x (dp+1) (a,zd L m s)):ZI L (pb x fun l t=>.ok (F l,t)) dp (F a,Yt L m s):=by
 refine h.bind (β:=β) (g:=fun q=>(F q.1,upS (-1) q.2)) (fun l i _ _=>?_) fun q hq=>rfl
 refine⟨i,rfl,?_⟩
 simp only[upS,(zkJ h0 (by omega)).2]
theorem zaJ {L:TS} (hL:∀ x∈L,yI x) (fixed:Bool):∀ k:Nat,k≤16→SimS L (yW fixed k) (16-k) (Zf L fixed k):=by
 have bad:∀ k s,s.e≠0→(Zf L fixed k s).2.e=s.e:=fun k s h=>by
  cases k<;>simp[Zf,zco h,ZV h,YV h]
 have leaf:∀(i:Nat) (dp:Int),(hdT (L.drop i)).k=3∨(hdT (L.drop i)).k=4∨(hdT (L.drop i)).k=5∨(hdT (L.drop i)).k=2→∀ k,ZI L (yW fixed k (L.drop i)) dp (YW L ⟨i,dp,0⟩):=fun i dp h k=>by
  have hne:(hdT (L.drop i)).k≠0:=by omega
  have hm:=hL _ (zlq hne)
  rw[yx,YM.eq_def]
  unfold YW
  rw[hd_ok]
  generalize hdT (L.drop i)=x at *
  rcases h with h|h|h|h
  ·simp only[h,show ¬ ((3:Int)=2) by decide,if_false,true_or,if_true,zt,zfM hm (.inl h)];exact .ok
  ·simp only[h,show ¬ ((4:Int)=2) by decide,if_false,or_true,if_true,zt,zfM hm (.inr h)];exact .ok
  ·simp only[h,show ¬ ((5:Int)=2) by decide,show ¬ ((5:Int)=3∨(5:Int)=4) by decide,if_false,if_true,zt];exact .ok
  ·simp only[h,show ¬ ((2:Int)=5) by decide,show ¬ ((2:Int)=3∨(2:Int)=4) by decide,if_false,if_true,zt];exact .ok
 have rest:∀(i:Nat) (dp:Int) (k:Nat),¬ ((hdT (L.drop i)).k=3∨(hdT (L.drop i)).k=4∨(hdT (L.drop i)).k=5∨(hdT (L.drop i)).k=2)→isP [91] (L.drop i)=false→isP [123] (L.drop i)=false →
   ZI L (yW fixed k (L.drop i)) dp (if isS L [36] ⟨i,dp,0⟩&&!fixed then Yr L ⟨i,dp,0⟩ else (zV,yc 2 ⟨i,dp,0⟩)):=fun i dp k h h1 h2=>by
  rw[yx,YM.eq_def,h1,h2]
  simp only[not_or] at h
  simp only[h.2.2.2,h.1,h.2.1,h.2.2.1,or_self,if_false,Al7]
  cases fixed with
  | true=>simp only[if_true,Bool.not_true,Bool.and_false,Al7,if_false];exact⟨by decide,rfl⟩
  | false =>
   simp only[Al7,if_false,Bool.not_false,Bool.and_true]
   rw[yj]
   cases hd:isP [36] (L.drop i) with
   | false =>
    simp only[Al7,if_false,yk,hd,pb]
    exact⟨by decide,rfl⟩
   | true =>
    simp only[if_true]
    refine(yN L [36] i dp).bind (β:=Val) (g:=fun q=>(.mk 8 0 (za L q.2).1 [] [],(za L q.2).2)) (fun _ i1 _ _=>?_) fun q hq=>by simp only;rw[zR hq]
    exact(yb L i1 dp).bind (β:=Val) (g:=fun q=>(.mk 8 0 q.1 [] [],q.2)) (fun _ _ _ _=>.ok) fun q hq=>rfl
 intro k
 induction k with
 | zero =>
  intro _
  refine⟨fun i=>?_,bad 0⟩
  rw[Zf,hd_ok]
  split
  ·rename_i h;exact leaf i _ h 0
  rename_i h
  have hr:=rest i ((16:Int)-(0:Nat)) 0 h
  rw[yj] at hr ⊢
  have nd:∀ m n:List UInt8,m≠n→isP m (L.drop i)=true→isP n (L.drop i)=false:=fun m n hmn hm=>by
   simp only[isP,Al0,zu] at hm
   simp[isP,hm.2,hmn]
  have hk:∀ m,isP m (L.drop i)=true→(hdT (L.drop i)).k=1:=fun m hm=>by
   simp only[isP,Al0,zu] at hm;exact hm.1
  cases h1:isP [91] (L.drop i) with
  | true =>
   have h2:=nd _ [36] (by decide) h1
   rw[yx,YM.eq_def,h2,h1]
   simp only[hk _ h1,Bool.false_and,Al7,if_false,yj,h1,if_true,show ¬ ((1:Int)=2) by decide,show ¬ ((1:Int)=3∨(1:Int)=4) by decide,show ¬ ((1:Int)=5) by decide]
   refine⟨by decide,?_⟩
   have e:=zbB h1
   simp only[Int.natCast_zero,Int.sub_zero,e] at *
   exact zd9 (show (4:Int)≠0 by decide)
  | false =>
   cases h2:isP [123] (L.drop i) with
   | true =>
    have h3:=nd _ [36] (by decide) h2
    rw[yx,YM.eq_def,h3,h1,h2]
    simp only[hk _ h2,Bool.false_and,Al7,if_false,yj,h1,h2,if_true,show ¬ ((1:Int)=2) by decide,show ¬ ((1:Int)=3∨(1:Int)=4) by decide,show ¬ ((1:Int)=5) by decide]
    refine⟨by decide,?_⟩
    have e:=zbB h2
    simp only[Int.natCast_zero,Int.sub_zero,e] at *
    exact zd9 (show (4:Int)≠0 by decide)
   | false =>
    simp only[yj,h1,h2,Al7,if_false]
    exact hr h1 h2
 | succ k ih =>
  intro hk16
  have ih:=ih (by omega)
  refine⟨fun i=>?_,bad (k+1)⟩
  rw[Zf,hd_ok]
  split
  ·rename_i h;exact leaf i _ h (k+1)
  rename_i h
  have hr:=rest i ((16:Int)-(k+1:Nat)) (k+1) h
  rw[yj] at hr ⊢
  have nd:∀ m n:List UInt8,m≠n→isP m (L.drop i)=true→isP n (L.drop i)=false:=fun m n hmn hm=>by
   simp only[isP,Al0,zu] at hm
   simp[isP,hm.2,hmn]
  have hk:∀ m,isP m (L.drop i)=true→(hdT (L.drop i)).k=1:=fun m hm=>by
   simp only[isP,Al0,zu] at hm;exact hm.1
  have edp:(16:Int)-(k+1:Nat)+1=16-(k:Nat):=by omega
  cases h1:isP [91] (L.drop i) with
  | true =>
   have h2:=nd _ [36] (by decide) h1
   rw[yx,YM.eq_def,h2,h1]
   simp only[hk _ h1,Bool.false_and,Al7,if_false,yj,h1,if_true,show ¬ ((1:Int)=2) by decide,show ¬ ((1:Int)=3∨(1:Int)=4) by decide,show ¬ ((1:Int)=5) by decide]
   rw[zds h1 (by omega) (by omega),zt,edp]
   refine zfv (fun l=>Val.mk 6 0 [] l []) (by omega) (by omega) ?_
   rw[edp]
   exact zaP ih _ _ [] (i+1) (fun e=>by cases e) (by simp) (by omega) ((yv fixed k).lt (by decide))
  | false =>
   cases h2:isP [123] (L.drop i) with
   | true =>
    have h3:=nd _ [36] (by decide) h2
    rw[yx,YM.eq_def,h3,h1,h2]
    simp only[hk _ h2,Bool.false_and,Al7,if_false,yj,h1,h2,if_true,show ¬ ((1:Int)=2) by decide,show ¬ ((1:Int)=3∨(1:Int)=4) by decide,show ¬ ((1:Int)=5) by decide]
    rw[zds h2 (by omega) (by omega),zt,edp]
    refine zfv (fun l=>Val.mk 7 0 [] [] l) (by omega) (by omega) ?_
    rw[edp]
    exact zaP (YC ih) _ _ [] (i+1) (fun e=>by cases e) (by simp) (by omega) ((ye (yv fixed k)).lt (by decide))
   | false =>
    simp only[yj,h1,h2,Al7,if_false]
    exact hr h1 h2
section
variable (L:TS)
def zde (nm:List UInt8) (ty:TyD) (s:St):VarD×St :=
 if isS L [61] s then (⟨nm,ty,true,(Zf L true 16 (zd L [61] s)).1⟩,(Zf L true 16 (zd L [61] s)).2) else (⟨nm,ty,false,zV⟩,s)
end
theorem zcy {L:TS} {fixed:Bool} {k:Nat} {s:St} (h:s.e≠0):Yk L fixed k s=([],s):=by simp[Yk,ZV h]
theorem zaV {L:TS} {fixed:Bool} {k:Nat} {s:St} (h:s.e≠0):zbh L fixed k s=([],s):=by simp[zbh,Y7 h]
theorem zhJ {L:TS} (hL:∀ x∈L,yI x) (fixed:Bool) (k:Nat) (hk:k≤16):SimS L (YD fixed k) (16-k) (Yk L fixed k):=by
 refine⟨fun i=>?_,fun s h=>by rw[zcy h]⟩
 unfold YD Yk
 rw[yj]
 cases hp:isP [40] (L.drop i) with
 | true =>
  simp only[if_true]
  rw[Zz hp,zt]
  exact zbj (YC (zaJ hL fixed k hk)) (i+1) ((ye (yv fixed k)).lt (by decide))
 | false=>exact .ok
theorem zfB {L:TS} (hL:∀ x∈L,yI x) (fixed:Bool) (k:Nat) (hk:k≤16):SimS L (zdi fixed k) (16-k) (zge L fixed k):=by
 refine⟨fun i=>?_,fun s h=>by simp only[zge];rw[zR h,zcy h]⟩
 unfold zdi
 refine(yb L i _).bind (β:=DirD) (g:=fun q=>(⟨q.1,(Yk L fixed k q.2).1⟩,(Yk L fixed k q.2).2)) (fun nm i1 _ _=>?_) fun q hq=>by (try simp only);rw[zcy hq]
 exact((zhJ hL fixed k hk).rel i1).bind (β:=DirD) (g:=fun q=>(⟨nm,q.1⟩,q.2)) (fun _ _ _ _=>.ok) fun q hq=>rfl
theorem zhs {L:TS} (hL:∀ x∈L,yI x) (fixed:Bool) (k:Nat) (hk:k≤16):SimS L (zbf fixed k) (16-k) (zbh L fixed k):=by
 refine⟨fun i=>?_,fun s h=>by rw[zaV h]⟩
 exact zbF (zfB hL fixed k hk) _ _ [] i (by simp) (by omega) ((zaM fixed k).lt (by decide))
theorem zia {L:TS} {m:List UInt8} {i:Nat}:(yr L m ⟨i,16,0⟩).e≠0:=by
 cases h:isP m (L.drop i) with
 | true=>rw[zbB h];exact(show (4:Int)≠0 by decide)
 | false=>rw[zfq h];decide
theorem zig {m:Int} (h0:0≤m) (h1:m<64) (h2:m % 2=0):or1 m=m+1:=by
 have:∀ x:Fin 64,x.val % 2=0→or1 (x.val:Int)=(x.val:Int)+1:=by decide +kernel
 have:=this ⟨m.toNat,by omega⟩ (by (try simp only);omega)
 simp only[Int.toNat_of_nonneg h0] at this
 exact this
theorem zjN {m:Int} (h0:0≤m) (h1:m<64):zhA m=m*2:=by
 have e:min 1 IntKind.i64.bits=1:=by decide
 unfold zhA;rw[e];exact wrap64 (by omega) (by omega)
theorem za2 {L:TS} {ty:TyD} {s:St} (h:s.e≠0):Zr L ty s=(ty,s):=by simp[Zr,ZV h]
theorem zef {L:TS} {ty:TyD} (h0:0≤ty.musts) (h1:ty.musts<64) (h2:ty.musts % 2=0) (i:Nat) (dp:Int):ZI L (zaI ty (L.drop i)) dp (Zr L ty ⟨i,dp,0⟩):=by
 unfold zaI Zr
 rw[yj]
 cases hp:isP [33] (L.drop i) with
 | true =>
  simp only[if_true]
  rw[Zz hp,zt,zig h0 h1 h2]
  exact .ok
 | false=>exact .ok
theorem yZ {L:TS}:∀ k s,s.e≠0→(yR L k s).2.e=s.e:=fun k s h=>by
 cases k<;>(simp only[yR];rw[ZV h,zR h];simp only[Al7,if_false];rw[za2 h])
theorem zax {L:TS} (dp:Int):∀ k:Nat,k≤4→SimS L (zan k) dp (yR L k):=by
 have nm:∀ i:Nat,ZI L (pb (ya (L.drop i)) fun s t=>zaI ⟨s,0,0⟩ t) dp (Zr L ⟨(za L ⟨i,dp,0⟩).1,0,0⟩ (za L ⟨i,dp,0⟩).2):=fun i =>
  (yb L i dp).bind (β:=TyD) (g:=fun q=>Zr L ⟨q.1,0,0⟩ q.2) (fun s i1 _ _=>zef (by simp) (by simp) (by simp) i1 dp) fun q hq=>by (try simp only);rw[za2 hq]
 intro k
 induction k with
 | zero =>
  intro _
  refine⟨fun i=>?_,yZ 0⟩
  rw[Z4,zcS.eq_def,yR,yj]
  cases hp:isP [91] (L.drop i) with
  | true=>exact⟨by decide,rfl⟩
  | false=>exact nm i
 | succ k ih =>
  intro hk
  have ih:=ih (by omega)
  refine⟨fun i=>?_,yZ (k+1)⟩
  rw[Z4,zcS.eq_def,yR,yj]
  cases hp:isP [91] (L.drop i) with
  | false=>exact nm i
  | true =>
   simp only[if_true]
   rw[Zz hp,zt]
   refine(ih.rel (i+1)).bind (β:=TyD) (g:=fun q=>Zr L (yL q.1) (zd L [93] q.2)) (fun ty i1 e1 _=>?_) fun q hq=>by (try simp only);rw[zC hq,za2 hq]
   obtain⟨a1,a2,a3,a4⟩:=(zbZ k _ _ _ e1).ok
   have h5:(2:Int) ^ (ty.lists.toNat+1)≤2 ^ 4:=by
    have:ty.lists.toNat+1≤4:=by omega
    exact_mod_cast Nat.pow_le_pow_right (by decide) this
   have ew:yL ty=⟨ty.nm,ty.lists+1,ty.musts*2⟩:=by
    unfold yL;rw[zjN a3 (by omega),wrap64 (by omega) (by omega)]
   refine(yN L [93] i1 dp).bind (β:=TyD) (g:=fun q=>Zr L (yL ty) q.2) (fun _ i2 _ _=>?_) fun q hq=>by (try simp only);rw[za2 hq]
   try simp only
   rw[ew]
   exact zef (by (try simp only);omega) (by (try simp only);omega) (by (try simp only);omega) i2 dp
def zw (x:Tok):AV:=.agg [.int .i64 x.k,.str x.s]
def Yl:Own→Option Nat
 | .tip b _=>some b
 | _=>none
structure Sep (H:Heap) (l:List (Own×Nat×Nat)):Prop where
 own:∀ x∈l,Owned H x.1 x.2.1 x.2.2
 nd:(l.filterMap fun x=>Yl x.1).Nodup
theorem Y9 {o:Own} {b:Nat} (h:Yl o=some b):∃ d,o=.tip b d:=by
 cases o<;>simp[Yl] at h
 rename_i c d;subst h;exact⟨d,rfl⟩
theorem Owned.ofKept {H H':Heap} {o o2:Own} {n sz:Nat} (h:Owned H o n sz) (hk:Kept H o2 H') (hne:∀ b d d2,o=.tip b d→o2≠.tip b d2):Owned H' o n sz:=by
 cases o with
 | tip b d=>exact hk b _ h fun d2 e=>hne b d d2 rfl e
 | no=>exact h
 | nil=>exact h
 | full=>exact h
theorem Sep.step {H H':Heap} {a b:List (Own×Nat×Nat)} {o o':Own} {n n' sz:Nat} (h:Sep H (a++(o,n,sz)::b)) (h':OwnS H o H' o' n' sz):Sep H' (a++(o',n',sz)::b):=by
 have hnd:=h.nd
 simp only[List.filterMap_append,List.filterMap_cons] at hnd
 have hother:∀ x,x∈a∨x∈b→∀ c d d2,x.1=.tip c d→o≠.tip c d2:=fun x hx c d d2 hxe e=>by
  subst e
  simp only[Yl] at hnd
  rw[List.nodup_append] at hnd
  obtain⟨_,hb,hab⟩:=hnd
  rcases hx with hx|hx
  ·exact hab c (List.mem_filterMap.2 ⟨x,hx,by rw[hxe]⟩) c (ZP ..) rfl
  ·exact(List.nodup_cons.1 hb).1 (List.mem_filterMap.2 ⟨x,hx,by rw[hxe]⟩)
 refine⟨fun x hx=>?_,?_⟩
 ·rcases List.mem_append.1 hx with hx|hx
  ·exact Owned.ofKept (h.own x (by simp[hx])) h'.kept fun c d d2=>hother x (.inl hx) c d d2
  ·rcases List.mem_cons.1 hx with rfl|hx
   ·exact h'.own
   ·exact Owned.ofKept (h.own x (by simp[hx])) h'.kept fun c d d2=>hother x (.inr hx) c d d2
 ·simp only[List.filterMap_append,List.filterMap_cons]
  have hsub:∀ c,c∈a.filterMap (fun x=>Yl x.1)∨c∈b.filterMap (fun x=>Yl x.1)→Yl o'≠some c:=fun c hc e=>by
   obtain⟨d',e⟩:=Y9 e
   have hH:H c≠none∧∀ d0,o≠.tip c d0:=by
    rcases hc with hc|hc<;>obtain⟨x,hx,hxe⟩:=List.mem_filterMap.1 hc<;>obtain⟨d,hxe⟩:=Y9 hxe
    ·have:=h.own x (by simp[hx]);rw[hxe] at this
     have h2:H c=some _:=this
     exact⟨by simp[h2],fun d0=>hother x (.inl hx) c d d0 hxe⟩
    ·have:=h.own x (by simp[hx]);rw[hxe] at this
     have h2:H c=some _:=this
     exact⟨by simp[h2],fun d0=>hother x (.inr hx) c d d0 hxe⟩
   rcases h'.new c d' e with h1|⟨d0,h1⟩
   ·exact hH.1 h1
   ·exact hH.2 d0 h1
  have hnd2:(a.filterMap (fun x=>Yl x.1)++b.filterMap (fun x=>Yl x.1)).Nodup:=by
   cases ho:Yl o with
   | none=>rw[ho] at hnd;exact hnd
   | some c =>
    rw[ho] at hnd
    rw[List.nodup_append] at hnd ⊢
    exact⟨hnd.1,(List.nodup_cons.1 hnd.2.1).2,fun x hx y hy=>hnd.2.2 x hx y (Yy _ hy)⟩
  cases ho:Yl o' with
  | none=>exact hnd2
  | some c =>
   have hc:=hsub c
   rw[List.nodup_append] at hnd2 ⊢
   refine⟨hnd2.1,List.nodup_cons.2 ⟨fun hm=>hc (.inr hm) ho,hnd2.2.1⟩,fun x hx y hy=>?_⟩
   rcases List.mem_cons.1 hy with rfl|hy
   ·exact fun e=>hc (.inl (e▸hx)) ho
   ·exact hnd2.2.2 x hx y hy
theorem Sep.mono {H H':Heap} {l:List (Own×Nat×Nat)} (h:Sep H l) (hk:∀ c n sz,H c=some (.tip n sz)→H' c=some (.tip n sz)):Sep H' l :=
 ⟨fun x hx=>by
  have:=h.own x hx
  obtain⟨o,n,sz⟩:=x
  cases o with
  | tip c d=>exact hk c _ _ this
  | no=>exact this
  | nil=>exact this
  | full=>exact this,h.nd⟩
open Go.Lib Go.RowKit Go.Sort
theorem zdd (s:List UInt8) (c:UInt8):Pure Tryz.prog 122 [.str s,.int .u8 c.toNat] (.int .i64 (Lib.indexByte s c)):=by
 refine Pure.of_calls fun γ w vs ht hv=>?_
 obtain⟨hl,hr⟩:=hv
 match vs,hl with
 | [v,u],_ =>
  cases hr 0 _ _ rfl rfl
  cases hr 1 _ _ rfl rfl
  refine(Tryz.strings_IndexByte ⟨s.toArray⟩ c.toNat w).mono fun e w' ⟨he,hw⟩=>⟨hw,_,he,?_⟩
  have e1:((c.toNat:Int)).toNat.toUInt8=c:=by simp
  rw[e1]
  exact .int _ _
end Go.Proofs.YtaielcdfcgpbiaaGreatDoor
namespace Go.Proofs.YtaielcdfcgpbiaaGreatDoor
open Go.Ab
theorem zP (l:List UInt8):(bytesOf l).length=l.length:=by simp[bytesOf]
theorem yG (a b:List UInt8):bytesOf a++bytesOf b=bytesOf (a++b):=by simp[bytesOf]
theorem Zq (l:List UInt8):(bytesOf l).map (·.map AV.strip1)=bytesOf l:=by simp[bytesOf,AV.strip1]
theorem YE (l:List UInt8):byts (bytesOf l)=some l:=by
 induction l with
 | nil=>rfl
 | cons c r ih =>
  have h:=c.toNat_lt
  simp only[bytesOf,List.map_cons] at ih ⊢
  simp only[byts,ih,yd]
  rw[if_pos ⟨by omega,by omega⟩]
  simp
theorem zcI (acc:List UInt8) (c:UInt8):bytesOf acc++[[.int .u8 c.toNat]]=bytesOf (acc++[c]):=yG acc [c]
theorem zmk {n:Nat} (h:n<4294967296):IntKind.wrap .u32 (n:Int)=n:=by
 have e:IntKind.wrap .u32 (n:Int)=(n:Int) % 4294967296:=rfl
 rw[e];omega
theorem zjm {n:Nat} (h:n<2147483648):IntKind.wrap .i32 (n:Int)=n:=by
 have e:IntKind.wrap .i32 (n:Int)=if (n:Int) % 4294967296≥2147483648 then (n:Int) % 4294967296-4294967296 else (n:Int) % 4294967296:=by
  simp[IntKind.wrap,IntKind.bits,IntKind.signed]
 rw[e];split<;>omega
theorem wr8 (n:Nat):IntKind.wrap .u8 (n:Int)=((n % 256:Nat):Int):=by
 have e:IntKind.wrap .u8 (n:Int)=(n:Int) % 256:=rfl
 rw[e];omega
theorem fd6 (n:Nat):(n:Int).fdiv (2 ^ min 6 IntKind.i32.bits)=((n / 64:Nat):Int):=by
 show (n:Int).fdiv 64=_
 rw[Int.fdiv_eq_ediv_of_nonneg _ (by decide)];omega
theorem zkZ (n:Nat):(n:Int).fdiv (2 ^ min 12 IntKind.i32.bits)=((n / 4096:Nat):Int):=by
 show (n:Int).fdiv 4096=_
 rw[Int.fdiv_eq_ediv_of_nonneg _ (by decide)];omega
theorem zmx (n:Nat):(n:Int).fdiv (2 ^ min 18 IntKind.i32.bits)=((n / 262144:Nat):Int):=by
 show (n:Int).fdiv 262144=_
 rw[Int.fdiv_eq_ediv_of_nonneg _ (by decide)];omega
theorem zlK:∀ x:Fin 32,IntKind.wrap .u8 ((BitVec.ofInt IntKind.u8.bits 192 ||| BitVec.ofInt IntKind.u8.bits ((x.val:Nat):Int)).toNat:Int)=((UInt8.ofNat (192+x.val)).toNat:Int):=by decide +kernel
theorem zlH:∀ x:Fin 16,IntKind.wrap .u8 ((BitVec.ofInt IntKind.u8.bits 224 ||| BitVec.ofInt IntKind.u8.bits ((x.val:Nat):Int)).toNat:Int)=((UInt8.ofNat (224+x.val)).toNat:Int):=by decide +kernel
theorem zlJ:∀ x:Fin 8,IntKind.wrap .u8 ((BitVec.ofInt IntKind.u8.bits 240 ||| BitVec.ofInt IntKind.u8.bits ((x.val:Nat):Int)).toNat:Int)=((UInt8.ofNat (240+x.val)).toNat:Int):=by decide +kernel
theorem zl3:∀ x:Fin 256,IntKind.wrap .u8 ((BitVec.ofInt IntKind.u8.bits 128 ||| BitVec.ofInt IntKind.u8.bits (IntKind.wrap .u8 ((BitVec.ofInt IntKind.u8.bits ((x.val:Nat):Int) &&& BitVec.ofInt IntKind.u8.bits 63).toNat:Int))).toNat:Int)=((UInt8.ofNat (128+x.val % 64)).toNat:Int):=by decide +kernel
theorem zl6 {m:Nat} (h:m<32):IntKind.wrap .u8 ((BitVec.ofInt IntKind.u8.bits 192 ||| BitVec.ofInt IntKind.u8.bits (IntKind.wrap .u8 (m:Int))).toNat:Int)=((UInt8.ofNat (192+m)).toNat:Int):=by
 rw[wr8 m,Nat.mod_eq_of_lt (show m<256 by omega)];exact zlK ⟨m,h⟩
theorem zkA {m:Nat} (h:m<16):IntKind.wrap .u8 ((BitVec.ofInt IntKind.u8.bits 224 ||| BitVec.ofInt IntKind.u8.bits (IntKind.wrap .u8 (m:Int))).toNat:Int)=((UInt8.ofNat (224+m)).toNat:Int):=by
 rw[wr8 m,Nat.mod_eq_of_lt (show m<256 by omega)];exact zlH ⟨m,h⟩
theorem zmd {m:Nat} (h:m<8):IntKind.wrap .u8 ((BitVec.ofInt IntKind.u8.bits 240 ||| BitVec.ofInt IntKind.u8.bits (IntKind.wrap .u8 (m:Int))).toNat:Int)=((UInt8.ofNat (240+m)).toNat:Int):=by
 rw[wr8 m,Nat.mod_eq_of_lt (show m<256 by omega)];exact zlJ ⟨m,h⟩
theorem zjJ (m:Nat):IntKind.wrap .u8 ((BitVec.ofInt IntKind.u8.bits 128 ||| BitVec.ofInt IntKind.u8.bits (IntKind.wrap .u8 ((BitVec.ofInt IntKind.u8.bits (IntKind.wrap .u8 (m:Int)) &&& BitVec.ofInt IntKind.u8.bits 63).toNat:Int))).toNat:Int)=((UInt8.ofNat (128+m % 64)).toNat:Int):=by
 rw[wr8 m]
 have:=zl3 ⟨m % 256,Nat.mod_lt _ (by decide)⟩
 simp only at this
 rw[this,Nat.mod_mod_of_dvd m (by decide)]
theorem zlx (n:Nat) (h0:127<n) (h1:n≤1114111) (h2:¬ (55296≤n∧n≤57343)) (acc:List UInt8) (H:Heap) (o:Own) (ho:Owned H o acc.length 1) (hb:acc.length≤Lim) :
  zii Tryz.prog 268 [.sl o 1 (bytesOf acc),.int .i32 n] H o 1 (bytesOf (acc++y0 n)):=by
 refine ACalls.goO ir268 ck268 (Al4 _) fun KP Q hQ hP=>?_
 have e1:=zmk (n:=n) (by omega)
 have hal:=zP acc
 simp only[Lim] at hb
 have ho':Owned H o (bytesOf acc).length 1:=by rw[hal];exact ho
 have fin:∀(e:List UInt8) o' H',y0 n=e→OwnS H o H' o' ((bytesOf acc).length+e.length) 1→zlY H o 1 (bytesOf (acc++y0 n)) (.sl o' 1 (bytesOf acc++bytesOf e)) H':=fun e o' H' he hs=>by
  rw[he];exact⟨o',by rw[yG],by rw[zP,Al5];rw[hal] at hs;exact hs⟩
 by_cases h3:n≤2047
 ·have g1:((n:Int)≤2047)=True:=eq_true (by omega)
  simp(disch:=omega) only[ir268,e1,g1,steps,st2,pev,rev,oev,optr,ibin,sbin,ishf,bound,mmAll,mm2,mk,mkArgs,AV.cells,AV.boxable,AV.one,AV.strip1,fillA,fillS,Nat.reduceEqDiff,reduceCtorEq,↓reduceIte,Nat.reduceAdd,Int.reduceNeg,Nat.reduceLeDiff,Int.reduceToNat,Int.reduceEq,Int.reduceLT,Int.reduceLE,Int.reduceAdd,Io,Im,If,Il,Jt,Jf,AC.rg,Jm,Jl,Ja,Fm,Fl,Fa,Imv,Imb,Iai,Iei,Igi,Isi,Ipf,Ipt,Ilb,Iia,Ilt,Iap,Ink,Iln,Ils,Iad,Iex,Ibx,Ing]
  simp only[fd6,zl6 (show n / 64<32 by omega),zjJ]
  refine goP_ownS ho' (by simp[hal];omega) (by simp[hal,maxLen];omega) fun o' H' hs=>?_
  simp(disch:=omega) only[steps,st2,pev,rev,oev,optr,ibin,sbin,ishf,bound,mmAll,mm2,mk,mkArgs,AV.cells,AV.boxable,AV.one,AV.strip1,fillA,fillS,Nat.reduceEqDiff,reduceCtorEq,↓reduceIte,Nat.reduceAdd,Int.reduceNeg,Nat.reduceLeDiff,Int.reduceToNat,Int.reduceEq,Int.reduceLT,Int.reduceLE,Int.reduceAdd]
  exact hQ _ _ H' H' [_] nofun rfl (Low.refl _) (fin [_,_] o' H' (by unfold y0;rw[if_neg (by omega),if_pos h3]) hs)
 ·have g1:¬ ((n:Int)≤2047):=by omega
  by_cases h4:n≤65535
  ·by_cases h5:n<55296
   ·have g2:((n:Int)<55296)=True:=eq_true (by omega)
    simp(disch:=omega) only[ir268,e1,g1,g2,steps,st2,pev,rev,oev,optr,ibin,sbin,ishf,bound,mmAll,mm2,mk,mkArgs,AV.cells,AV.boxable,AV.one,AV.strip1,fillA,fillS,Nat.reduceEqDiff,reduceCtorEq,↓reduceIte,Nat.reduceAdd,Int.reduceNeg,Nat.reduceLeDiff,Int.reduceToNat,Int.reduceEq,Int.reduceLT,Int.reduceLE,Int.reduceAdd,Io,Im,If,Il,Jt,Jf,AC.rg,Jm,Jl,Ja,Fm,Fl,Fa,Imv,Imb,Iai,Iei,Igi,Isi,Ipf,Ipt,Ilb,Iia,Ilt,Iap,Ink,Iln,Ils,Iad,Iex,Ibx,Ing]
    simp only[fd6,zkZ,zkA (show n / 4096<16 by omega),zjJ]
    refine goP_ownS ho' (by simp[hal];omega) (by simp[hal,maxLen];omega) fun o' H' hs=>?_
    simp(disch:=omega) only[steps,st2,pev,rev,oev,optr,ibin,sbin,ishf,bound,mmAll,mm2,mk,mkArgs,AV.cells,AV.boxable,AV.one,AV.strip1,fillA,fillS,Nat.reduceEqDiff,reduceCtorEq,↓reduceIte,Nat.reduceAdd,Int.reduceNeg,Nat.reduceLeDiff,Int.reduceToNat,Int.reduceEq,Int.reduceLT,Int.reduceLE,Int.reduceAdd]
    exact hQ _ _ H' H' [_] nofun rfl (Low.refl _) (fin [_,_,_] o' H' (by unfold y0;rw[if_neg (by omega),if_neg h3,if_pos h4]) hs)
   ·have g2:¬ ((n:Int)<55296):=by omega
    have g3:((57343:Int)<n)=True:=eq_true (by omega)
    have g4:((n:Int)≤65535)=True:=eq_true (by omega)
    simp(disch:=omega) only[ir268,e1,g1,g2,g3,g4,steps,st2,pev,rev,oev,optr,ibin,sbin,ishf,bound,mmAll,mm2,mk,mkArgs,AV.cells,AV.boxable,AV.one,AV.strip1,fillA,fillS,Nat.reduceEqDiff,reduceCtorEq,↓reduceIte,Nat.reduceAdd,Int.reduceNeg,Nat.reduceLeDiff,Int.reduceToNat,Int.reduceEq,Int.reduceLT,Int.reduceLE,Int.reduceAdd,Io,Im,If,Il,Jt,Jf,AC.rg,Jm,Jl,Ja,Fm,Fl,Fa,Imv,Imb,Iai,Iei,Igi,Isi,Ipf,Ipt,Ilb,Iia,Ilt,Iap,Ink,Iln,Ils,Iad,Iex,Ibx,Ing]
    simp only[fd6,zkZ,zkA (show n / 4096<16 by omega),zjJ]
    refine goP_ownS ho' (by simp[hal];omega) (by simp[hal,maxLen];omega) fun o' H' hs=>?_
    simp(disch:=omega) only[steps,st2,pev,rev,oev,optr,ibin,sbin,ishf,bound,mmAll,mm2,mk,mkArgs,AV.cells,AV.boxable,AV.one,AV.strip1,fillA,fillS,Nat.reduceEqDiff,reduceCtorEq,↓reduceIte,Nat.reduceAdd,Int.reduceNeg,Nat.reduceLeDiff,Int.reduceToNat,Int.reduceEq,Int.reduceLT,Int.reduceLE,Int.reduceAdd]
    exact hQ _ _ H' H' [_] nofun rfl (Low.refl _) (fin [_,_,_] o' H' (by unfold y0;rw[if_neg (by omega),if_neg h3,if_pos h4]) hs)
  ·have g2:¬ ((n:Int)<55296):=by omega
   have g3:((57343:Int)<n)=True:=eq_true (by omega)
   have g4:¬ ((n:Int)≤65535):=by omega
   have g5:((65535:Int)<n)=True:=eq_true (by omega)
   have g6:((n:Int)≤1114111)=True:=eq_true (by omega)
   simp(disch:=omega) only[ir268,e1,g1,g2,g3,g4,g5,g6,steps,st2,pev,rev,oev,optr,ibin,sbin,ishf,bound,mmAll,mm2,mk,mkArgs,AV.cells,AV.boxable,AV.one,AV.strip1,fillA,fillS,Nat.reduceEqDiff,reduceCtorEq,↓reduceIte,Nat.reduceAdd,Int.reduceNeg,Nat.reduceLeDiff,Int.reduceToNat,Int.reduceEq,Int.reduceLT,Int.reduceLE,Int.reduceAdd,Io,Im,If,Il,Jt,Jf,AC.rg,Jm,Jl,Ja,Fm,Fl,Fa,Imv,Imb,Iai,Iei,Igi,Isi,Ipf,Ipt,Ilb,Iia,Ilt,Iap,Ink,Iln,Ils,Iad,Iex,Ibx,Ing]
   simp only[fd6,zkZ,zmx,zmd (show n / 262144<8 by omega),zjJ]
   refine goP_ownS ho' (by simp[hal];omega) (by simp[hal,maxLen];omega) fun o' H' hs=>?_
   simp(disch:=omega) only[steps,st2,pev,rev,oev,optr,ibin,sbin,ishf,bound,mmAll,mm2,mk,mkArgs,AV.cells,AV.boxable,AV.one,AV.strip1,fillA,fillS,Nat.reduceEqDiff,reduceCtorEq,↓reduceIte,Nat.reduceAdd,Int.reduceNeg,Nat.reduceLeDiff,Int.reduceToNat,Int.reduceEq,Int.reduceLT,Int.reduceLE,Int.reduceAdd]
   exact hQ _ _ H' H' [_] nofun rfl (Low.refl _) (fin [_,_,_,_] o' H' (by unfold y0;rw[if_neg (by omega),if_neg h3,if_neg h4]) hs)
theorem ze5 (n:Nat) (h1:n≤1114111) (h2:¬ (55296≤n∧n≤57343)) (acc:List UInt8) (H:Heap) (o:Own) (ho:Owned H o acc.length 1) (hb:acc.length≤Lim) :
  zii Tryz.prog 247 [.sl o 1 (bytesOf acc),.int .i32 n] H o 1 (bytesOf (acc++y0 n)):=by
 refine ACalls.goO ir247 ck247 (Al4 _) fun KP Q hQ hP=>?_
 have e1:=zmk (n:=n) (by omega)
 have hal:=zP acc
 by_cases h3:n≤127
 ·have g1:((n:Int)≤127)=True:=eq_true (by omega)
  have g2:IntKind.wrap .u8 (n:Int)=((UInt8.ofNat n).toNat:Int):=by rw[wr8];simp
  simp only[Lim] at hb
  simp(disch:=omega) only[ir247,e1,g1,g2,go_sem]
  refine goP_ownS (by rw[hal];exact ho) (by simp[hal];omega) (by simp[hal,maxLen];omega) fun o' H' hs=>?_
  simp(disch:=omega) only[go_sem]
  refine hQ _ _ H' H' [_] nofun rfl (Low.refl _) ⟨o',?_,?_⟩
  ·have:y0 n=[UInt8.ofNat n]:=by unfold y0;rw[if_pos h3]
   rw[this];exact congrArg _ (zcI _ _)
  ·have:y0 n=[UInt8.ofNat n]:=by unfold y0;rw[if_pos h3]
   rw[this,zP];simpa[hal] using hs
 ·have g1:¬ ((n:Int)≤127):=by omega
  simp(disch:=omega) only[ir247,e1,g1,go_sem]
  refine za4 (zlx n (by omega) h1 h2 acc H o ho hb) fun o' H' hs=>?_
  simp(disch:=omega) only[go_sem]
  exact hQ _ _ H' H' [_] nofun rfl (Low.refl _) ⟨o',rfl,hs⟩
theorem zmh:∀ x:Fin 256,IntKind.wrap .u8 ((BitVec.ofInt IntKind.u8.bits ((x.val:Nat):Int) ||| BitVec.ofInt IntKind.u8.bits 32).toNat:Int)=((UInt8.ofNat x.val ||| 32).toNat:Int):=by decide +kernel
theorem zmH (c:UInt8):IntKind.wrap .u8 ((BitVec.ofInt IntKind.u8.bits (c.toNat:Int) ||| BitVec.ofInt IntKind.u8.bits 32).toNat:Int)=((c ||| 32).toNat:Int):=by
 have:=zmh ⟨c.toNat,c.toNat_lt⟩
 simpa using this
theorem zff (l:List UInt8) (c:UInt8):-1≤Lib.indexByte l c∧Lib.indexByte l c<l.length:=by
 induction l with
 | nil=>simp[Lib.indexByte]
 | cons x r ih =>
  simp only[Lib.indexByte,Al2]
  split
  ·omega
  ·split
   ·omega
   ·omega
theorem zjZ {c:UInt8} {k:Nat} (h:hexD c=some k):k<16:=by
 unfold hexD at h
 split at h
 ·cases h
 ·cases h;have:=zff hexL (c ||| 32);simp only[hexL,Al2,Al3] at this ⊢;omega
theorem zf3:∀(n:Nat) (t:List UInt8) (u v m:Nat),u<m→Zb n t u=some v→v<m*16 ^ n
 | 0,_,u,v,m,hu,h=>by simp only[Zb,Al1] at h;subst h;simpa using hu
 | n+1,[],_,_,_,_,h=>by cases h
 | n+1,c::t,u,v,m,hu,h=>by
  simp only[Zb] at h
  split at h
  ·cases h
  ·rename_i k hk
   have h1:=zjZ hk
   have h2:=zf3 n t (16*u+k) v (16*m) (by omega) h
   rw[Nat.pow_succ];rw[show 16*m*16 ^ n=m*(16 ^ n*16) by rw[Nat.mul_comm (16 ^ n) 16,← Nat.mul_assoc,Nat.mul_comm m 16]] at h2;exact h2
theorem zi9 {t:List UInt8} {u:Nat} (h:Zo t=some u):u<65536:=zf3 4 t 0 u 1 (by decide) h
theorem zmc (s:List UInt8) (hs:s.length≤Lim):Pure Tryz.prog 219 [.str s] (.tup [.int .i64 ((Zo s).getD 0:Nat),.bool (Zo s).isSome]):=by
 refine Pure.go ir219 ck219 (Al4 _) fun KP Q hQ=>?_
 simp only[Lim] at hs
 by_cases h4:s.length<4
 ·have g1:((s.length:Int)<4)=True:=eq_true (by omega)
  have:Zo s=none:=by
   cases h:Zo s with
   | none=>rfl
   | some u=>have:=Yd _ _ _ _ h;omega
  simp(disch:=omega) only[ir219,g1,steps,st2,pev,rev,oev,optr,ibin,sbin,ishf,bound,mmAll,mm2,mk,mkArgs,AV.cells,AV.boxable,AV.one,AV.strip1,fillA,fillS,Nat.reduceEqDiff,reduceCtorEq,↓reduceIte,Nat.reduceAdd,Int.reduceNeg,Nat.reduceLeDiff,Int.reduceToNat,Int.reduceEq,Int.reduceLT,Int.reduceLE,Int.reduceAdd,Io,Im,If,Il,Jt,Jf,AC.rg,Jm,Jl,Ja,Fm,Fl,Fa,Imv,Imb,Iai,Iei,Igi,Isi,Ipf,Ipt,Ilb,Iia,Ilt,Iap,Ink,Iln,Ils,Iad,Iex,Ibx,Ing]
  exact hQ _ _ _ _ nofun rfl (by simp[tupOf,envOf,AV.strip,AV.strip1,this])
 ·have g1:¬ ((s.length:Int)<4):=by omega
  obtain⟨l,r,hl,hsr⟩:∃ l r:List UInt8,l.length=4∧s=l++r:=⟨s.take 4,s.drop 4,by simp;omega,by simp⟩
  have hl':(l.length:Int)=4:=by omega
  have key:∀(a b:List UInt8) (u:Nat),l=a++b→Zb b.length (b++r) u=Zb (4-a.length) (s.drop a.length) u:=fun a b u h=>by
   have:a.length+b.length=4:=by rw[← hl,h];simp
   rw[hsr,h,zcP,List.drop_left];congr 1;omega
  simp(disch:=omega) only[ir219,g1,steps,st2,pev,rev,oev,optr,ibin,sbin,ishf,bound,mmAll,mm2,mk,mkArgs,AV.cells,AV.boxable,AV.one,AV.strip1,fillA,fillS,Nat.reduceEqDiff,reduceCtorEq,↓reduceIte,Nat.reduceAdd,Int.reduceNeg,Nat.reduceLeDiff,Int.reduceToNat,Int.reduceEq,Int.reduceLT,Int.reduceLE,Int.reduceAdd,Io,Im,If,Il,Jt,Jf,AC.rg,Jm,Jl,Ja,Fm,Fl,Fa,Imv,Imb,Iai,Iei,Igi,Isi,Ipf,Ipt,Ilb,Iia,Ilt,Iap,Ink,Iln,Ils,Iad,Iex,Ibx,Ing]
  refine goL_range l 10 (fun u:Nat=>[(4,.int .i64 u)]) (fun done rest u H=>Zb rest.length (rest++r) u=Zo s∧u<16 ^ done.length∧H=Heap.emp) 0 (by simp(disch:=omega) only[steps,st2,pev,rev,oev,optr,ibin,sbin,ishf,bound,mmAll,mm2,mk,mkArgs,AV.cells,AV.boxable,AV.one,AV.strip1,fillA,fillS,Nat.reduceEqDiff,reduceCtorEq,↓reduceIte,Nat.reduceAdd,Int.reduceNeg,Nat.reduceLeDiff,Int.reduceToNat,Int.reduceEq,Int.reduceLT,Int.reduceLE,Int.reduceAdd]) ⟨by rw[hl,← hsr];rfl,by simp,rfl⟩ ?_ ?_
  ·rintro u H J ⟨hu,_,rfl⟩ hlt
   simp only[Al3,Zb] at hu
   simp(disch:=omega) only[hl',steps,st2,pev,rev,oev,optr,ibin,sbin,ishf,bound,mmAll,mm2,mk,mkArgs,AV.cells,AV.boxable,AV.one,AV.strip1,fillA,fillS,Nat.reduceEqDiff,reduceCtorEq,↓reduceIte,Nat.reduceAdd,Int.reduceNeg,Nat.reduceLeDiff,Int.reduceToNat,Int.reduceEq,Int.reduceLT,Int.reduceLE,Int.reduceAdd]
   exact hQ _ _ _ _ nofun rfl (by simp[tupOf,envOf,AV.strip,AV.strip1,← hu])
  ·rintro done c rest u H J hd hlt hlt2 ⟨hu,hb,rfl⟩ hJ
   have hd4:done.length<4:=by omega
   have hlt':(done.length:Int)<4:=by omega
   have hlt3:(done.length:Int)<s.length:=by omega
   have hg:s.getD done.length 0=c:=by rw[hsr,hd];simp
   have hpow:16 ^ done.length≤4096:=by
    have:done.length≤3:=by omega
    calc 16 ^ done.length≤16 ^ 3:=Nat.pow_le_pow_right (by decide) this
     _=4096:=rfl
   simp only[Al2,Al6,Zb] at hu
   have hidx:=zff hexL (c ||| 32)
   have hc:=c.toNat_lt
   simp only[hexL,Al2,Al3] at hidx
   simp(disch:=omega) only[hlt',hlt3,hg,zmH,steps,st2,pev,rev,oev,optr,ibin,sbin,ishf,bound,mmAll,mm2,mk,mkArgs,AV.cells,AV.boxable,AV.one,AV.strip1,fillA,fillS,Nat.reduceEqDiff,reduceCtorEq,↓reduceIte,Nat.reduceAdd,Int.reduceNeg,Nat.reduceLeDiff,Int.reduceToNat,Int.reduceEq,Int.reduceLT,Int.reduceLE,Int.reduceAdd]
   refine goK_pure (zdd hexL (c ||| 32)) ?_
   have no:hexD c=none→(Zo s)=none:=fun e=>by rw[e] at hu;exact hu.symm
   by_cases n1:Lib.indexByte hexL (c ||| 32)<0
   ·have e:hexD c=none:=by unfold hexD;rw[if_pos (.inl n1)]
    simp(disch:=omega) only[n1,steps,st2,pev,rev,oev,optr,ibin,sbin,ishf,bound,mmAll,mm2,mk,mkArgs,AV.cells,AV.boxable,AV.one,AV.strip1,fillA,fillS,Nat.reduceEqDiff,reduceCtorEq,↓reduceIte,Nat.reduceAdd,Int.reduceNeg,Nat.reduceLeDiff,Int.reduceToNat,Int.reduceEq,Int.reduceLT,Int.reduceLE,Int.reduceAdd]
    exact hQ _ _ _ _ nofun rfl (by simp[tupOf,envOf,AV.strip,AV.strip1,no e])
   obtain⟨k,hk⟩:∃ k:Nat,Lib.indexByte hexL (c ||| 32)=(k:Int):=⟨(Lib.indexByte hexL (c ||| 32)).toNat,by omega⟩
   have hk16:k<16:=by rw[show Lib.indexByte [48,49,50,51,52,53,54,55,56,57,97,98,99,100,101,102] (c ||| 32)=(k:Int) from hk] at hidx;omega
   have hu4:u<4096:=by omega
   have hkn:¬ ((k:Int)<0):=by omega
   have hnext:hexD c=some k→Zb rest.length (rest++r) (16*u+k)=Zo s∧16*u+k<16 ^ (done++[c]).length∧Heap.emp=Heap.emp:=fun e=>by
    rw[e] at hu
    refine⟨hu,?_,rfl⟩
    rw[Al5,Al2,Al3,Nat.pow_succ];omega
   have hpush:((16*u+k:Nat):Int)=16*(u:Int)+k:=by omega
   by_cases n2:c.toNat<48
   ·have e:hexD c=none:=by unfold hexD;rw[if_pos (.inr (.inl n2))]
    have n2':((c.toNat:Int)<48)=True:=eq_true (by omega)
    simp(disch:=omega) only[hk,hkn,n2',hlt3,hg,steps,st2,pev,rev,oev,optr,ibin,sbin,ishf,bound,mmAll,mm2,mk,mkArgs,AV.cells,AV.boxable,AV.one,AV.strip1,fillA,fillS,Nat.reduceEqDiff,reduceCtorEq,↓reduceIte,Nat.reduceAdd,Int.reduceNeg,Nat.reduceLeDiff,Int.reduceToNat,Int.reduceEq,Int.reduceLT,Int.reduceLE,Int.reduceAdd]
    exact hQ _ _ _ _ nofun rfl (by simp[tupOf,envOf,AV.strip,AV.strip1,no e])
   have n2':¬ ((c.toNat:Int)<48):=by omega
   by_cases n3:57<c.toNat
   ·have n3':((57:Int)<c.toNat)=True:=eq_true (by omega)
    by_cases n4:c.toNat<65
    ·have e:hexD c=none:=by unfold hexD;rw[if_pos (.inr (.inr ⟨n3,n4⟩))]
     have n4':((c.toNat:Int)<65)=True:=eq_true (by omega)
     simp(disch:=omega) only[hk,hkn,n2',n3',n4',hlt3,hg,steps,st2,pev,rev,oev,optr,ibin,sbin,ishf,bound,mmAll,mm2,mk,mkArgs,AV.cells,AV.boxable,AV.one,AV.strip1,fillA,fillS,Nat.reduceEqDiff,reduceCtorEq,↓reduceIte,Nat.reduceAdd,Int.reduceNeg,Nat.reduceLeDiff,Int.reduceToNat,Int.reduceEq,Int.reduceLT,Int.reduceLE,Int.reduceAdd]
     exact hQ _ _ _ _ nofun rfl (by simp[tupOf,envOf,AV.strip,AV.strip1,no e])
    ·have e:hexD c=some k:=by unfold hexD;rw[if_neg (by omega),hk];rfl
     have n4':¬ ((c.toNat:Int)<65):=by omega
     simp(disch:=omega) only[hk,hkn,n2',n3',n4',hlt3,hg,wrap64,steps,st2,pev,rev,oev,optr,ibin,sbin,ishf,bound,mmAll,mm2,mk,mkArgs,AV.cells,AV.boxable,AV.one,AV.strip1,fillA,fillS,Nat.reduceEqDiff,reduceCtorEq,↓reduceIte,Nat.reduceAdd,Int.reduceNeg,Nat.reduceLeDiff,Int.reduceToNat,Int.reduceEq,Int.reduceLT,Int.reduceLE,Int.reduceAdd]
     refine goJ (hJ (16*u+k) _ (hnext e)) (by simp(disch:=omega) only[hpush,steps,st2,pev,rev,oev,optr,ibin,sbin,ishf,bound,mmAll,mm2,mk,mkArgs,AV.cells,AV.boxable,AV.one,AV.strip1,fillA,fillS,Nat.reduceEqDiff,reduceCtorEq,↓reduceIte,Nat.reduceAdd,Int.reduceNeg,Nat.reduceLeDiff,Int.reduceToNat,Int.reduceEq,Int.reduceLT,Int.reduceLE,Int.reduceAdd])
   ·have e:hexD c=some k:=by unfold hexD;rw[if_neg (by omega),hk];rfl
    have n3':¬ ((57:Int)<c.toNat):=by omega
    simp(disch:=omega) only[hk,hkn,n2',n3',hlt3,hg,wrap64,steps,st2,pev,rev,oev,optr,ibin,sbin,ishf,bound,mmAll,mm2,mk,mkArgs,AV.cells,AV.boxable,AV.one,AV.strip1,fillA,fillS,Nat.reduceEqDiff,reduceCtorEq,↓reduceIte,Nat.reduceAdd,Int.reduceNeg,Nat.reduceLeDiff,Int.reduceToNat,Int.reduceEq,Int.reduceLT,Int.reduceLE,Int.reduceAdd]
    refine goJ (hJ (16*u+k) _ (hnext e)) (by simp(disch:=omega) only[hpush,steps,st2,pev,rev,oev,optr,ibin,sbin,ishf,bound,mmAll,mm2,mk,mkArgs,AV.cells,AV.boxable,AV.one,AV.strip1,fillA,fillS,Nat.reduceEqDiff,reduceCtorEq,↓reduceIte,Nat.reduceAdd,Int.reduceNeg,Nat.reduceLeDiff,Int.reduceToNat,Int.reduceEq,Int.reduceLT,Int.reduceLE,Int.reduceAdd])
def cU (l:List Nat):List (List AV):=l.map fun(n:Nat)=>[AV.int .i64 (n:Int)]
theorem zeS (l:List Nat):(cU l).length=l.length:=by simp[cU]
theorem ziG (l:List Nat):(cU l).map (·.map AV.strip1)=cU l:=by simp[cU,AV.strip1]
theorem zl2 (us:List Nat) (hl:us.length≤68719476736):Pure Tryz.prog 220 [.sl .no 1 (cU us)] (.tup [.str ((zp us).getD []),.bool (zp us).isSome]):=by
 refine Pure.go ir220 ck220 (Al4 _) fun KP Q hQ=>?_
 have hll:=zeS us
 simp(disch:=omega) only[ir220,go_sem]
 refine goL_st (fun s:List Nat×List Nat×Own×List UInt8=>[(4,.sl s.2.2.1 1 (bytesOf s.2.2.2)),(5,.int .i64 s.1.length)]) (fun s H=>us=s.1++s.2.1∧zp us=(zp s.2.1).map (s.2.2.2++·)∧s.2.2.2.length≤2*s.1.length*2∧Owned H s.2.2.1 s.2.2.2.length 1) (fun s=>s.2.1.length) ([],us,.nil,[]) (by simp(disch:=omega) only[go_sem];rfl) ⟨rfl,by cases zp us<;>rfl,by simp,rfl⟩ ?_
 rintro⟨done,rest,o,out⟩ H J ⟨hd,hj,hle,ho⟩ hJ
 simp only at hd hj hle ho
 have hdl:done.length+rest.length=us.length:=by rw[hd];simp
 cases rest with
 | nil =>
  simp only[List.append_nil] at hd
  have hlt:¬ ((done.length:Int)<us.length):=by rw[hd];omega
  simp(disch:=omega) only[hll,hlt,go_sem]
  simp only[zp,yd,List.append_nil] at hj
  simp(disch:=omega) only[YE,go_sem]
  exact hQ _ _ _ _ nofun rfl (by simp[tupOf,envOf,AV.strip,AV.strip1,hj])
 | cons u r =>
  have hlt:((done.length:Int)<us.length):=by simp at hdl;omega
  have hg:(cU us).getD done.length []=[.int .i64 u]:=by rw[hd];simp[cU]
  have hu0:¬ ((u:Int)<0):=by omega
  have hrl:r.length+1+done.length=us.length:=by simp at hdl;omega
  have none_of:zp (u::r)=none→zp us=none:=fun e=>by rw[hj,e];rfl
  have hmax:maxLen=9223372036854775807:=rfl
  by_cases a1:65535<u
  ·have e:=none_of (by rw[zp.eq_def];simp only;rw[if_pos (.inl a1)])
   have a1':((65535:Int)<u)=True:=eq_true (by omega)
   simp(disch:=omega) only[hll,hlt,hg,hu0,a1',go_sem]
   exact hQ _ _ _ _ nofun rfl (by simp[tupOf,envOf,AV.strip,AV.strip1,e])
  have a1':¬ ((65535:Int)<u):=by omega
  by_cases a2:56320≤u∧u≤57343
  ·have e:=none_of (by rw[zp.eq_def];simp only;rw[if_pos (.inr a2)])
   have a2':((56320:Int)≤u)=True:=eq_true (by omega)
   have a3':((u:Int)≤57343)=True:=eq_true (by omega)
   simp(disch:=omega) only[hll,hlt,hg,hu0,a1',a2',a3',go_sem]
   exact hQ _ _ _ _ nofun rfl (by simp[tupOf,envOf,AV.strip,AV.strip1,e])
  by_cases a3:55296≤u∧u<56320
  ·have b1:¬ ((56320:Int)≤u):=by omega
   have b2:((55296:Int)≤u)=True:=eq_true (by omega)
   have b3:((u:Int)<56320)=True:=eq_true (by omega)
   cases r with
   | nil =>
    have e:=none_of (by rw[zp.eq_def];simp only;rw[if_neg (by omega),if_pos a3])
    have b4:((done.length:Int)+1=us.length)=True:=eq_true (by simp at hrl;omega)
    simp(disch:=omega) only[hll,hlt,hg,hu0,a1',b1,b2,b3,wrap64,b4,go_sem]
    exact hQ _ _ _ _ nofun rfl (by simp[tupOf,envOf,AV.strip,AV.strip1,e])
   | cons v r =>
    have b4:¬ ((done.length:Int)+1=us.length):=by simp at hrl;omega
    have b5:((done.length:Int)+1<us.length):=by simp at hrl;omega
    have b6:((done.length:Int)+1).toNat=done.length+1:=by omega
    have hg2:(cU us).getD (done.length+1) []=[.int .i64 v]:=by rw[hd];simp[cU]
    by_cases c1:v<56320
    ·have e:=none_of (by rw[zp.eq_def];simp only;rw[if_neg (by omega),if_pos a3,if_pos (.inl c1)])
     have c1':((v:Int)<56320)=True:=eq_true (by omega)
     simp(disch:=omega) only[hll,hlt,hg,hu0,a1',b1,b2,b3,wrap64,b4,b5,b6,hg2,c1',go_sem]
     exact hQ _ _ _ _ nofun rfl (by simp[tupOf,envOf,AV.strip,AV.strip1,e])
    have c1':¬ ((v:Int)<56320):=by omega
    by_cases c2:57343<v
    ·have e:=none_of (by rw[zp.eq_def];simp only;rw[if_neg (by omega),if_pos a3,if_pos (.inr c2)])
     have c2':((57343:Int)<v)=True:=eq_true (by omega)
     simp(disch:=omega) only[hll,hlt,hg,hu0,a1',b1,b2,b3,wrap64,b4,b5,b6,hg2,c1',c2',go_sem]
     exact hQ _ _ _ _ nofun rfl (by simp[tupOf,envOf,AV.strip,AV.strip1,e])
    have c2':¬ ((57343:Int)<v):=by omega
    have ej:zp (u::v::r)=(zp r).map (y0 (65536+1024*(u-55296)+(v-56320))++·):=by rw[zp.eq_def];simp only;rw[if_neg (by omega),if_pos a3,if_neg (by omega)]
    obtain⟨m,hm⟩:∃ m,65536+1024*(u-55296)+(v-56320)=m:=⟨_,rfl⟩
    rw[hm] at ej
    have hm2:(65536+1024*((u:Int)-55296)+v-56320)=(m:Int):=by omega
    have hm3:=(ZW m).1
    simp(disch:=omega) only[hll,hlt,hg,hu0,a1',b1,b2,b3,wrap64,b4,b5,b6,hg2,c1',c2',hm2,zjm (show m<2147483648 by omega),go_sem]
    refine za4 (ze5 m (by omega) (by omega) out _ o ho (by simp only[Lim];omega)) fun o' H' hs=>?_
    simp(disch:=omega) only[wrap64,go_sem]
    have hown:=hs.own
    rw[zP] at hown
    have e5:(((done++[u,v]).length:Nat):Int)=(done.length:Int)+1+1:=by simp;omega
    refine goJ (hJ (done++[u,v],r,o',out++y0 m) _ (by simp;omega) ⟨by simp[hd],?_,?_,hown⟩) (by simp(disch:=omega) only[e5,go_sem])
    ·simp only[hj,ej];cases zp r<;>simp
    ·simp;omega
  have ej:zp (u::r)=(zp r).map (y0 u++·):=by
   rw[zp.eq_def];simp only;rw[if_neg (by omega),if_neg a3]
  have hm3:=(ZW u).1
  have e5:(((done++[u]).length:Nat):Int)=(done.length:Int)+1:=by simp
  by_cases h:u<55296
  ·have b1:¬ ((56320:Int)≤u):=by omega
   have b2:¬ ((55296:Int)≤u):=by omega
   simp(disch:=omega) only[hll,hlt,hg,hu0,a1',b1,b2,zjm (show u<2147483648 by omega),go_sem]
   refine za4 (ze5 u (by omega) (by omega) out _ o ho (by simp only[Lim];omega)) fun o' H' hs=>?_
   simp(disch:=omega) only[wrap64,go_sem]
   have hown:=hs.own
   rw[zP] at hown
   refine goJ (hJ (done++[u],r,o',out++y0 u) _ (by simp) ⟨by simp[hd],?_,?_,hown⟩) (by simp(disch:=omega) only[e5,go_sem])
   ·simp only[hj,ej];cases zp r<;>simp
   ·simp;omega
  ·have b1:((56320:Int)≤u)=True:=eq_true (by omega)
   have b2:¬ ((u:Int)≤57343):=by omega
   have b3:((55296:Int)≤u)=True:=eq_true (by omega)
   have b4:¬ ((u:Int)<56320):=by omega
   simp(disch:=omega) only[hll,hlt,hg,hu0,a1',b1,b2,b3,b4,zjm (show u<2147483648 by omega),go_sem]
   refine za4 (ze5 u (by omega) (by omega) out _ o ho (by simp only[Lim];omega)) fun o' H' hs=>?_
   simp(disch:=omega) only[wrap64,go_sem]
   have hown:=hs.own
   rw[zP] at hown
   refine goJ (hJ (done++[u],r,o',out++y0 u) _ (by simp) ⟨by simp[hd],?_,?_,hown⟩) (by simp(disch:=omega) only[e5,go_sem])
   ·simp only[hj,ej];cases zp r<;>simp
   ·simp;omega
abbrev Zi:Nat:=68719476736
theorem upd_upd (H:Heap) (b:Nat) (x y:AObj):(H.upd b x).upd b y=H.upd b y:=by
 funext c;by_cases e:c=b<;>simp[Heap.upd,e]
theorem yD {P:Program} {f:FuncId} {args:List AV} {H:Heap} {R RP:AV→Heap→Prop} (h:ACalls P f args H (fun e H'=>match e with|.ret v=>R v.strip H'|.pan v=>RP v H')) :
  ACalls P f args H (fun e H'=>match e with|.ret v=>R v H'|.pan v=>RP v H'):=by
 intro γ w vs ht hs hv
 refine(h γ w vs ht hs hv).mono fun e w' ⟨γ',H',r,h1,h2,h3,h4,h5⟩=>?_
 cases r with
 | ret v =>
  cases e with
  | returned u=>exact⟨γ',H',.ret v.strip,h1,h2,h3,Rep.strip h4,h5⟩
  | panicked ch=>exact h4.elim
  | outgrown=>exact h4.elim
 | pan v=>exact⟨γ',H',.pan v,h1,h2,h3,h4,h5⟩
theorem own_ne {H:Heap} {c b d n sz:Nat} {cs:List AV} (h:Owned H (.tip b d) n sz) (hc:H c=some (.cells cs)):b≠c:=fun e=>by
 subst e
 have:H b=some (.tip (d+n) sz):=h
 rw[hc] at this;cases this
theorem zv {H H':Heap} {o:Own} {n sz c:Nat} {cs:List AV} (h:Owned H o n sz) (hc:H c=some (.cells cs)) (hk:Kept H o H'):H' c=some (.cells cs) :=
 hk c _ hc fun d e=>by subst e;exact own_ne h hc rfl
theorem yC {H:Heap} {o:Own} {n sz c:Nat} {cs:List AV} {x:AObj} (h:Owned H o n sz) (hc:H c=some (.cells cs)):Owned (H.upd c x) o n sz:=by
 cases o with
 | tip b d=>have:=own_ne h hc;show (H.upd c x) b=_;rw[upd_ne this];exact h
 | no=>exact h
 | nil=>exact h
 | full=>exact h
structure SaidAt (H:Heap) (q:Nat) (x:Sd) (o o2:Own):Prop where
 hq:H q=some (.cells [.sl o 1 (bytesOf x.b),.sl o2 1 (cU x.u),.bool x.ok])
 ho:Owned H o x.b.length 1
 ho2:Owned H o2 x.u.length 1
 ne:∀ b d d2,o=.tip b d→o2≠.tip b d2
theorem zgp {H:Heap} {q:Nat} {x:Sd} {o o2:Own} (hs:SaidAt H q x o o2) (hw:x.w≤Zi) :
  ACalls Tryz.prog 177 [.ptr q 0] H (fun e H'=>∃ v,e=.ret v∧(v=.tup []∧∃ o',SaidAt H' q (zS x) o' .nil)):=by
 refine ACalls.go ir177 ck177 (Al4 _) fun KP Q hQ=>?_
 obtain⟨hq,ho,ho2,hne⟩:=hs
 have hbl:=zP x.b
 simp only[Zi,Sd.w] at hw
 simp(disch:=omega) only[ir177,hq,go_sem]
 refine goK_pure (Pure.low (zl2 x.u (by omega))) ?_
 have hfw:=zcc x
 simp only[zS,Sd.w,Al5] at hfw
 simp(disch:=omega) only[hq,go_sem]
 refine goP_ownS (by rw[hbl];exact ho) (by simp[zP];omega) (by simp[maxLen,zP];omega) fun o' H1 hs=>?_
 have h1:H1 q=some (.cells [.sl o 1 (bytesOf x.b),.sl o2 1 (cU x.u),.bool x.ok]):=zv ho hq hs.kept
 have hown:=hs.own
 simp only[Al5,zP] at hown
 cases hok:x.ok
 ·rw[hok] at h1
  simp(disch:=omega) only[h1,Zq,yG,go_sem]
  refine hQ _ _ _ _ _ nofun rfl (Low.refl _) ⟨rfl,o',?_,?_,rfl,nofun⟩
  ·simp[zS,hok,upd_same,cU,yG,Zq]
  ·simp only[zS,Al5]
   exact yC hown h1
 ·rw[hok] at h1
  simp(disch:=omega) only[h1,Zq,yG,go_sem]
  refine hQ _ _ _ _ _ nofun rfl (Low.refl _) ⟨rfl,o',?_,?_,rfl,nofun⟩
  ·simp[zS,hok,upd_same,cU,yG,Zq]
  ·simp only[zS,Al5]
   exact yC hown h1
def zgG (H':Heap) (q:Nat) (x:Sd) (s:List UInt8) (v:AV):Prop:=match Zx x s with
 | none=>v=.int .i64 0
 | some (x',t')=>v=.int .i64 ((s.length-t'.length:Nat):Int)∧∃ o o2,SaidAt H' q x' o o2
theorem zmB {H:Heap} {q:Nat} {x:Sd} {o o2:Own} (hs:SaidAt H q x o o2) (hw:x.w≤Zi) (s:List UInt8) (hl:s.length≤Lim) :
  ACalls Tryz.prog 176 [.ptr q 0,.str s] H (fun e H'=>∃ v,e=.ret v∧zgG H' q x s v):=by
 refine ACalls.go ir176 ck176 (Al4 _) fun KP Q hQ=>?_
 have hs0:=hs
 obtain⟨hq,ho,ho2,hne⟩:=hs
 have hul:=zeS x.u
 have hw0:=hw
 simp only[Zi,Sd.w] at hw
 simp only[Lim] at hl
 simp(disch:=omega) only[ir176,go_sem]
 refine goK_pure (YI s [117]) ?_
 cases s with
 | nil =>
  simp(disch:=omega) only[List.isPrefixOf,go_sem]
  exact hQ _ _ _ _ [_] nofun rfl (Low.refl _) (by simp[zgG,Zx,tupOf,envOf,AV.strip,AV.strip1])
 | cons c t =>
  simp only[Al2] at hl
  by_cases hc:c=117
  ·subst hc
   have hp:[117].isPrefixOf ((117:UInt8)::t)=true:=rfl
   have h1:((1:Int)≤((t.length+1:Nat):Int))=True:=eq_true (by omega)
   simp(disch:=omega) only[hp,h1,go_sem]
   refine goK_pure (zmc t (by simp only[Lim];omega)) ?_
   cases hu:Zo t with
   | none =>
    simp(disch:=omega) only[Option.isSome_none,go_sem]
    exact hQ _ _ _ _ [_] nofun rfl (Low.refl _) (by simp[zgG,Zx,hu,tupOf,envOf,AV.strip,AV.strip1])
   | some u =>
    have h4:=Yd _ _ _ _ hu
    simp(disch:=omega) only[Option.isSome_some,Option.getD_some,hq,go_sem]
    refine goP_ownS (by rw[hul];exact ho2) (by simp[hul];omega) (by simp[maxLen,hul];omega) fun o' H1 hs1=>?_
    have h2:=zv ho2 hq hs1.kept
    simp(disch:=omega) only[h2,ziG,go_sem]
    refine hQ _ _ _ _ [_] nofun rfl (Low.refl _) ?_
    have hsp:=Sep.step (a:=[(o,x.b.length,1)]) (b:=[]) (n:=x.u.length) (n':=x.u.length+1) (sz:=1) ⟨by intro y hy;simp at hy;rcases hy with rfl|rfl<;>assumption,?_⟩ (by simpa[hul] using hs1)
    ·simp only[zgG,Zx,if_true,hu,yd]
     refine⟨?_,o,o',?_,?_,?_,?_⟩
     ·show AV.int .i64 5=_
      simp only[Al2,zU]
      congr 1;omega
     ·simp[upd_same,cU]
     ·exact yC (hsp.own (o,x.b.length,1) (by simp)) h2
     ·simp only[Al5,Al2,Al3]
      exact yC (hsp.own (o',x.u.length+1,1) (by simp)) h2
     ·intro b d d2 e1 e2
      have:=hsp.nd
      simp[e1,e2,Yl] at this
    ·cases h5:Yl o with
     | none=>cases h6:Yl o2<;>simp[h5,h6]
     | some b =>
      obtain⟨d,h7⟩:=Y9 h5
      cases h6:Yl o2 with
      | none=>simp[h5,h6]
      | some b2 =>
       obtain⟨d2,h8⟩:=Y9 h6
       simp only[Al6,zar,List.filterMap_cons,List.filterMap_nil,h5,h6,List.nodup_cons,List.mem_singleton,List.not_mem_nil,not_false_eq_true,List.nodup_nil,and_true]
       rintro rfl
       exact hne b d d2 h7 h8
  ·have hp:[117].isPrefixOf (c::t)=false:=by
    simp only[List.isPrefixOf,Bool.and_true,beq_eq_false_iff_ne,ne_eq];exact fun e=>hc e.symm
   have hcl:¬ (c::t=[]):=by simp
   have h1:((0:Int)<((t.length+1:Nat):Int))=True:=eq_true (by omega)
   simp(disch:=omega) only[hp,hcl,h1,go_sem]
   refine goK_pure (zdd YA c) ?_
   have hidx:=zff YA c
   by_cases hk:Lib.indexByte YA c<0
   ·simp(disch:=omega) only[hk,go_sem]
    exact hQ _ _ _ _ [_] nofun rfl (Low.refl _) (by simp[zgG,Zx,hc,hk,tupOf,envOf,AV.strip,AV.strip1])
   ·obtain⟨k,hk2⟩:∃ k:Nat,Lib.indexByte YA c=(k:Int):=⟨(Lib.indexByte YA c).toNat,by omega⟩
    have hk8:k<8:=by simp[YA] at hidx;rw[show Lib.indexByte [34,92,47,98,102,110,114,116] c=(k:Int) from hk2] at hidx;omega
    have hk0:¬ ((k:Int)<0):=by omega
    simp(disch:=omega) only[hk2,hk0,go_sem]
    refine goK_ret (zgp hs0 hw0) fun v H1 ⟨hv,o',hs1⟩=>?_
    subst hv
    obtain⟨hq1,ho1,_,_⟩:=hs1
    have hfw:=zcc x
    have hbl:=zP (zS x).b
    simp only[Sd.w] at hfw
    have hk8':((k:Int)<8)=True:=eq_true (by omega)
    simp(disch:=omega) only[hq1,hk8',go_sem]
    refine goP_ownS (by rw[hbl];exact ho1) (by simp[hbl];omega) (by simp[maxLen,hbl];omega) fun o3 H2 hs3=>?_
    have hq2:=zv ho1 hq1 hs3.kept
    simp(disch:=omega) only[hq2,go_sem]
    refine hQ _ _ _ _ [_] nofun rfl (Low.refl _) ?_
    simp only[zgG,Zx,hc,if_false,hk2,hk0]
    refine⟨?_,o3,.nil,?_,?_,rfl,nofun⟩
    ·show AV.int .i64 1=_
     simp only[Al2]
     congr 1;omega
    ·simp only[upd_same,Sd.put,Int.toNat_natCast]
     rw[← yG];rfl
    ·simp only[Sd.put,Al5,Al2,Al3]
     exact yC (by simpa[hbl] using hs3.own) hq2
def yt (n:Int):AV:=.ifc 120 (.agg [.int .i64 n])
def prc (L p:TS) (dp:Nat):AObj:=.cells [.sl .no 2 (cKs L),.int .i64 (p.length:Int),.int .i64 (dp:Int)]
def Pat (H:Heap) (r:Nat) (L t:TS) (dp:Nat) (H':Heap):Prop:=∃ p,p++t=L∧H'=H.upd r (prc L p dp)
def zbb {α:Type} (H:Heap) (r:Nat) (L:TS) (dp:Nat) (x:PR α) (f:α→AV) (v:AV) (H':Heap):Prop:=∃ a t',x=.ok (a,t')∧v=f a∧Pat H r L t' dp H'
def zbt {α:Type} (x:PR α) (v:AV) (_:Heap):Prop:=∃ n,x=.error n∧v=yt n
abbrev zk:Nat:=1000000
abbrev RpE {α:Type} (H:Heap) (r:Nat) (L:TS) (dp:Nat) (x:PR α) (f:α→AV):AEnd→Heap→Prop:=fun e H'=>match e with|.ret v=>zbb H r L dp x f v H'|.pan v=>zbt x v H'
theorem Pat.again {H H1 H2:Heap} {r:Nat} {L t t':TS} {dp dp':Nat} (h:Pat H r L t dp H1) (h':Pat H1 r L t' dp' H2):Pat H r L t' dp' H2:=by
 obtain⟨p,_,rfl⟩:=h
 obtain⟨q,hq,rfl⟩:=h'
 exact⟨q,hq,upd_upd ..⟩
theorem Pat.at {H H1:Heap} {r:Nat} {L t:TS} {dp:Nat} (h:Pat H r L t dp H1):∃ p,p++t=L∧H1 r=some (prc L p dp):=by
 obtain⟨p,hp,rfl⟩:=h
 exact⟨p,hp,upd_same ..⟩
theorem Pat.self {H:Heap} {r:Nat} {L p t:TS} {dp:Nat} (hs:p++t=L) (hr:H r=some (prc L p dp)):Pat H r L t dp H :=
 ⟨p,hs,by funext c;by_cases e:c=r<;>simp[Heap.upd,e,hr]⟩
structure KI (H:Heap) (r:Nat) (L t:TS) (dp:Nat) (H1:Heap):Prop where
 keep:∀ c x,c≠r→H c=some x→H1 c=some x
 here:∃ p,p++t=L∧H1 r=some (prc L p dp)
 hr:∃ x,H r=some x
theorem KI.start {H:Heap} {r:Nat} {L p t:TS} {dp:Nat} (hs:p++t=L) (hr:H r=some (prc L p dp)):KI H r L t dp H:=⟨fun _ _ _ h=>h,⟨p,hs,hr⟩,⟨_,hr⟩⟩
theorem KI.call {H H1 H2:Heap} {r:Nat} {L t t':TS} {dp dp':Nat} (h:KI H r L t dp H1) (ha:Pat H1 r L t' dp' H2):KI H r L t' dp' H2:=by
 obtain⟨q,hq,rfl⟩:=ha
 exact⟨fun c x hc hx=>by rw[upd_ne hc];exact h.keep c x hc hx,⟨q,hq,upd_same ..⟩,h.hr⟩
theorem KI.ne {H H1:Heap} {r b:Nat} {L t:TS} {dp:Nat} (h:KI H r L t dp H1) (hb:H b=none):r≠b:=fun e=>by
 subst e;obtain⟨x,hx⟩:=h.hr;rw[hb] at hx;cases hx
theorem KI.none {H H1:Heap} {r b:Nat} {L t:TS} {dp:Nat} (h:KI H r L t dp H1) (hb:H1 b=.none):H b=.none:=by
 cases hx:H b with
 | none=>rfl
 | some x =>
  by_cases e:b=r
  ·subst e;obtain⟨p,_,h2⟩:=h.here;rw[hb] at h2;cases h2
  ·have:=h.keep b x e hx;rw[hb] at this;cases this
theorem KI.box {H H1:Heap} {r b:Nat} {L t:TS} {dp:Nat} {x:AObj} (h:KI H r L t dp H1) (hb:H b=.none):KI H r L t dp (H1.upd b x):=by
 obtain⟨p,hp,h2⟩:=h.here
 exact⟨fun c y hc hy=>by rw[upd_ne (fun e=>by subst e;rw[hb] at hy;cases hy)];exact h.keep c y hc hy,⟨p,hp,by rw[upd_ne (h.ne hb)];exact h2⟩,h.hr⟩
theorem KI.low {H H1:Heap} {r:Nat} {L t:TS} {dp:Nat} (h:KI H r L t dp H1):∃ H2,Low H2 H1∧Pat H r L t dp H2:=by
 obtain⟨p,hp,h1⟩:=h.here
 refine⟨_,Low.of_sub fun c x hc=>?_,p,hp,rfl⟩
 by_cases e:c=r
 ·subst e;rw[upd_same] at hc;rw[← hc];exact h1
 ·rw[upd_ne e] at hc;exact h.keep c x e hc
structure KO (H:Heap) (r:Nat) (L t:TS) (dp:Nat) (H1:Heap) (o:Own) (n sz:Nat):Prop extends KI H r L t dp H1 where
 own:Owned H1 o n sz
 tip:∀ b d,o=.tip b d→H b=.none
theorem KO.call {H H1 H2:Heap} {r:Nat} {L t t':TS} {dp dp':Nat} {o:Own} {n sz:Nat} (h:KO H r L t dp H1 o n sz) (ha:Pat H1 r L t' dp' H2):KO H r L t' dp' H2 o n sz:=by
 obtain⟨p,hp,h1⟩:=h.here
 refine⟨h.toKI.call ha,?_,h.tip⟩
 obtain⟨q,hq,rfl⟩:=ha
 exact yC h.own h1
theorem KO.box {H H1:Heap} {r b:Nat} {L t:TS} {dp:Nat} {o:Own} {n sz:Nat} {cs cs':List AV} (h:KO H r L t dp H1 o n sz) (hb:H b=.none) (h1:H1 b=some (.cells cs)):KO H r L t dp (H1.upd b (.cells cs')) o n sz :=
 ⟨h.toKI.box hb,yC h.own h1,h.tip⟩
theorem KO.app {H H1 H2:Heap} {r:Nat} {L t:TS} {dp:Nat} {o o':Own} {n n' sz:Nat} (h:KO H r L t dp H1 o n sz) (hs:OwnS H1 o H2 o' n' sz):KO H r L t dp H2 o' n' sz:=by
 obtain⟨p,hp,h1⟩:=h.here
 refine⟨⟨fun c x hc hx=>hs.kept c x (h.keep c x hc hx) fun d e=>?_,⟨p,hp,zv h.own h1 hs.kept⟩,h.hr⟩,hs.own,fun b d e=>?_⟩
 ·have:=h.tip c d e;rw[hx] at this;cases this
 ·rcases hs.new b d e with h2|⟨d0,e2⟩
  ·exact h.toKI.none h2
  ·exact h.tip b d0 e2
theorem KO.stay {H H1 H2:Heap} {r b:Nat} {L t:TS} {dp:Nat} {o o':Own} {n n' sz:Nat} {cs:List AV} (h:KO H r L t dp H1 o n sz) (hs:OwnS H1 o H2 o' n' sz) (hb:H1 b=some (.cells cs)):H2 b=some (.cells cs) :=
 zv h.own hb hs.kept
theorem KI.done {α:Type} {H:Heap} {r:Nat} {L:TS} {dp:Nat} {x:PR α} {f:α→AV} {Q:AExit→Env→Heap→Prop} {res:List ARes}
  (hQ:∀ e ρ H1 H2 vs,(∀ i,e≠.exit i)→resvs ρ H1 res=some vs→Low H2 H1→zbb H r L dp x f (tupOf vs).strip H2→Q e ρ H1)
  (ρ1:Env) (H1:Heap) (vs:List AV) (a:α) (t':TS) (h1:resvs ρ1 H1 res=some vs) (h2:x=.ok (a,t')) (h3:KI H r L t' dp H1) (h4:(tupOf vs).strip=f a):Q .ret ρ1 H1:=by
 obtain⟨H2,hl,ha⟩:=h3.low
 exact hQ .ret ρ1 H1 H2 vs nofun h1 hl ⟨a,t',h2,h4,ha⟩
theorem Zp:∀ L:TS,L.length≤wT L
 | []=>Al4 _
 | x::L=>by have:=Zp L;rw[ze0];simp only[Al2,wK];omega
theorem zlE {p t L:TS} (h:p++t=L):(hdT t).s.length≤wT L:=by
 subst h
 cases t with
 | nil=>simp[hdT]
 | cons x t =>
  have:wT (p++x::t)=wT p+wT (x::t):=by simp[wT]
  rw[this,ze0];simp only[hdT,List.headD_cons,wK];omega
theorem Pat.other {H H1:Heap} {r c:Nat} {L t:TS} {dp:Nat} (h:Pat H r L t dp H1) (hc:c≠r):H1 c=H c:=by
 obtain⟨p,_,rfl⟩:=h
 exact upd_ne hc
theorem zaA (H:Heap) (r:Nat) (n:Int):ACalls Tryz.prog 75 [.ptr r 0,.int .i64 n] H (fun e H'=>match e with|.ret v=>False|.pan v=>v=yt n):=by
 refine ACalls.goO (R:=fun _ _=>False) (RP:=fun v _=>v=yt n) ir75 ck75 (Al4 _) fun KP Q hQ hP=>?_
 simp(disch:=omega) only[ir75,go_sem]
 exact hP _ _ H (Low.refl _) rfl
section
variable {H:Heap} {r:Nat} {L p t:TS} {dp:Nat}
theorem zic (hs:p++t=L) (hr:H r=some (prc L p dp)):ACalls Tryz.prog 43 [.ptr r 0] H (fun e H'=>∃ v,e=.ret v∧(v=.bool (decide (t≠[]))∧H'=H)):=by
 refine ACalls.go ir43 ck43 (Al4 _) fun KP Q hQ=>?_
 simp only[prc] at hr
 have hcl:=za5 L
 have hlen:p.length+t.length=L.length:=by rw[← hs];simp
 simp(disch:=omega) only[ir43,hr,hcl,go_sem]
 cases t with
 | nil =>
  have h1:¬ ((p.length:Int)<(L.length:Int)):=by simp at hlen;omega
  simp(disch:=omega) only[h1,go_sem]
  exact hQ _ _ _ _ [_] nofun rfl (Low.refl _) ⟨(by simp[tupOf,envOf,AV.strip,AV.strip1]),rfl⟩
 | cons c u =>
  have h1:((p.length:Int)<(L.length:Int))=True:=eq_true (by simp at hlen;omega)
  simp(disch:=omega) only[h1,go_sem]
  exact hQ _ _ _ _ [_] nofun rfl (Low.refl _) ⟨(by simp[tupOf,envOf,AV.strip,AV.strip1]),rfl⟩
theorem zfW (hs:p++t=L) (hr:H r=some (prc L p dp)):ACalls Tryz.prog 76 [.ptr r 0] H (fun e H'=>∃ v,e=.ret v∧(v=zw (hdT t)∧H'=H)):=by
 refine ACalls.go ir76 ck76 (Al4 _) fun KP Q hQ=>?_
 have hcl:=za5 L
 have hlen:p.length+t.length=L.length:=by rw[← hs];simp
 simp(disch:=omega) only[ir76,go_sem]
 refine goA_intro fun b hb=>?_
 have hbr:r≠b:=fun e=>by subst e;rw[hb] at hr;cases hr
 have hr2:(H.upd b (.cells [.int .i64 0,.str []])) r=some (prc L p dp):=by rw[upd_ne hbr];exact hr
 simp(disch:=omega) only[go_sem]
 refine goK_ret (zic hs hr2) fun v H1 ⟨hv,hH⟩=>?_
 subst hv;subst hH
 have hlow:∀ x,Low H (H.upd b x):=fun x=>(Low.refl _).upd hb
 cases t with
 | nil =>
  simp(disch:=omega) only[go_sem]
  exact hQ _ _ _ H [.agg [.int .i64 0,.str []]] nofun (by simp(disch:=omega) only[ir76,resvs,resv,go_sem]) (hlow _) ⟨rfl,rfl⟩
 | cons c u =>
  simp only[prc] at hr2
  have h1:((p.length:Int)<(L.length:Int))=True:=eq_true (by simp at hlen;omega)
  have hg:(cKs L).getD p.length []=[.int .i64 c.k,.str c.s]:=by rw[← hs];simp[cKs,cK]
  simp(disch:=omega) only[hr2,hcl,h1,hg,go_sem]
  exact hQ _ _ _ H [.agg [.int .i64 c.k,.str c.s]] nofun (by simp(disch:=omega) only[ir76,resvs,resv,go_sem]) (hlow _) ⟨rfl,rfl⟩
theorem zlw (hs:p++t=L) (hr:H r=some (prc L p dp)) (m:List UInt8):ACalls Tryz.prog 97 [.ptr r 0,.str m] H (fun e H'=>∃ v,e=.ret v∧(v=.bool (isP m t)∧H'=H)):=by
 refine ACalls.go ir97 ck97 (Al4 _) fun KP Q hQ=>?_
 simp(disch:=omega) only[ir97,go_sem]
 refine goK_ret (zfW hs hr) fun v H1 ⟨hv,hH⟩=>?_
 subst hv;subst hH
 simp(disch:=omega) only[zw,fitsAll,K1.fits,keqs,AV.keq1,Bool.and_true,go_sem]
 exact hQ _ _ _ _ [_] nofun rfl (Low.refl _) ⟨by simp[tupOf,envOf,AV.strip,AV.strip1,isP],rfl⟩
theorem zlO (hs:p++t=L) (hr:H r=some (prc L p dp)) (m:List UInt8):ACalls Tryz.prog 158 [.ptr r 0,.str m] H (fun e H'=>∃ v,e=.ret v∧(v=.bool (isW m t)∧H'=H)):=by
 refine ACalls.go ir158 ck158 (Al4 _) fun KP Q hQ=>?_
 simp(disch:=omega) only[ir158,go_sem]
 refine goK_ret (zfW hs hr) fun v H1 ⟨hv,hH⟩=>?_
 subst hv;subst hH
 simp(disch:=omega) only[zw,fitsAll,K1.fits,keqs,AV.keq1,Bool.and_true,go_sem]
 exact hQ _ _ _ _ [_] nofun rfl (Low.refl _) ⟨by simp[tupOf,envOf,AV.strip,AV.strip1,isW],rfl⟩
theorem zhV (hs:p++t=L) (hk:(hdT t).k≠0):(p++[hdT t])++t.tail=L:=by
 rw[zcP,List.singleton_append,← zcT hk];exact hs
theorem Yh (hs:p++t=L) (hk:(hdT t).k≠0) (H:Heap):Pat H r L t.tail dp (H.upd r (.cells [.sl .no 2 (cKs L),.int .i64 ((p.length:Int)+1),.int .i64 (dp:Int)])) :=
 ⟨p++[hdT t],zhV hs hk,by simp[prc]⟩
def Zu (m:List UInt8) (t:TS):TS:=if isP m t then t.tail else t
theorem zbe (hs:p++t=L) (hl:L.length≤zk) (hr:H r=some (prc L p dp)) (m:List UInt8):ACalls Tryz.prog 98 [.ptr r 0,.str m] H (fun e H'=>∃ v,e=.ret v∧(v=.bool (isP m t)∧Pat H r L (Zu m t) dp H')):=by
 refine ACalls.go ir98 ck98 (Al4 _) fun KP Q hQ=>?_
 simp only[zk] at hl
 have hlen:p.length+t.length=L.length:=by rw[← hs];simp
 simp(disch:=omega) only[ir98,go_sem]
 refine goK_ret (zlw hs hr m) fun v H1 ⟨hv,hH⟩=>?_
 subst hv;subst hH
 have hr':=hr
 simp only[prc] at hr'
 cases hi:isP m t with
 | true =>
  simp(disch:=omega) only[hr',wrap64,go_sem]
  refine hQ _ _ _ _ [_] nofun rfl (Low.refl _) ⟨(by simp[tupOf,envOf,AV.strip,AV.strip1,hi]),?_⟩
  simp only[Zu,hi,if_true]
  exact Yh hs (zdS hi) _
 | false =>
  simp(disch:=omega) only[go_sem]
  refine hQ _ _ _ _ [_] nofun rfl (Low.refl _) ⟨(by simp[tupOf,envOf,AV.strip,AV.strip1,hi]),?_⟩
  simp only[Zu,hi,Al7,if_false]
  exact Pat.self hs hr
theorem zlL (hs:p++t=L) (hl:L.length≤zk) (hr:H r=some (prc L p dp)) (m:List UInt8):ACalls Tryz.prog 100 [.ptr r 0,.str m] H (fun e H'=>∃ v,e=.ret v∧(v=.bool (isW m t)∧Pat H r L (z1 m t) dp H')):=by
 refine ACalls.go ir100 ck100 (Al4 _) fun KP Q hQ=>?_
 simp only[zk] at hl
 have hlen:p.length+t.length=L.length:=by rw[← hs];simp
 simp(disch:=omega) only[ir100,go_sem]
 refine goK_ret (zlO hs hr m) fun v H1 ⟨hv,hH⟩=>?_
 subst hv;subst hH
 have hr':=hr
 simp only[prc] at hr'
 cases hi:isW m t with
 | true =>
  simp(disch:=omega) only[hr',wrap64,go_sem]
  refine hQ _ _ _ _ [_] nofun rfl (Low.refl _) ⟨(by simp[tupOf,envOf,AV.strip,AV.strip1,hi]),?_⟩
  simp only[z1,hi,if_true]
  exact Yh hs (zjn hi) _
 | false =>
  simp(disch:=omega) only[go_sem]
  refine hQ _ _ _ _ [_] nofun rfl (Low.refl _) ⟨(by simp[tupOf,envOf,AV.strip,AV.strip1,hi]),?_⟩
  simp only[z1,hi,Al7,if_false]
  exact Pat.self hs hr
theorem zfb (hs:p++t=L) (hl:L.length≤zk) (hr:H r=some (prc L p dp)) (m:List UInt8):ACalls Tryz.prog 84 [.ptr r 0,.str m] H (RpE H r L dp (yk m t) fun _=>.tup []):=by
 refine ACalls.goO ir84 ck84 (Al4 _) fun KP Q hQ hP=>?_
 simp(disch:=omega) only[ir84,go_sem]
 refine goK_ret (zbe hs hl hr m) fun v H1 ⟨hv,hH⟩=>?_
 subst hv
 cases hi:isP m t with
 | true =>
  rw[Zu,hi] at hH
  simp(disch:=omega) only[go_sem]
  exact hQ _ _ _ _ [] nofun rfl (Low.refl _) ⟨(),t.tail,by unfold yk;rw[hi];rfl,rfl,hH⟩
 | false =>
  simp(disch:=omega) only[go_sem]
  exact goK_both (zaA H1 r 2) (fun _ _ h=>h.elim) fun v H2 h=>hP v H2 H2 (Low.refl _) ⟨2,by unfold yk;rw[hi];rfl,h⟩
theorem zdq (hs:p++t=L) (hl:L.length≤zk) (hr:H r=some (prc L p dp)):ACalls Tryz.prog 85 [.ptr r 0] H (RpE H r L dp (ya t) AV.str):=by
 refine ACalls.goO ir85 ck85 (Al4 _) fun KP Q hQ hP=>?_
 simp only[zk] at hl
 have hlen:p.length+t.length=L.length:=by rw[← hs];simp
 simp(disch:=omega) only[ir85,go_sem]
 refine goK_ret (zfW hs hr) fun v H1 ⟨hv,hH⟩=>?_
 subst hv;subst hH
 simp(disch:=omega) only[go_sem]
 refine goA_intro fun b hb=>?_
 have hbr:r≠b:=fun e=>by subst e;rw[hb] at hr;cases hr
 have hr':=hr
 simp only[prc] at hr'
 by_cases hk:(hdT t).k=2
 ·have hk':((hdT t).k=2)=True:=eq_true hk
  simp(disch:=omega) only[zw,hk',hr',hbr,Ne.symm hbr,wrap64,go_sem]
  refine hQ _ _ _ (H1.upd r (.cells [.sl .no 2 (cKs L),.int .i64 ((p.length:Int)+1),.int .i64 (dp:Int)])) [_] nofun rfl ?_ ⟨(hdT t).s,t.tail,by unfold ya;rw[if_pos hk],(by simp[tupOf,envOf,AV.strip,AV.strip1]),Yh hs (by rw[hk];decide) _⟩
  refine Low.of_sub fun c x hc=>?_
  by_cases e:c=r
  ·subst e;rw[upd_same] at hc ⊢;exact hc
  ·rw[upd_ne e] at hc ⊢
   rw[upd_ne (fun e2=>by subst e2;rw[hb] at hc;cases hc)];exact hc
 ·simp(disch:=omega) only[zw,hk,go_sem]
  exact goK_both (zaA _ r 2) (fun _ _ h=>h.elim) fun v H2 h=>hP v H2 H2 (Low.refl _) ⟨2,by unfold ya;rw[if_neg hk],h⟩
theorem zjf (hs:p++t=L) (hl:L.length≤zk) (hd:dp≤16) (hr:H r=some (prc L p dp)) (m:List UInt8):ACalls Tryz.prog 81 [.ptr r 0,.str m] H
  (fun e H'=>match e with
   | .ret v=>v=.bool (isP m t)∧(isP m t=true→dp<16∧Pat H r L t.tail (dp+1) H')∧(isP m t=false→Pat H r L t dp H')
   | .pan v=>isP m t=true∧dp=16∧v=yt 4):=by
 refine ACalls.goO (R:=fun v H'=>v=.bool (isP m t)∧(isP m t=true→dp<16∧Pat H r L t.tail (dp+1) H')∧(isP m t=false→Pat H r L t dp H')) (RP:=fun v _=>isP m t=true∧dp=16∧v=yt 4) ir81 ck81 (Al4 _) fun KP Q hQ hP=>?_
 have hlen:p.length+t.length=L.length:=by rw[← hs];simp
 simp(disch:=omega) only[ir81,go_sem]
 refine goK_ret (zlw hs hr m) fun v H1 ⟨hv,hH⟩=>?_
 subst hv;subst hH
 have hr':=hr
 simp only[prc] at hr'
 cases hi:isP m t with
 | true =>
  by_cases h16:(16:Int)≤(dp:Int)
  ·simp(disch:=omega) only[hr',h16,go_sem]
   exact goK_both (zaA _ r 4) (fun _ _ h=>h.elim) fun v H2 h=>hP v H2 H2 (Low.refl _) ⟨hi,by omega,h⟩
  ·simp(disch:=omega) only[hr',h16,go_sem]
   refine goK_ret (zbe hs hl hr m) fun v H2 ⟨hv,hH⟩=>?_
   subst hv
   rw[Zu,hi] at hH
   obtain⟨q,hq,h2⟩:=hH.at
   simp only[prc] at h2
   rw[hi]
   simp(disch:=omega) only[h2,wrap64,go_sem]
   exact hQ _ _ _ _ [_] nofun rfl (Low.refl _) ⟨(by simp[tupOf,envOf,AV.strip,AV.strip1,hi]),fun _=>⟨by omega,hH.again ⟨q,hq,by simp[prc]⟩⟩,fun h=>(by rw[hi] at h;cases h)⟩
 | false =>
  simp(disch:=omega) only[go_sem]
  refine goK_ret (zbe hs hl hr m) fun v H2 ⟨hv,hH⟩=>?_
  subst hv
  rw[Zu,hi] at hH
  rw[hi]
  simp(disch:=omega) only[go_sem]
  exact hQ _ _ _ _ [_] nofun rfl (Low.refl _) ⟨(by simp[tupOf,envOf,AV.strip,AV.strip1,hi]),fun h=>(by rw[hi] at h;cases h),fun _=>by simpa using hH⟩
theorem zgP (hs:p++t=L) (hl:L.length≤zk) (hd:1≤dp∧dp≤16) (hr:H r=some (prc L p dp)) (m:List UInt8):ACalls Tryz.prog 82 [.ptr r 0,.str m] H
  (fun e H'=>∃ v,e=.ret v∧(v=.bool (isP m t)∧(isP m t=true→Pat H r L t.tail (dp-1) H')∧(isP m t=false→Pat H r L t dp H'))):=by
 refine ACalls.go ir82 ck82 (Al4 _) fun KP Q hQ=>?_
 simp(disch:=omega) only[ir82,go_sem]
 refine goK_ret (zbe hs hl hr m) fun v H2 ⟨hv,hH⟩=>?_
 subst hv
 cases hi:isP m t with
 | true =>
  rw[Zu,hi] at hH
  obtain⟨q,hq,h2⟩:=hH.at
  simp only[prc] at h2
  simp(disch:=omega) only[h2,wrap64,go_sem]
  refine hQ _ _ _ _ [_] nofun rfl (Low.refl _) ⟨(by simp[tupOf,envOf,AV.strip,AV.strip1,hi]),fun _=>hH.again ⟨q,hq,?_⟩,fun h=>(by rw[hi] at h;cases h)⟩
  have e:((dp-1:Nat):Int)=(dp:Int)-1:=by omega
  simp only[prc,e]
 | false =>
  rw[Zu,hi] at hH
  simp(disch:=omega) only[go_sem]
  exact hQ _ _ _ _ [_] nofun rfl (Low.refl _) ⟨(by simp[tupOf,envOf,AV.strip,AV.strip1,hi]),fun h=>(by rw[hi] at h;cases h),fun _=>by simpa using hH⟩
end
end Go.Proofs.YtaielcdfcgpbiaaGreatDoor
