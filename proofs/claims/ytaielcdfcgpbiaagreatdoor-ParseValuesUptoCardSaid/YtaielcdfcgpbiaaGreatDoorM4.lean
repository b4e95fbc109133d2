import Derived.JoinedOf
import Derived.Lib.ItoaMem
import Derived.Lib.ParseIntBTie
import Derived.Lib.ItoaLen
import Derived.Test.YtaielcdfcgpbiaaGreatDoorM1
import Derived.Test.YtaielcdfcgpbiaaGreatDoorM2
import Derived.Test.YtaielcdfcgpbiaaGreatDoorM3
set_option maxRecDepth 100000
set_option linter.all false
namespace Go.Proofs.YtaielcdfcgpbiaaGreatDoor
open Go.Ab
mutual
inductive Val where
 | mk (k n:Int) (s:List UInt8) (l:List Val) (m:List Mem)
inductive Mem where
 | mk (name:List UInt8) (v:Val)
end
mutual
def cV:Val→List AV
 | .mk k n s l m=>[.int .i64 k,.int .i64 n,.str s,.sl .no 5 (cVs l),.sl .no 6 (cMs m)]
def cVs:List Val→List (List AV)
 | []=>[]
 | v::r=>cV v::cVs r
def cM:Mem→List AV
 | .mk s v=>.str s::cV v
def cMs:List Mem→List (List AV)
 | []=>[]
 | x::r=>cM x::cMs r
end
theorem YZ:∀ l,cVs l=l.map cV
 | []=>rfl
 | v::r=>by rw[cVs,YZ r];rfl
theorem Yc:∀ l,cMs l=l.map cM
 | []=>rfl
 | v::r=>by rw[cMs,Yc r];rfl
theorem zbC (l:List Val):(cVs l).length=l.length:=by rw[YZ];simp
theorem zaM (l:List Mem):(cMs l).length=l.length:=by rw[Yc];simp
theorem zeZ {l a:List Val} {x:Val} {b:List Val} (h:l=a++x::b):(cVs l).getD a.length []=cV x:=by rw[YZ,getD_mid' h]
theorem ze8 {l a:List Mem} {x:Mem} {b:List Mem} (h:l=a++x::b):(cMs l).getD a.length []=cM x:=by rw[Yc,getD_mid' h]
theorem zdI (k n:Int) (s:List UInt8) (l:List Val) (m:List Mem):cV (.mk k n s l m)=[.int .i64 k,.int .i64 n,.str s,.sl .no 5 (cVs l),.sl .no 6 (cMs m)]:=rfl
theorem zq (s:List UInt8) (v:Val):cM (.mk s v)=.str s::cV v:=rfl
theorem yk (v:Val):(cV v).map AV.strip1=cV v:=by cases v;rfl
theorem Yu (v:Mem):(cM v).map AV.strip1=cM v:=by cases v with|mk s v=>cases v;rfl
theorem zbs (l:List Val):(cVs l).map (·.map AV.strip1)=cVs l:=by
 rw[YZ,List.map_map];exact List.map_congr_left fun v _=>yk v
theorem YM (l:List Mem):(cMs l).map (·.map AV.strip1)=cMs l:=by
 rw[Yc,List.map_map];exact List.map_congr_left fun v _=>Yu v
mutual
theorem Val.ind {P:Val→Prop} (h:∀ k n s l m,(∀ v∈l,P v)→(∀ s v,Mem.mk s v∈m→P v)→P (.mk k n s l m)):∀ v,P v
 | .mk k n s l m=>h k n s l m (Val.indL h l) (fun s v hm=>Val.indM h m s v hm)
theorem Val.indL {P:Val→Prop} (h:∀ k n s l m,(∀ v∈l,P v)→(∀ s v,Mem.mk s v∈m→P v)→P (.mk k n s l m)):∀ l:List Val,∀ v∈l,P v
 | [],_,hv=>by cases hv
 | x::r,v,hv=>(List.mem_cons.1 hv).elim (fun e=>e▸Val.ind h x) (Val.indL h r v)
theorem Val.ind1 {P:Val→Prop} (h:∀ k n s l m,(∀ v∈l,P v)→(∀ s v,Mem.mk s v∈m→P v)→P (.mk k n s l m)):∀ m:Mem,∀ s v,m=.mk s v→P v
 | .mk s v,s',v',e=>by cases e;exact Val.ind h v
theorem Val.indM {P:Val→Prop} (h:∀ k n s l m,(∀ v∈l,P v)→(∀ s v,Mem.mk s v∈m→P v)→P (.mk k n s l m)):∀ l:List Mem,∀ s v,Mem.mk s v∈l→P v
 | [],_,_,hv=>by cases hv
 | x::r,s,v,hv=>(List.mem_cons.1 hv).elim (fun e=>Val.ind1 h x s v e.symm) (Val.indM h r s v)
end
theorem zi (v:Val):(cV v).length=5:=by cases v;rfl
theorem zj (x:Mem):(cM x).length=6:=by cases x with|mk s v=>cases v;rfl
theorem zd (v:Val):(cV v).take 5=cV v:=by cases v;rfl
theorem ze (x:Mem):(cM x).take 6=cM x:=by cases x with|mk s v=>cases v;rfl
theorem zb (a b c d e:AV) (v:Val):splice [a,b,c,d,e] 0 (cV v)=cV v:=by cases v;rfl
theorem za (a b c d e f:AV) (x:Mem):splice [a,b,c,d,e,f] 0 (cM x)=cM x:=by cases x with|mk s v=>cases v;rfl
mutual
def bV:Val→Nat
 | .mk _ _ s l m=>1+s.length+bVs l+bMs m
def bVs:List Val→Nat
 | []=>0
 | v::r=>bV v+bVs r
def bM:Mem→Nat
 | .mk s v=>s.length+bV v
def bMs:List Mem→Nat
 | []=>0
 | x::r=>bM x+bMs r
end
theorem zf7 (v:Val):1≤bV v:=by cases v;simp only[bV];omega
theorem zi2 (v:Mem):1≤bM v:=by cases v with|mk s v=>have:=zf7 v;simp only[bM];omega
theorem zfb:∀ l,l.length≤bVs l
 | []=>by simp
 | v::r=>by have:=zfb r;have:=zf7 v;simp only[bVs,Al2];omega
theorem ze3:∀ l,l.length≤bMs l
 | []=>by simp
 | v::r=>by have:=ze3 r;have:=zi2 v;simp only[bMs,Al2];omega
theorem zhY (a:List Val) (x:Val) (b:List Val):bVs (a++x::b)=bVs a+bV x+bVs b:=by
 induction a with
 | nil=>simp[bVs]
 | cons y a ih=>simp only[Al6,bVs,ih];omega
theorem zib (a:List Mem) (x:Mem) (b:List Mem):bMs (a++x::b)=bMs a+bM x+bMs b:=by
 induction a with
 | nil=>simp[bMs]
 | cons y a ih=>simp only[Al6,bMs,ih];omega
abbrev Lim:Nat:=1099511627776
noncomputable def eqd {α:Type} (a b:α):Bool:=@decide (a=b) (Classical.propDecidable _)
theorem ZZ {α:Type} {a b:α} (h:a=b):eqd a b=true:=by simp[eqd,h]
theorem z1 {α:Type} {a b:α} (h:a≠b):eqd a b=false:=by simp[eqd,h]
def cT (l:List (List UInt8)):List (List AV):=l.map fun k=>[.str k]
theorem zi8 (l:List (List UInt8)):(cT l).length=l.length:=by simp[cT]
theorem zfc {α:Type} {a b done rest:List α} {x:α} (h:a=done++x::rest) (hl:a.length=b.length) (hp:b.take done.length=done):∃ y r,b=done++y::r:=by
 have h1:done.length<b.length:=by rw[← hl,h];simp
 refine⟨b[done.length],b.drop (done.length+1),?_⟩
 conv=>lhs;rw[← List.take_append_drop done.length b,hp,List.drop_eq_getElem_cons h1]
theorem zdO {α:Type} {b done r:List α} {y:α} (h:b=done++y::r):b.take (done++[y]).length=done++[y]:=by
 subst h
 have e:done++y::r=(done++[y])++r:=by simp
 rw[e,List.take_left'];rfl
theorem zfj {α:Type} {a b:List α} (hl:a.length=b.length) (hp:b.take a.length=a):a=b:=by
 rw[hl,List.take_length] at hp;exact hp.symm
theorem zgV {α:Type} {a b done rest r:List α} {x y:α} (h:a=done++x::rest) (h':b=done++y::r) (hxy:x≠y):a≠b:=fun e=>by
 rw[h,h'] at e
 exact hxy (List.cons.inj (List.append_cancel_left e)).1
def zV:Val:=.mk 0 0 [] [] []
theorem zjF (n:Int):Pure Tryz.prog 79 [.int .i64 n] (.agg (cV (.mk 2 n [] [] []))):=by
 refine Pure.go ir79 ck79 (Al4 _) fun KP Q hQ=>?_
 simp(disch:=first|omega|assumption) only[ir79,go_sem]
 refine goA_intro fun b hb=>?_
 simp(disch:=first|omega|assumption) only[go_sem]
 exact hQ _ _ _ [.agg [.int .i64 2,.int .i64 n,.str [],.sl .nil 5 [],.sl .nil 6 []]] nofun (by simp(disch:=first|omega|assumption) only[ir79,resvs,resv,go_sem]) rfl
theorem zj9 (n:Int):Pure Tryz.prog 90 [.int .i64 n] (.agg (cV (.mk 2 n [] [] []))):=by
 refine Pure.go ir90 ck90 (Al4 _) fun KP Q hQ=>?_
 simp(disch:=first|omega|assumption) only[ir90,go_sem]
 refine goA_intro fun b hb=>?_
 simp(disch:=first|omega|assumption) only[go_sem]
 exact hQ _ _ _ [.agg [.int .i64 2,.int .i64 n,.str [],.sl .nil 5 [],.sl .nil 6 []]] nofun (by simp(disch:=first|omega|assumption) only[ir90,resvs,resv,go_sem]) rfl
theorem zjI (t:List UInt8):Pure Tryz.prog 80 [.str t] (.agg (cV (.mk 4 0 t [] []))):=by
 refine Pure.go ir80 ck80 (Al4 _) fun KP Q hQ=>?_
 simp(disch:=first|omega|assumption) only[ir80,go_sem]
 refine goA_intro fun b hb=>?_
 simp(disch:=first|omega|assumption) only[go_sem]
 exact hQ _ _ _ [.agg [.int .i64 4,.int .i64 0,.str t,.sl .nil 5 [],.sl .nil 6 []]] nofun (by simp(disch:=first|omega|assumption) only[ir80,resvs,resv,go_sem]) rfl
theorem zjE (t:List UInt8):Pure Tryz.prog 91 [.str t] (.agg (cV (.mk 4 0 t [] []))):=by
 refine Pure.go ir91 ck91 (Al4 _) fun KP Q hQ=>?_
 simp(disch:=first|omega|assumption) only[ir91,go_sem]
 refine goA_intro fun b hb=>?_
 simp(disch:=first|omega|assumption) only[go_sem]
 exact hQ _ _ _ [.agg [.int .i64 4,.int .i64 0,.str t,.sl .nil 5 [],.sl .nil 6 []]] nofun (by simp(disch:=first|omega|assumption) only[ir91,resvs,resv,go_sem]) rfl
structure Tok where
 k:Int
 s:List UInt8
def cK (t:Tok):List AV:=[.int .i64 t.k,.str t.s]
def cKs (l:List Tok):List (List AV):=l.map cK
theorem YX (l:List Tok):(cKs l).length=l.length:=by simp[cKs]
theorem zcE (l:List Tok):(cKs l).map (·.map AV.strip1)=cKs l:=by simp[cKs,cK,AV.strip1]
theorem zg7 (a b:List Mem) (ha:a.length≤Lim) (hc:∀ s v,Mem.mk s v∈a→∀ u,Pure Tryz.prog 15 [.agg (cV v),.agg (cV u)] (.bool (eqd v u))) :
  Pure Tryz.prog 40 [.sl .no 6 (cMs a),.sl .no 6 (cMs b)] (.bool (eqd a b)):=by
 refine Pure.go ir40 ck40 (Al4 _) fun KP Q hQ=>?_
 have h1:=zaM a
 have h2:=zaM b
 simp only[Lim] at ha
 by_cases hl:a.length=b.length
 case neg =>
  have hl':¬ ((a.length:Int)=b.length):=by omega
  have hne:a≠b:=fun e=>hl (by rw[e])
  simp(disch:=first|omega|assumption) only[ir40,h1,h2,hl',go_sem]
  exact hQ _ _ _ _ nofun rfl (by simp[tupOf,envOf,AV.strip,AV.strip1,z1 hne])
 have hl':((a.length:Int)=b.length)=True:=eq_true (by omega)
 simp(disch:=first|omega|assumption) only[ir40,h1,h2,hl',go_sem]
 refine goL_range a 5 (fun _:Unit=>[]) (fun done rest n H=>b.take done.length=done) () (by simp(disch:=first|omega|assumption) only[go_sem]) rfl ?_ ?_
 ·rintro n H J hp hlt
  simp(disch:=first|omega|assumption) only[h1,hlt,go_sem]
  exact hQ _ _ _ _ nofun rfl (by simp[tupOf,envOf,AV.strip,AV.strip1,ZZ (zfj hl hp)])
 ·rintro done x rest n H J hd hlt _ hp hJ
  obtain⟨y,r,hb⟩:=zfc hd hl hp
  have g1:=ze8 hd
  have g2:=ze8 hb
  have hlt2:(done.length:Int)<b.length:=by omega
  have hmem:x∈a:=by rw[hd];simp
  have hst:=zdO hb
  have hne:x≠y→a≠b:=zgV hd hb
  obtain⟨s,v⟩:=x
  obtain⟨t,u⟩:=y
  by_cases hs:s=t
  case neg =>
   have hne2:=hne (by simp[hs])
   simp(disch:=first|omega|assumption) only[zi,zd,zb,zj,ze,za,zq,h1,h2,hlt,hlt2,g1,g2,hs,go_sem]
   exact hQ _ _ _ _ nofun rfl (by simp[tupOf,envOf,AV.strip,AV.strip1,z1 hne2])
  simp(disch:=first|omega|assumption) only[zi,zd,zb,zj,ze,za,zq,h1,h2,hlt,hlt2,g1,g2,hs,go_sem]
  refine goK_pure (hc s v hmem u) ?_
  by_cases hv:v=u
  ·simp(disch:=first|omega|assumption) only[ZZ hv,go_sem]
   exact goJ (hJ () _ (by rw[hs,hv];exact hst)) (by simp(disch:=first|omega|assumption) only[wrap64,go_sem])
  ·have:=hne (by simp[hv])
   simp(disch:=first|omega|assumption) only[z1 hv,go_sem]
   exact hQ _ _ _ _ nofun rfl (by simp[tupOf,envOf,AV.strip,AV.strip1,z1 this])
theorem zjr:∀ v,bV v≤Lim→∀ u,Pure Tryz.prog 15 [.agg (cV v),.agg (cV u)] (.bool (eqd v u)):=by
 refine Val.ind fun k n s l m ihl ihm hb u=>?_
 obtain⟨k',n',s',l',m'⟩:=u
 have hb':1+s.length+bVs l+bMs m≤Lim:=hb
 have hll:=zfb l
 have hml:=ze3 m
 have il:∀ x∈l,∀ y,Pure Tryz.prog 15 [.agg (cV x),.agg (cV y)] (.bool (eqd x y)):=fun x hx y=>by
  obtain⟨a,b,hd⟩:=List.append_of_mem hx
  have:=zhY a x b
  rw[← hd] at this
  exact ihl x hx (by omega) y
 have im:∀ s v,Mem.mk s v∈m→∀ u,Pure Tryz.prog 15 [.agg (cV v),.agg (cV u)] (.bool (eqd v u)):=fun t v hx u=>by
  obtain⟨a,b,hd⟩:=List.append_of_mem hx
  have:=zib a (.mk t v) b
  rw[← hd] at this
  simp only[bM] at this
  exact ihm t v hx (by omega) u
 refine Pure.go ir15 ck15 (Al4 _) fun KP Q hQ=>?_
 have hlb:=zbC l
 have hlb':=zbC l'
 by_cases h1:k=k'
 case neg =>
  have hne:¬ (Val.mk k n s l m=Val.mk k' n' s' l' m'):=by simp[h1]
  simp(disch:=first|omega|assumption) only[ir15,zdI,h1,go_sem]
  exact hQ _ _ _ _ nofun rfl (by simp[tupOf,envOf,AV.strip,AV.strip1,z1 hne])
 by_cases h2:n=n'
 case neg =>
  have hne:¬ (Val.mk k n s l m=Val.mk k' n' s' l' m'):=by simp[h2]
  simp(disch:=first|omega|assumption) only[ir15,zdI,h1,h2,go_sem]
  exact hQ _ _ _ _ nofun rfl (by simp[tupOf,envOf,AV.strip,AV.strip1,z1 hne])
 by_cases h3:s=s'
 case neg =>
  have hne:¬ (Val.mk k n s l m=Val.mk k' n' s' l' m'):=by simp[h3]
  simp(disch:=first|omega|assumption) only[ir15,zdI,h1,h2,h3,go_sem]
  exact hQ _ _ _ _ nofun rfl (by simp[tupOf,envOf,AV.strip,AV.strip1,z1 hne])
 by_cases hl:l.length=l'.length
 case neg =>
  have hl':¬ ((l.length:Int)=l'.length):=by omega
  have hne:¬ (Val.mk k n s l m=Val.mk k' n' s' l' m'):=by simp only[Val.mk.injEq];rintro⟨_,_,_,e,_⟩;exact hl (by rw[e])
  simp(disch:=first|omega|assumption) only[ir15,zdI,h1,h2,h3,hlb,hlb',hl',go_sem]
  exact hQ _ _ _ _ nofun rfl (by simp[tupOf,envOf,AV.strip,AV.strip1,z1 hne])
 have hl':((l.length:Int)=l'.length)=True:=eq_true (by omega)
 simp(disch:=first|omega|assumption) only[ir15,zdI,h1,h2,h3,hlb,hlb',hl',go_sem]
 simp only[Lim] at hb'
 refine goL_range l 5 (fun _:Unit=>[]) (fun done rest n H=>l'.take done.length=done) () (by simp(disch:=first|omega|assumption) only[go_sem]) rfl ?_ ?_
 ·rintro _ H J hp hlt
  have e4:=zfj hl hp
  simp(disch:=first|omega|assumption) only[hlb,hlt,go_sem]
  refine goK_pure (zg7 m m' (by simp only[Lim];omega) im) ?_
  simp(disch:=first|omega|assumption) only[go_sem]
  have:eqd (Val.mk k n s l m) (Val.mk k' n' s' l' m')=eqd m m':=by
   by_cases h:m=m'
   ·rw[ZZ h,ZZ (by rw[h1,h2,h3,e4,h])]
   ·rw[z1 h,z1 (by simp[h])]
  exact hQ _ _ _ _ nofun rfl (by simp[tupOf,envOf,AV.strip,AV.strip1,this])
 ·rintro done x rest _ H J hd hlt _ hp hJ
  obtain⟨y,r,hb⟩:=zfc hd hl hp
  have g1:=zeZ hd
  have g2:=zeZ hb
  have hlt2:(done.length:Int)<l'.length:=by omega
  simp(disch:=first|omega|assumption) only[zi,zd,zb,zj,ze,za,zq,hlb,hlb',hlt,hlt2,g1,g2,go_sem]
  refine goK_pure (il x (by rw[hd];simp) y) ?_
  by_cases hxy:x=y
  ·simp(disch:=first|omega|assumption) only[ZZ hxy,go_sem]
   exact goJ (hJ () _ (by rw[hxy];exact zdO hb)) (by simp(disch:=first|omega|assumption) only[wrap64,go_sem])
  ·have hne:¬ (Val.mk k n s l m=Val.mk k' n' s' l' m'):=by simp only[Val.mk.injEq];rintro⟨_,_,_,e,_⟩;exact zgV hd hb hxy e
   simp(disch:=first|omega|assumption) only[z1 hxy,go_sem]
   exact hQ _ _ _ _ nofun rfl (by simp[tupOf,envOf,AV.strip,AV.strip1,z1 hne])
abbrev zjD (H:Heap) (o:Own) (sz:Nat) (xs:List (List AV)):AV→Heap→Prop:=fun v H'=>∃ o',v=.sl o' sz xs∧OwnS H o H' o' xs.length sz
abbrev zf4 (P:Program) (f:FuncId) (args:List AV) (H:Heap) (o:Own) (sz:Nat) (xs:List (List AV)):Prop :=
 ACalls P f args H (fun e H'=>match e with|.ret v=>zjD H o sz xs v H'|.pan _=>False)
theorem YQ {P:Program} {KP:AV→Heap→Prop} {Q:AExit→Env→Heap→Prop} {st:List Fr} {ρ:Env} {H:Heap} {all l:List AItem} {d:Option Nat} {R:List Chk} {f:FuncId} {args:List AV} {o:Own} {sz:Nat} {xs:List (List AV)}
  (h:zf4 P f args H o sz xs) (hk:∀ o' H',OwnS H o H' o' xs.length sz→goR P KP Q all l st R (ρ.set d (.sl o' sz xs)) H'):goK P KP Q all l st d R ρ f args H :=
 goK_both (XP:=fun _ _=>False) h (fun v H' ⟨o',e,hs⟩=>by subst e;exact hk o' H' hs) (fun _ _ h=>h.elim)
def isD (c:UInt8):Bool:=decide (48≤c.toNat)&&decide (c.toNat≤57)
def isL (c:UInt8):Bool:=(decide (97≤c.toNat)&&decide (c.toNat≤122))||((decide (65≤c.toNat)&&decide (c.toNat≤90))||decide (c.toNat=95))
theorem zek (c:UInt8):Pure Tryz.prog 126 [.int .u8 (c.toNat:Int)] (.bool (isD c)):=by
 refine Pure.go ir126 ck126 (Al4 _) fun KP Q hQ=>?_
 by_cases h:(48:Int)≤c.toNat
 ·simp(disch:=first|omega|assumption) only[ir126,h,go_sem]
  have h':48≤c.toNat:=by omega
  have e:decide ((c.toNat:Int)≤57)=decide (c.toNat≤57):=by rw[decide_eq_decide];omega
  exact hQ _ _ _ _ nofun rfl (by simp[tupOf,envOf,AV.strip,AV.strip1,isD,h',e])
 ·simp(disch:=first|omega|assumption) only[ir126,h,go_sem]
  have h':¬ 48≤c.toNat:=by omega
  exact hQ _ _ _ _ nofun rfl (by simp[tupOf,envOf,AV.strip,AV.strip1,isD,h'])
theorem zbX (c:UInt8):Pure Tryz.prog 147 [.int .u8 (c.toNat:Int)] (.bool (isD c)):=by
 refine Pure.go ir147 ck147 (Al4 _) fun KP Q hQ=>?_
 by_cases h:(48:Int)≤c.toNat
 ·simp(disch:=first|omega|assumption) only[ir147,h,go_sem]
  have h':48≤c.toNat:=by omega
  have e:decide ((c.toNat:Int)≤57)=decide (c.toNat≤57):=by rw[decide_eq_decide];omega
  exact hQ _ _ _ _ nofun rfl (by simp[tupOf,envOf,AV.strip,AV.strip1,isD,h',e])
 ·simp(disch:=first|omega|assumption) only[ir147,h,go_sem]
  have h':¬ 48≤c.toNat:=by omega
  exact hQ _ _ _ _ nofun rfl (by simp[tupOf,envOf,AV.strip,AV.strip1,isD,h'])
theorem zdi (c:UInt8):Pure Tryz.prog 123 [.int .u8 (c.toNat:Int)] (.bool (isL c)):=by
 refine Pure.go ir123 ck123 (Al4 _) fun KP Q hQ=>?_
 have e:decide ((c.toNat:Int)=95)=decide (c.toNat=95):=by rw[decide_eq_decide];omega
 by_cases h:(97:Int)≤c.toNat
 ·have h':97≤c.toNat:=by omega
  by_cases h2:(c.toNat:Int)≤122
  ·have h2':c.toNat≤122:=by omega
   simp(disch:=first|omega|assumption) only[ir123,h,h2,go_sem]
   exact hQ _ _ _ _ nofun rfl (by simp[tupOf,envOf,AV.strip,AV.strip1,isL,h',h2'])
  ·have h2':¬ c.toNat≤122:=by omega
   have h3:(65:Int)≤c.toNat:=by omega
   have h4:¬ (c.toNat:Int)≤90:=by omega
   have h4':¬ c.toNat≤90:=by omega
   simp(disch:=first|omega|assumption) only[ir123,h,h2,h3,h4,go_sem]
   exact hQ _ _ _ _ nofun rfl (by simp[tupOf,envOf,AV.strip,AV.strip1,isL,h',h2',h4',e])
 ·have h':¬ 97≤c.toNat:=by omega
  by_cases h3:(65:Int)≤c.toNat
  ·have h3':65≤c.toNat:=by omega
   by_cases h4:(c.toNat:Int)≤90
   ·have h4':c.toNat≤90:=by omega
    simp(disch:=first|omega|assumption) only[ir123,h,h3,h4,go_sem]
    exact hQ _ _ _ _ nofun rfl (by simp[tupOf,envOf,AV.strip,AV.strip1,isL,h',h3',h4'])
   ·have h4':¬ c.toNat≤90:=by omega
    simp(disch:=first|omega|assumption) only[ir123,h,h3,h4,go_sem]
    exact hQ _ _ _ _ nofun rfl (by simp[tupOf,envOf,AV.strip,AV.strip1,isL,h',h3',h4',e])
  ·have h3':¬ 65≤c.toNat:=by omega
   simp(disch:=first|omega|assumption) only[ir123,h,h3,go_sem]
   exact hQ _ _ _ _ nofun rfl (by simp[tupOf,envOf,AV.strip,AV.strip1,isL,h',h3',e])
theorem zdr (c:UInt8):Pure Tryz.prog 146 [.int .u8 (c.toNat:Int)] (.bool (isL c)):=by
 refine Pure.go ir146 ck146 (Al4 _) fun KP Q hQ=>?_
 have e:decide ((c.toNat:Int)=95)=decide (c.toNat=95):=by rw[decide_eq_decide];omega
 by_cases h:(97:Int)≤c.toNat
 ·have h':97≤c.toNat:=by omega
  by_cases h2:(c.toNat:Int)≤122
  ·have h2':c.toNat≤122:=by omega
   simp(disch:=first|omega|assumption) only[ir146,h,h2,go_sem]
   exact hQ _ _ _ _ nofun rfl (by simp[tupOf,envOf,AV.strip,AV.strip1,isL,h',h2'])
  ·have h2':¬ c.toNat≤122:=by omega
   have h3:(65:Int)≤c.toNat:=by omega
   have h4:¬ (c.toNat:Int)≤90:=by omega
   have h4':¬ c.toNat≤90:=by omega
   simp(disch:=first|omega|assumption) only[ir146,h,h2,h3,h4,go_sem]
   exact hQ _ _ _ _ nofun rfl (by simp[tupOf,envOf,AV.strip,AV.strip1,isL,h',h2',h4',e])
 ·have h':¬ 97≤c.toNat:=by omega
  by_cases h3:(65:Int)≤c.toNat
  ·have h3':65≤c.toNat:=by omega
   by_cases h4:(c.toNat:Int)≤90
   ·have h4':c.toNat≤90:=by omega
    simp(disch:=first|omega|assumption) only[ir146,h,h3,h4,go_sem]
    exact hQ _ _ _ _ nofun rfl (by simp[tupOf,envOf,AV.strip,AV.strip1,isL,h',h3',h4'])
   ·have h4':¬ c.toNat≤90:=by omega
    simp(disch:=first|omega|assumption) only[ir146,h,h3,h4,go_sem]
    exact hQ _ _ _ _ nofun rfl (by simp[tupOf,envOf,AV.strip,AV.strip1,isL,h',h3',h4',e])
  ·have h3':¬ 65≤c.toNat:=by omega
   simp(disch:=first|omega|assumption) only[ir146,h,h3,go_sem]
   exact hQ _ _ _ _ nofun rfl (by simp[tupOf,envOf,AV.strip,AV.strip1,isL,h',h3',e])
def zef:List UInt8→Nat→Bool
 | [],_=>true
 | c::r,i=>if isL c||(decide (i≠0)&&isD c) then zef r (i+1) else false
def zbV (s:List UInt8):Bool:=zef s 0&&decide (s≠[])
theorem zhx {s a:List UInt8} {x:UInt8} {b:List UInt8} (h:s=a++x::b):s.getD a.length 0=x:=by subst h;simp
def zh:List UInt8→Nat
 | []=>0
 | c::r=>if isD c then zh r+1 else 0
theorem yq:∀ l,zh l≤l.length
 | []=>Al4 _
 | c::r=>by have:=yq r;simp only[zh,Al2];split<;>omega
theorem zH (s:List UInt8) (k:Nat):(s.drop k=[]∧s.length≤k)∨(k<s.length∧s.drop k=s.getD k 0::s.drop (k+1)):=by
 rcases Nat.lt_or_ge k s.length with h|h
 ·right
  refine⟨h,?_⟩
  rw[List.drop_eq_getElem_cons h]
  simp[h]
 ·left;exact⟨List.drop_of_length_le h,h⟩
theorem yV (s:List UInt8) (hs:s.length≤Lim):Pure Tryz.prog 180 [.str s] (.int .i64 (zh s)):=by
 refine Pure.go ir180 ck180 (Al4 _) fun KP Q hQ=>?_
 simp only[Lim] at hs
 have hr1:=yq s
 simp(disch:=first|omega|assumption) only[ir180,go_sem]
 refine goL_st (fun n:Nat=>[(3,.int .i64 n)]) (fun n H=>zh s=n+zh (s.drop n)∧n≤s.length) (fun n=>s.length-n) 0 (by simp(disch:=first|omega|assumption) only[go_sem]) ⟨by simp,by omega⟩ ?_
 rintro n H J ⟨hn,hle⟩ hJ
 rcases zH s n with ⟨h1,h2⟩|⟨h1,h2⟩
 ·have hlt:¬ ((n:Int)<s.length):=by omega
  rw[h1] at hn
  simp only[zh,Nat.add_zero] at hn
  simp(disch:=first|omega|assumption) only[hlt,go_sem]
  exact hQ _ _ _ _ nofun rfl (by simp[tupOf,envOf,AV.strip,AV.strip1,hn])
 ·have hlt:((n:Int)<s.length):=by omega
  rw[h2] at hn
  simp only[zh] at hn
  simp(disch:=first|omega|assumption) only[hlt,go_sem]
  refine goK_pure (zek (s.getD n 0)) ?_
  cases hd:isD (s.getD n 0) with
  | true =>
   simp only[hd,if_true] at hn
   simp(disch:=first|omega|assumption) only[hd,go_sem]
   exact goJ (hJ (n+1) _ (by omega) ⟨by omega,by omega⟩) (by simp(disch:=first|omega|assumption) only[wrap64,Int.natCast_add,Int.natCast_one,go_sem])
  | false =>
   simp only[hd,Al7,if_false,Nat.add_zero] at hn
   simp(disch:=first|omega|assumption) only[hd,go_sem]
   exact hQ _ _ _ _ nofun rfl (by simp[tupOf,envOf,AV.strip,AV.strip1,hn])
theorem zhb (s:List UInt8) (i:Int) (h0:0≤i) (h1:i≤s.length) (hs:s.length≤Lim):Pure Tryz.prog 205 [.str s,.int .i64 i] (.int .i64 (zh (s.drop i.toNat))):=by
 obtain⟨k,rfl⟩:∃ k:Nat,i=k:=⟨i.toNat,by omega⟩
 refine Pure.go ir205 ck205 (Al4 _) fun KP Q hQ=>?_
 simp only[Lim] at hs
 have hr1:=yq (s.drop k)
 rw[zI] at hr1
 simp(disch:=first|omega|assumption) only[ir205,go_sem]
 refine goL_st (fun n:Nat=>[(5,.int .i64 n)]) (fun n H=>zh (s.drop k)=n+zh (s.drop (k+n))∧k+n≤s.length) (fun n=>s.length-n) 0 (by simp(disch:=first|omega|assumption) only[go_sem]) ⟨by simp,by omega⟩ ?_
 rintro n H J ⟨hn,hle⟩ hJ
 have hto:((k:Int)+n).toNat=k+n:=by omega
 have hnn:(0:Int)≤(k:Int)+n:=by omega
 rcases zH s (k+n) with ⟨h1,h2⟩|⟨h1,h2⟩
 ·have hlt:¬ ((k:Int)+n<s.length):=by omega
  rw[h1] at hn
  simp only[zh,Nat.add_zero] at hn
  simp(disch:=first|omega|assumption) only[hlt,wrap64,go_sem]
  exact hQ _ _ _ _ nofun rfl (by simp[tupOf,envOf,AV.strip,AV.strip1,hn])
 ·have hlt:((k:Int)+n<s.length):=by omega
  rw[h2] at hn
  simp only[zh] at hn
  simp(disch:=first|omega|assumption) only[hlt,wrap64,hto,hnn,go_sem]
  refine goK_pure (zbX (s.getD (k+n) 0)) ?_
  cases hd:isD (s.getD (k+n) 0) with
  | true =>
   simp only[hd,if_true] at hn
   simp(disch:=first|omega|assumption) only[hd,go_sem]
   exact goJ (hJ (n+1) _ (by omega) ⟨by rw[← Nat.add_assoc];omega,by omega⟩) (by simp(disch:=first|omega|assumption) only[wrap64,Int.natCast_add,Int.natCast_one,go_sem])
  | false =>
   simp only[hd,Al7,if_false,Nat.add_zero] at hn
   simp(disch:=first|omega|assumption) only[hd,go_sem]
   exact hQ _ _ _ _ nofun rfl (by simp[tupOf,envOf,AV.strip,AV.strip1,hn])
theorem zeR (c:UInt8) (s:List UInt8):[c].isPrefixOf s=decide (s.head?=some c):=by
 cases s with
 | nil=>rfl
 | cons d r =>
  by_cases h:d=c
  ·subst h;simp[List.isPrefixOf]
  ·have h':¬ c=d:=fun e=>h e.symm
   simp[List.isPrefixOf,h,h']
def yl (s:List UInt8):Nat:=if zh s=0 then 0 else if s.getD 0 0=48 then 1 else zh s
def zc (s:List UInt8):Nat:=if s.head?=some 45 then (if zh s.tail=0 then 0 else 1+yl s.tail) else yl s
theorem zfp (s:List UInt8):yl s≤s.length:=by have:=yq s;unfold yl;split<;>(try split)<;>omega
theorem zgf {s:List UInt8} (h:zh s≠0):0<yl s:=by unfold yl;simp only[h,if_false];split<;>omega
theorem YS (s:List UInt8):zc s≤s.length:=by
 have h1:=zfp s
 have h2:=zfp s.tail
 unfold zc
 split
 ·rename_i h
  cases s with
  | nil=>simp at h
  | cons c r =>
   simp only[List.tail_cons,Al2] at h2 ⊢
   by_cases h0:zh r=0<;>simp only[h0,if_true,if_false]<;>omega
 ·exact h1
theorem zje {a b:UInt8}:((a.toNat:Int)=(b.toNat:Int))=(a=b):=by
 apply propext
 rw[Int.natCast_inj]
 exact UInt8.toNat_inj
theorem zbZ (a:UInt8) (n:Nat) (hn:n<256):decide ((a.toNat:Int)=n)=decide (a=UInt8.ofNat n):=by
 rw[decide_eq_decide]
 have:(UInt8.ofNat n).toNat=n:=by simp[UInt8.toNat_ofNat'];omega
 constructor
 ·intro h;apply UInt8.toNat_inj.1;rw[this];omega
 ·intro h;subst h;rw[this]
theorem ziS (s:List UInt8) (hs:s.length≤Lim):Pure Tryz.prog 179 [.str s] (.int .i64 (zc s)):=by
 refine Pure.go ir179 ck179 (Al4 _) fun KP Q hQ=>?_
 simp only[Lim] at hs
 simp(disch:=first|omega|assumption) only[ir179,go_sem]
 refine goK_pure (ZK s [45]) ?_
 rw[zeR]
 by_cases h:s.head?=some 45
 ·cases s with
  | nil=>simp at h
  | cons c r =>
   have hc:c=45:=by simpa using h
   subst hc
   simp only[Al2] at hs
   have h1:(1:Int)≤((r.length+1:Nat):Int):=by omega
   have h2:(1:Int)<((r.length+1:Nat):Int)∨r=[]:=by cases r<;>simp;omega
   simp(disch:=first|omega|assumption) only[h,h1,Int.toNat_one,go_sem]
   refine goK_pure (yV r (by simp only[Lim];omega)) ?_
   by_cases h0:zh r=0
   ·simp(disch:=first|omega|assumption) only[h0,go_sem]
    exact hQ _ _ _ _ nofun rfl (by simp[tupOf,envOf,AV.strip,AV.strip1,zc,h0])
   ·have h0':¬ ((zh r:Int)=0):=by omega
    have hrl:=yq r
    have hlt:(1:Int)<((r.length+1:Nat):Int):=by omega
    have e:=zbZ (r.getD 0 0) 48 (by omega)
    by_cases h48:r.getD 0 0=48
    ·have hi:yl r=1:=by simp only[yl,h0,h48,if_false,if_true]
     simp(disch:=first|omega|assumption) only[h0',hlt,Int.toNat_one,h48,UInt8.reduceToNat,wrap64,go_sem]
     exact hQ _ _ _ _ nofun rfl (by simp[tupOf,envOf,AV.strip,AV.strip1,zc,h0,hi])
    ·have h48':¬ ((r.getD 0 0).toNat:Int)=48:=by
      intro hh
      rw[decide_eq_true (by exact hh)] at e
      exact h48 (by simpa using e.symm)
     have hi:yl r=zh r:=by simp only[yl,h0,h48,if_false]
     simp(disch:=first|omega|assumption) only[h0',hlt,Int.toNat_one,h48',wrap64,go_sem]
     exact hQ _ _ _ _ nofun rfl (by simp[tupOf,envOf,AV.strip,AV.strip1,zc,h0,hi])
 ·simp(disch:=first|omega|assumption) only[h,go_sem]
  refine goK_pure (yV s (by simp only[Lim];omega)) ?_
  by_cases h0:zh s=0
  ·simp(disch:=first|omega|assumption) only[h0,go_sem]
   exact hQ _ _ _ _ nofun rfl (by simp[tupOf,envOf,AV.strip,AV.strip1,zc,h,yl,h0])
  ·have h0':¬ ((zh s:Int)=0):=by omega
   have hrl:=yq s
   have hlt:(0:Int)<(s.length:Int):=by omega
   have e:=zbZ (s.getD 0 0) 48 (by omega)
   by_cases h48:s.getD 0 0=48
   ·have hi:yl s=1:=by simp only[yl,h0,h48,if_false,if_true]
    simp(disch:=first|omega|assumption) only[h0',hlt,h48,UInt8.reduceToNat,wrap64,go_sem]
    exact hQ _ _ _ _ nofun rfl (by simp[tupOf,envOf,AV.strip,AV.strip1,zc,h,hi])
   ·have h48':¬ ((s.getD 0 0).toNat:Int)=48:=by
     intro hh
     rw[decide_eq_true (by exact hh)] at e
     exact h48 (by simpa using e.symm)
    have hi:yl s=zh s:=by simp only[yl,h0,h48,if_false]
    simp(disch:=first|omega|assumption) only[h0',hlt,h48',wrap64,go_sem]
    exact hQ _ _ _ _ nofun rfl (by simp[tupOf,envOf,AV.strip,AV.strip1,zc,h,hi])
def isE (c:UInt8):Bool:=decide (c=101)||decide (c=69)
def sgN (r:List UInt8):Nat:=if r.head?=some 43∨r.head?=some 45 then 1 else 0
def yr:List UInt8→Nat
 | []=>0
 | c::r=>if isE c then (if zh (r.drop (sgN r))=0 then 0 else 1+sgN r+zh (r.drop (sgN r))) else 0
theorem zc2 (r:List UInt8):sgN r≤r.length:=by
 unfold sgN
 split
 ·cases r<;>simp_all
 ·omega
theorem zdu:∀ s,yr s≤s.length
 | []=>by simp[yr]
 | c::r=>by
  have h:=yq (r.drop (sgN r))
  have h2:=zc2 r
  rw[zI] at h
  simp only[yr,Al2]
  split
  ·split<;>omega
  ·omega
theorem zeL (s:List UInt8) (hs:s.length≤Lim):Pure Tryz.prog 181 [.str s] (.int .i64 (yr s)):=by
 refine Pure.go ir181 ck181 (Al4 _) fun KP Q hQ=>?_
 simp only[Lim] at hs
 cases s with
 | nil =>
  simp(disch:=first|omega|assumption) only[ir181,go_sem]
  exact hQ _ _ _ _ nofun rfl (by simp[tupOf,envOf,AV.strip,AV.strip1,yr])
 | cons c r =>
  simp only[Al2] at hs
  have hne:¬ (c::r=[]):=by simp
  have hp:(0:Int)<((r.length+1:Nat):Int):=by omega
  have e1:=zbZ c 101 (by omega)
  have e2:=zbZ c 69 (by omega)
  have hE:∀(P:Prop),P→P:=fun _ h=>h
  by_cases hc:isE c=true
  case neg =>
   have hc1:¬ (c.toNat:Int)=101:=by
    intro hh;rw[decide_eq_true (by exact hh)] at e1
    exact hc (by simp[isE,(by simpa using e1.symm:c=101)])
   have hc2:¬ (c.toNat:Int)=69:=by
    intro hh;rw[decide_eq_true (by exact hh)] at e2
    exact hc (by simp[isE,(by simpa using e2.symm:c=69)])
   simp(disch:=first|omega|assumption) only[ir181,hne,hp,hc1,hc2,go_sem]
   have hcf:isE c=false:=by simpa using hc
   exact hQ _ _ _ _ nofun rfl (by simp[tupOf,envOf,AV.strip,AV.strip1,yr,hcf])
  have fin:∀ k:Nat,zh (r.drop (sgN r))=k→yr (c::r)=if k=0 then 0 else 1+sgN r+k:=fun k hk=>by subst hk;simp only[yr,hc,if_true]
  have hcase:(c.toNat:Int)=101∨(¬ (c.toNat:Int)=101∧(c.toNat:Int)=69):=by
   simp only[isE,zaW,zm] at hc
   rcases hc with rfl|rfl
   ·exact .inl rfl
   ·exact .inr ⟨by decide,rfl⟩
  have hdl:=yq (r.drop (sgN r))
  rw[zI] at hdl
  have hsl:=zc2 r
  cases r with
  | nil =>
   have k0:=fin 0 (by simp[sgN,zh])
   rcases hcase with h1|⟨h1,h2⟩
   ·simp(disch:=first|omega|assumption) only[ir181,h1,go_sem]
    refine goK_pure (yV [] (by simp)) ?_
    simp(disch:=first|omega|assumption) only[zh,go_sem]
    exact hQ _ _ _ _ nofun rfl (by simp[tupOf,envOf,AV.strip,AV.strip1,k0])
   ·simp(disch:=first|omega|assumption) only[ir181,h1,h2,go_sem]
    refine goK_pure (yV [] (by simp)) ?_
    simp(disch:=first|omega|assumption) only[zh,go_sem]
    exact hQ _ _ _ _ nofun rfl (by simp[tupOf,envOf,AV.strip,AV.strip1,k0])
  | cons d t =>
   simp only[Al2] at hs
   have hl1:(1:Int)<((t.length+1+1:Nat):Int):=by omega
   have hl2:(2:Int)≤((t.length+1+1:Nat):Int):=by omega
   have hl3:(1:Int)≤((t.length+1+1:Nat):Int):=by omega
   have f1:=zbZ d 43 (by omega)
   have f2:=zbZ d 45 (by omega)
   by_cases hsg:d=43∨d=45
   ·have hsg1:sgN (d::t)=1:=by simp only[sgN,List.head?_cons,Al1,hsg,if_true]
    have k0:=fin (zh t) (by rw[hsg1];rfl)
    rw[hsg1] at k0 hdl
    have hd:(d.toNat:Int)=43∨(¬ (d.toNat:Int)=43∧(d.toNat:Int)=45):=by
     rcases hsg with rfl|rfl
     ·exact .inl rfl
     ·exact .inr ⟨by decide,rfl⟩
    rcases hcase with h1|⟨h1,h2⟩<;>rcases hd with h3|⟨h3,h4⟩
    all_goals
     simp only[hl1,hl2,Al2,List.drop_succ_cons,List.drop_zero] at hdl
    ·simp(disch:=first|omega|assumption) only[ir181,h1,h3,hl1,hl2,Int.toNat_one,go_sem]
     refine goK_pure (yV t (by simp only[Lim];omega)) ?_
     by_cases hz:zh t=0
     ·simp(disch:=first|omega|assumption) only[hz,go_sem]
      exact hQ _ _ _ _ nofun rfl (by simp[tupOf,envOf,AV.strip,AV.strip1,k0,hz])
     ·have hz':¬ (zh t:Int)=0:=by omega
      simp(disch:=first|omega|assumption) only[hz',wrap64,go_sem]
      exact hQ _ _ _ _ nofun rfl (by simp[tupOf,envOf,AV.strip,AV.strip1,k0,hz])
    ·simp(disch:=first|omega|assumption) only[ir181,h1,h3,h4,hl1,hl2,Int.toNat_one,go_sem]
     refine goK_pure (yV t (by simp only[Lim];omega)) ?_
     by_cases hz:zh t=0
     ·simp(disch:=first|omega|assumption) only[hz,go_sem]
      exact hQ _ _ _ _ nofun rfl (by simp[tupOf,envOf,AV.strip,AV.strip1,k0,hz])
     ·have hz':¬ (zh t:Int)=0:=by omega
      simp(disch:=first|omega|assumption) only[hz',wrap64,go_sem]
      exact hQ _ _ _ _ nofun rfl (by simp[tupOf,envOf,AV.strip,AV.strip1,k0,hz])
    ·simp(disch:=first|omega|assumption) only[ir181,h1,h2,h3,hl1,hl2,Int.toNat_one,go_sem]
     refine goK_pure (yV t (by simp only[Lim];omega)) ?_
     by_cases hz:zh t=0
     ·simp(disch:=first|omega|assumption) only[hz,go_sem]
      exact hQ _ _ _ _ nofun rfl (by simp[tupOf,envOf,AV.strip,AV.strip1,k0,hz])
     ·have hz':¬ (zh t:Int)=0:=by omega
      simp(disch:=first|omega|assumption) only[hz',wrap64,go_sem]
      exact hQ _ _ _ _ nofun rfl (by simp[tupOf,envOf,AV.strip,AV.strip1,k0,hz])
    ·simp(disch:=first|omega|assumption) only[ir181,h1,h2,h3,h4,hl1,hl2,Int.toNat_one,go_sem]
     refine goK_pure (yV t (by simp only[Lim];omega)) ?_
     by_cases hz:zh t=0
     ·simp(disch:=first|omega|assumption) only[hz,go_sem]
      exact hQ _ _ _ _ nofun rfl (by simp[tupOf,envOf,AV.strip,AV.strip1,k0,hz])
     ·have hz':¬ (zh t:Int)=0:=by omega
      simp(disch:=first|omega|assumption) only[hz',wrap64,go_sem]
      exact hQ _ _ _ _ nofun rfl (by simp[tupOf,envOf,AV.strip,AV.strip1,k0,hz])
   ·have hsg0:sgN (d::t)=0:=by simp only[sgN,List.head?_cons,Al1,hsg,if_false]
    have k0:=fin (zh (d::t)) (by rw[hsg0];rfl)
    rw[hsg0] at k0 hdl
    have h3:¬ (d.toNat:Int)=43:=by
     intro hh;rw[decide_eq_true (by exact hh)] at f1
     exact hsg (.inl (by simpa using f1.symm))
    have h4:¬ (d.toNat:Int)=45:=by
     intro hh;rw[decide_eq_true (by exact hh)] at f2
     exact hsg (.inr (by simpa using f2.symm))
    simp only[List.drop_zero,Al2] at hdl
    rcases hcase with h1|⟨h1,h2⟩
    ·simp(disch:=first|omega|assumption) only[ir181,h1,h3,h4,hl1,hl3,Int.toNat_one,go_sem]
     refine goK_pure (yV (d::t) (by simp only[Lim,Al2];omega)) ?_
     by_cases hz:zh (d::t)=0
     ·simp(disch:=first|omega|assumption) only[hz,go_sem]
      exact hQ _ _ _ _ nofun rfl (by simp[tupOf,envOf,AV.strip,AV.strip1,k0,hz])
     ·have hz':¬ (zh (d::t):Int)=0:=by omega
      simp(disch:=first|omega|assumption) only[hz',wrap64,go_sem]
      exact hQ _ _ _ _ nofun rfl (by simp[tupOf,envOf,AV.strip,AV.strip1,k0,hz])
    ·simp(disch:=first|omega|assumption) only[ir181,h1,h2,h3,h4,hl1,hl3,Int.toNat_one,go_sem]
     refine goK_pure (yV (d::t) (by simp only[Lim,Al2];omega)) ?_
     by_cases hz:zh (d::t)=0
     ·simp(disch:=first|omega|assumption) only[hz,go_sem]
      exact hQ _ _ _ _ nofun rfl (by simp[tupOf,envOf,AV.strip,AV.strip1,k0,hz])
     ·have hz':¬ (zh (d::t):Int)=0:=by omega
      simp(disch:=first|omega|assumption) only[hz',wrap64,go_sem]
      exact hQ _ _ _ _ nofun rfl (by simp[tupOf,envOf,AV.strip,AV.strip1,k0,hz])
def zD (r:List UInt8):Nat:=if r.head?=some 46∧0<zh r.tail then 1+zh r.tail else 0
def zA (s:List UInt8):Nat×Int :=
 if zc s=0 then (0,0) else
  (zc s+zD (s.drop (zc s))+yr (s.drop (zc s+zD (s.drop (zc s)))),if zD (s.drop (zc s))=0∧yr (s.drop (zc s+zD (s.drop (zc s))))=0 then 3 else 4)
theorem zbP (r:List UInt8):zD r≤r.length:=by
 unfold zD
 split
 ·rename_i h
  cases r with
  | nil=>simp at h
  | cons c t=>have:=yq t;simp only[List.tail_cons,Al2];omega
 ·omega
theorem zeV (s:List UInt8) (hs:s.length≤Lim):Pure Tryz.prog 125 [.str s] (.tup [.int .i64 (zA s).1,.int .i64 (zA s).2]):=by
 refine Pure.go ir125 ck125 (Al4 _) fun KP Q hQ=>?_
 have hs':=hs
 simp only[Lim] at hs
 simp(disch:=first|omega|assumption) only[ir125,go_sem]
 refine goK_pure (ziS s hs') ?_
 have hw:=YS s
 by_cases h0:zc s=0
 ·simp(disch:=first|omega|assumption) only[h0,go_sem]
  exact hQ _ _ _ _ nofun rfl (by simp[tupOf,envOf,AV.strip,AV.strip1,zA,h0])
 have h0':¬ ((zc s:Int)=0):=by omega
 have hwl:(zc s:Int)≤s.length:=by omega
 simp(disch:=first|omega|assumption) only[h0',hwl,go_sem]
 refine goK_pure (ZK (s.drop (zc s)) [46]) ?_
 rw[zeR]
 generalize hn:zc s=n at *
 have fin:∀ f p:Nat,zD (s.drop n)=f→yr (s.drop (n+f))=p→zA s=(n+f+p,if f=0∧p=0 then 3 else 4):=fun f p hf hp=>by
  unfold zA
  rw[hn,hf,hp]
  simp only[h0,if_false]
 have hpl:=zdu (s.drop n)
 rw[zI] at hpl
 by_cases h46:(s.drop n).head?=some 46
 ·obtain⟨c,t,hct⟩:∃ c t,s.drop n=c::t:=by
   cases hx:s.drop n with
   | nil=>rw[hx] at h46;simp at h46
   | cons c t=>exact⟨c,t,rfl⟩
  have hlen:s.length=n+1+t.length:=by have:=congrArg List.length hct;simp at this;omega
  have hdr:s.drop (n+1)=t:=by rw[← List.drop_drop,hct];rfl
  have hto:((n:Int)+1).toNat=n+1:=by omega
  have hn1:(0:Int)≤(n:Int)+1:=by omega
  have hn2:(n:Int)+1≤s.length:=by omega
  have hrl:=yq t
  simp(disch:=first|omega|assumption) only[h46,wrap64,hto,hn1,hn2,hdr,go_sem]
  refine goK_pure (yV t (by simp only[Lim];omega)) ?_
  by_cases hk:(0:Int)<zh t
  ·have hk':0<zh t:=by omega
   have hfr:zD (s.drop n)=1+zh t:=by unfold zD;rw[if_pos ⟨h46,by rw[hct];exact hk'⟩,hct];rfl
   have hto2:((n:Int)+1+zh t).toNat=n+(1+zh t):=by omega
   have hn3:(0:Int)≤(n:Int)+1+zh t:=by omega
   have hn4:(n:Int)+1+zh t≤s.length:=by omega
   have hpl2:=zdu (s.drop (n+(1+zh t)))
   rw[zI] at hpl2
   simp(disch:=first|omega|assumption) only[hk,wrap64,hto2,hn3,hn4,go_sem]
   refine goK_pure (zeL (s.drop (n+(1+zh t))) (by rw[zI];simp only[Lim];omega)) ?_
   have hf:=fin _ _ hfr rfl
   generalize hp:yr (s.drop (n+(1+zh t)))=p at *
   by_cases hp0:(0:Int)<p
   ·simp(disch:=first|omega|assumption) only[hp0,wrap64,go_sem]
    exact hQ _ _ _ _ nofun rfl (by simp[tupOf,envOf,AV.strip,AV.strip1,hf,Int.add_assoc])
   ·have hp00:p=0:=by omega
    subst hp00
    simp(disch:=first|omega|assumption) only[go_sem]
    exact hQ _ _ _ _ nofun rfl (by simp[tupOf,envOf,AV.strip,AV.strip1,hf,Int.add_assoc])
  ·have hk0:zh t=0:=by omega
   have hfr:zD (s.drop n)=0:=by unfold zD;exact if_neg fun hh=>by have:=hh.2;rw[hct] at this;simp only[List.tail_cons] at this;omega
   simp(disch:=first|omega|assumption) only[hk,hwl,go_sem]
   refine goK_pure (zeL (s.drop n) (by rw[zI];simp only[Lim];omega)) ?_
   have hf:=fin _ _ hfr rfl
   rw[Nat.add_zero] at hf
   generalize hp:yr (s.drop n)=p at *
   by_cases hp0:(0:Int)<p
   ·have hp1:¬ p=0:=by omega
    simp(disch:=first|omega|assumption) only[hp0,wrap64,go_sem]
    exact hQ _ _ _ _ nofun rfl (by simp[tupOf,envOf,AV.strip,AV.strip1,hf,hp1])
   ·have hp00:p=0:=by omega
    subst hp00
    simp(disch:=first|omega|assumption) only[go_sem]
    exact hQ _ _ _ _ nofun rfl (by simp[tupOf,envOf,AV.strip,AV.strip1,hf])
 ·have hfr:zD (s.drop n)=0:=by unfold zD;exact if_neg fun hh=>h46 hh.1
  simp(disch:=first|omega|assumption) only[h46,hwl,go_sem]
  refine goK_pure (zeL (s.drop n) (by rw[zI];simp only[Lim];omega)) ?_
  have hf:=fin _ _ hfr rfl
  rw[Nat.add_zero] at hf
  generalize hp:yr (s.drop n)=p at *
  by_cases hp0:(0:Int)<p
  ·have hp1:¬ p=0:=by omega
   simp(disch:=first|omega|assumption) only[hp0,wrap64,go_sem]
   exact hQ _ _ _ _ nofun rfl (by simp[tupOf,envOf,AV.strip,AV.strip1,hf,hp1])
  ·have hp00:p=0:=by omega
   subst hp00
   simp(disch:=first|omega|assumption) only[go_sem]
   exact hQ _ _ _ _ nofun rfl (by simp[tupOf,envOf,AV.strip,AV.strip1,hf])
def Yk (s:List UInt8):Int:=if (zA s).1=s.length then (zA s).2 else 0
theorem zhN (s:List UInt8) (hs:s.length≤Lim):Pure Tryz.prog 129 [.str s] (.int .i64 (Yk s)):=by
 refine Pure.go ir129 ck129 (Al4 _) fun KP Q hQ=>?_
 simp(disch:=first|omega|assumption) only[ir129,go_sem]
 refine goK_pure (zeV s hs) ?_
 by_cases h:(zA s).1=s.length
 ·have h':(((zA s).1:Int)=s.length)=True:=eq_true (by omega)
  simp(disch:=first|omega|assumption) only[h',go_sem]
  exact hQ _ _ _ _ nofun rfl (by simp[tupOf,envOf,AV.strip,AV.strip1,Yk,h])
 ·have h':¬ ((zA s).1:Int)=s.length:=by omega
  simp(disch:=first|omega|assumption) only[h',go_sem]
  exact hQ _ _ _ _ nofun rfl (by simp[tupOf,envOf,AV.strip,AV.strip1,Yk,h])
def okI:Lib.NumEnd Int→Bool
 | .ok _=>true
 | _=>false
def zco (s:List UInt8):Int:=match Lib.parseIntB 64 s with
 | .ok v=>v
 | Lib.NumEnd.syntax=>0
 | .range=>Lib.intSat 64 s
def ZF (s:List UInt8):Bool:=okI (Lib.parseIntB 64 s)&&decide (Yk s=3)
theorem zhg (s:List UInt8) (hs:s.length≤Lim):Pure Tryz.prog 78 [.str s] (.tup [.int .i64 (zco s),.bool (ZF s)]):=by
 refine Pure.go ir78 ck78 (Al4 _) fun KP Q hQ=>?_
 simp(disch:=first|omega|assumption) only[ir78,go_sem]
 refine goK_pure (zfF s (by simp only[Lim] at hs;omega)) ?_
 rcases hp:Lib.parseIntB 64 s with v|_|_
 ·simp(disch:=first|omega|assumption) only[parseA,hp,go_sem]
  refine goK_pure (zhN s hs) ?_
  simp(disch:=first|omega|assumption) only[go_sem]
  exact hQ _ _ _ _ nofun rfl (by simp[tupOf,envOf,AV.strip,AV.strip1,zco,ZF,hp,okI])
 ·simp(disch:=first|omega|assumption) only[parseA,hp,go_sem]
  exact hQ _ _ _ _ nofun rfl (by simp[tupOf,envOf,AV.strip,AV.strip1,zco,ZF,hp,okI])
 ·simp(disch:=first|omega|assumption) only[parseA,hp,go_sem]
  exact hQ _ _ _ _ nofun rfl (by simp[tupOf,envOf,AV.strip,AV.strip1,zco,ZF,hp,okI])
def zjq (s:List UInt8):Bool:=decide (Yk s=4)||(decide (Yk s=3)&&!ZF s)
def zjw (s:List UInt8):Bool:=decide (s=[116,114,117,101])||(decide (s=[102,97,108,115,101])||decide (s=[110,117,108,108]))
def zdP (n:Int) (s:List UInt8) (l:List Val) (m:List Mem):Bool:=decide (n=0)&&(decide (s=[])&&(decide (l.length=0)&&decide (m.length=0)))
def zeU (k n:Int) (s:List UInt8) (l:List Val) (m:List Mem):Bool :=
 zdP 0 [] l m&&(if k=0 then decide (n=0)&&decide (s=[]) else if k=1 then (decide (n=0)||decide (n=1))&&decide (s=[]) else if k=2 then decide (s=[])
  else if k=3 then decide (n=0)&&zjq s else if k=4 then decide (n=0)&&Lib.validD s else if k=5 then decide (n=0)&&(zbV s&&!zjw s) else if k=8 then decide (n=0)&&zbV s else false)
mutual
def zid (may:List UInt8→Bool):Val→Bool
 | .mk k n s l m=>if k=6 then zga may l&&zdP n s [] m else if k=7 then zf1 may m&&zdP n s l [] else zeU k n s l m
def zga (may:List UInt8→Bool):List Val→Bool
 | []=>true
 | v::r=>zid may v&&zga may r
def zj7 (may:List UInt8→Bool):Mem→Bool
 | .mk s v=>may s&&zid may v
def zf1 (may:List UInt8→Bool):List Mem→Bool
 | []=>true
 | x::r=>zj7 may x&&zf1 may r
end
def boolT (b:Bool):List UInt8:=if b then [116,114,117,101] else [102,97,108,115,101]
mutual
def zjU:Val→List Tok
 | .mk k n s l m=>if k=0 then [⟨2,[110,117,108,108]⟩] else if k=1 then [⟨2,boolT (decide (n=1))⟩] else if k=2 then [⟨3,Lib.itoa n⟩] else if k=3 then [⟨Yk s,s⟩] else if k=4 then [⟨5,s⟩]
  else if k=5 then [⟨2,s⟩] else if k=8 then [⟨1,[36]⟩,⟨2,s⟩] else if k=6 then ⟨1,[91]⟩::(ziu l++[⟨1,[93]⟩]) else ⟨1,[123]⟩::(zgY m++[⟨1,[125]⟩])
def ziu:List Val→List Tok
 | []=>[]
 | v::r=>zjU v++ziu r
def zj6:Mem→List Tok
 | .mk s v=>⟨2,s⟩::⟨1,[58]⟩::zjU v
def zgY:List Mem→List Tok
 | []=>[]
 | x::r=>zj6 x++zgY r
end
def inR (n:Int):Prop:=-9223372036854775808≤n∧n≤9223372036854775807
mutual
def wfV:Val→Prop
 | .mk _ n _ l m=>inR n∧ziR l∧zfB m
def ziR:List Val→Prop
 | []=>True
 | v::r=>wfV v∧ziR r
def wfM:Mem→Prop
 | .mk _ v=>wfV v
def zfB:List Mem→Prop
 | []=>True
 | x::r=>wfM x∧zfB r
end
theorem zfn (a:List Tok) (t:Tok):cKs a++[[.int .i64 t.k,.str t.s]]=cKs (a++[t]):=by simp[cKs,cK]
end Go.Proofs.YtaielcdfcgpbiaaGreatDoor
namespace Go.Proofs.YtaielcdfcgpbiaaGreatDoor
def zez (P:Program) (f:FuncId) (fn:Func) (s:ChangeSpec) (c:OpenClaim):Bool:=c.wf (OpenSpec.ofChange s)&&laidOutB P&&mapsRowed P&&fn.params.all (P.readableRec ·)&&namedTie P c.named s.vars
def zeJ (P:Program) (f:FuncId) (fn:Func) (s:ChangeSpec) (c:OpenClaim):Bool:=(c.stops==[])&&(P.stops==[])&&(c.knobs==[])&&(P.stopKnobs==[])&&(c.maps==(fn.params.toList++s.plain.varTypes P).any (P.mapsRec ·))&&(c.ifaces==(fn.params.toList++s.plain.varTypes P).any (P.ifacesRec ·))&&(c.mapsOut==P.mapsAmong fn.resultTypes.toList)&&(c.loops==(fn.params.toList++s.plain.varTypes P).any (P.loopsFrom ·))&&(c.wideKeys==(fn.params.toList++s.plain.varTypes P++fn.resultTypes.toList).any (P.wideKeysFrom ·))&&s.vars.all (P.varReadable ·)&&fn.resultTypes.all (fun t=>P.readableRec t&&decide (t<P.types.size))&&(c.ifacesOut==fn.resultTypes.toList.any (P.ifacesRec ·))&&(c.loopsOut==fn.resultTypes.toList.any (P.loopsFrom ·))&&(c.veiled==(fn.params.toList++s.plain.varTypes P++fn.resultTypes.toList).any (P.veiledRec ·))&&c.veiledFits P fn.params.toList (fn.params.toList++s.plain.varTypes P++fn.resultTypes.toList)
def zeQ (P:Program) (f:FuncId) (fn:Func) (s:ChangeSpec) (c:OpenClaim):Bool:=(c.inPlace==P.inPlace f)&&(c.unfollowed==P.unfollowed f)&&(c.recurses==P.recurses f)&&(c.named==P.varsNamed f)
def zeG (P:Program) (f:FuncId) (fn:Func) (s:ChangeSpec) (c:OpenClaim):Bool:=(c.plainKeys==P.plainKeys)&&c.shortTexts.isNone
def zeo (P:Program) (f:FuncId) (fn:Func) (s:ChangeSpec) (c:OpenClaim):Bool:=P.stopsHeard
def zer (P:Program) (f:FuncId) (fn:Func) (s:ChangeSpec) (c:OpenClaim):Bool:=P.mayEnter
def zeu (P:Program) (f:FuncId) (fn:Func) (s:ChangeSpec) (c:OpenClaim):Bool:=(c.lifted==P.liftsFinal)&&(P.make==some c.make)&&(c.kinds==(if c.domain.isEmpty then [] else fn.params.toList.map fun t=>match P.underlying t with|some (.int k)=>some k|_=>none))&&(c.pinned==c.pinnedBy)
theorem zfz {P:Program} {f:FuncId} {fn:Func} {s:ChangeSpec} {c:OpenClaim} (h0:zez P f fn s c=true) (h1:zeJ P f fn s c=true) (h2:zeQ P f fn s c=true) (h3:zeG P f fn s c=true) (h4:zeo P f fn s c=true) (h5:zer P f fn s c=true) (h6:zeu P f fn s c=true):joinedFacts P f fn s c=true:=by
 simp only[zez,Al0] at h0
 obtain⟨⟨⟨⟨a0,a1⟩,a2⟩,a3⟩,a4⟩:=h0
 simp only[zeJ,Al0] at h1
 obtain⟨⟨⟨⟨⟨⟨⟨⟨⟨⟨⟨⟨⟨⟨a5,a6⟩,a7⟩,a8⟩,a13⟩,a14⟩,a15⟩,a16⟩,a17⟩,a18⟩,a19⟩,a20⟩,a21⟩,a30⟩,a31⟩:=h1
 simp only[zeQ,Al0] at h2
 obtain⟨⟨⟨a9,a10⟩,a11⟩,a12⟩:=h2
 simp only[zeG,Al0] at h3
 obtain⟨a22,a23⟩:=h3
 simp only[zeo,Al0] at h4
 have a24:=h4
 simp only[zer,Al0] at h5
 have a25:=h5
 simp only[zeu,Al0] at h6
 obtain⟨⟨⟨a26,a27⟩,a28⟩,a29⟩:=h6
 simp only[joinedFacts,Al0]
 exact⟨⟨⟨⟨⟨⟨⟨⟨⟨⟨⟨⟨⟨⟨⟨⟨⟨⟨⟨⟨⟨⟨⟨⟨⟨⟨⟨⟨⟨⟨⟨a0,a1⟩,a2⟩,a3⟩,a4⟩,a5⟩,a6⟩,a7⟩,a8⟩,a9⟩,a10⟩,a11⟩,a12⟩,a13⟩,a14⟩,a15⟩,a16⟩,a17⟩,a18⟩,a19⟩,a20⟩,a21⟩,a22⟩,a23⟩,a24⟩,a25⟩,a26⟩,a27⟩,a28⟩,a29⟩,a30⟩,a31⟩
open Go.Ab Go.ChangeAt Go.ChangeShapes Go.Lib Go.RowKit Go.WideElems Go.WideShapes
theorem own:ownKnob Tryz.prog.godebug=none:=by kernel_rfl
theorem laidOut:laidOutB Tryz.prog=true:=by kernel_rfl
theorem zfs {H:Type} {s:ChangeSpec} {ds:List (DataW H)} (h:∀ k,(Rows.OpenSpec.upto s).cond=some k→k H ds=true):blkAll ds≤1048576:=by
 have h1:Rows.uptoSmall H ds=true:=h _ rfl
 have h2:=of_decide_eq_true h1
 rwa [Zy] at h2
end Go.Proofs.YtaielcdfcgpbiaaGreatDoor
namespace Go.Proofs.YtaielcdfcgpbiaaGreatDoor
open Go.Ab
structure DirD where
 nm:List UInt8
 args:List Mem
inductive SelD where
 | mk (k:Int) (al nm:List UInt8) (args:List Mem) (dirs:List DirD) (on:List UInt8) (sels:List SelD)
structure TyD where
 nm:List UInt8
 lists:Int
 musts:Int
structure VarD where
 nm:List UInt8
 t:TyD
 has:Bool
 d:Val
structure OpD where
 k:Int
 nm:List UInt8
 vars:List VarD
 dirs:List DirD
 sels:List SelD
structure FragD where
 nm:List UInt8
 on:List UInt8
 dirs:List DirD
 sels:List SelD
structure DocD where
 ops:List OpD
 frags:List FragD
def cD (x:DirD):List AV:=[.str x.nm,.sl .no 6 (cMs x.args)]
def cDs (l:List DirD):List (List AV):=l.map cD
mutual
def cS:SelD→List AV
 | .mk k al nm args dirs on sels=>[.int .i64 k,.str al,.str nm,.sl .no 6 (cMs args),.sl .no 2 (cDs dirs),.str on,.sl .no 7 (cSs sels)]
def cSs:List SelD→List (List AV)
 | []=>[]
 | x::r=>cS x::cSs r
end
def cTy (t:TyD):List AV:=[.str t.nm,.int .i64 t.lists,.int .i64 t.musts]
def cW (x:VarD):List AV:=cTy ⟨x.nm,0,0⟩ |>.take 1 |>.append (cTy x.t++(.bool x.has::cV x.d))
def cWs (l:List VarD):List (List AV):=l.map cW
def cO (x:OpD):List AV:=[.int .i64 x.k,.str x.nm,.sl .no 10 (cWs x.vars),.sl .no 2 (cDs x.dirs),.sl .no 7 (cSs x.sels)]
def cOs (l:List OpD):List (List AV):=l.map cO
def cF (x:FragD):List AV:=[.str x.nm,.str x.on,.sl .no 2 (cDs x.dirs),.sl .no 7 (cSs x.sels)]
def cFs (l:List FragD):List (List AV):=l.map cF
def zgN (d:DocD):List AV:=[.sl .no 5 (cOs d.ops),.sl .no 4 (cFs d.frags)]
theorem ziz (nm:List UInt8) (t:TyD) (h:Bool) (d:Val):cW ⟨nm,t,h,d⟩=.str nm::.str t.nm::.int .i64 t.lists::.int .i64 t.musts::.bool h::cV d:=rfl
theorem zbA:∀ l,cSs l=l.map cS
 | []=>rfl
 | v::r=>by rw[cSs,zbA r];rfl
theorem zhU (l:List DirD):(cDs l).length=l.length:=by simp[cDs]
theorem zh1 (l:List SelD):(cSs l).length=l.length:=by rw[zbA];simp
theorem zfd (l:List VarD):(cWs l).length=l.length:=by simp[cWs]
theorem zhG (l:List OpD):(cOs l).length=l.length:=by simp[cOs]
theorem zhu (l:List FragD):(cFs l).length=l.length:=by simp[cFs]
theorem zgv (x:DirD):(cD x).map AV.strip1=cD x:=rfl
theorem zaU (x:SelD):(cS x).map AV.strip1=cS x:=by cases x;rfl
theorem Yw (x:VarD):(cW x).map AV.strip1=cW x:=by rcases x with ⟨a,b,c,⟨⟩⟩;rfl
theorem zbJ (x:SelD):(cS x).length=7:=by cases x;rfl
theorem zaF (x:SelD):(cS x).take 7=cS x:=by cases x;rfl
theorem Z7 (a b c d e f g:AV) (x:SelD):splice [a,b,c,d,e,f,g] 0 (cS x)=cS x:=by cases x;rfl
theorem Yy (x:VarD):(cW x).length=10:=by rcases x with ⟨a,b,c,⟨⟩⟩;rfl
theorem ZJ (x:VarD):(cW x).take 10=cW x:=by rcases x with ⟨a,b,c,⟨⟩⟩;rfl
def bD (x:DirD):Nat:=1+x.nm.length+bMs x.args
def bDs (l:List DirD):Nat:=(l.map bD).sum
mutual
def bS:SelD→Nat
 | .mk _ al nm args dirs on sels=>1+al.length+nm.length+on.length+bMs args+bDs dirs+bSs sels
def bSs:List SelD→Nat
 | []=>0
 | x::r=>bS x+bSs r
end
def bW (x:VarD):Nat:=x.nm.length+x.t.nm.length+bV x.d
def bWs (l:List VarD):Nat:=(l.map bW).sum
def bO (x:OpD):Nat:=1+x.nm.length+bWs x.vars+bDs x.dirs+bSs x.sels
def bF (x:FragD):Nat:=1+x.nm.length+x.on.length+bDs x.dirs+bSs x.sels
mutual
theorem SelD.ind {P:SelD→Prop} (h:∀ k al nm args dirs on sels,(∀ v∈sels,P v)→P (.mk k al nm args dirs on sels)):∀ v,P v
 | .mk k al nm args dirs on sels=>h k al nm args dirs on sels (SelD.indL h sels)
theorem SelD.indL {P:SelD→Prop} (h:∀ k al nm args dirs on sels,(∀ v∈sels,P v)→P (.mk k al nm args dirs on sels)):∀ l:List SelD,∀ v∈l,P v
 | [],_,hv=>by cases hv
 | x::r,v,hv=>(List.mem_cons.1 hv).elim (fun e=>e▸SelD.ind h x) (SelD.indL h r v)
end
def hexL:List UInt8:=[48,49,50,51,52,53,54,55,56,57,97,98,99,100,101,102]
def hexD (c:UInt8):Option Nat:=if Lib.indexByte hexL (c ||| 32)<0∨c.toNat<48∨(57<c.toNat∧c.toNat<65) then none else some (Lib.indexByte hexL (c ||| 32)).toNat
def yu:Nat→List UInt8→Nat→Option Nat
 | 0,_,u=>some u
 | _+1,[],_=>none
 | n+1,c::t,u=>match hexD c with
  | none=>none
  | some k=>yu n t (16*u+k)
def yD (s:List UInt8):Option Nat:=yu 4 s 0
def ym (n:Nat):List UInt8 :=
 if n≤127 then [UInt8.ofNat n]
 else if n≤2047 then [UInt8.ofNat (192+n / 64),UInt8.ofNat (128+n % 64)]
 else if n≤65535 then [UInt8.ofNat (224+n / 4096),UInt8.ofNat (128+n / 64 % 64),UInt8.ofNat (128+n % 64)]
 else [UInt8.ofNat (240+n / 262144),UInt8.ofNat (128+n / 4096 % 64),UInt8.ofNat (128+n / 64 % 64),UInt8.ofNat (128+n % 64)]
def zk:List Nat→Option (List UInt8)
 | []=>some []
 | u::r=>if 65535<u∨(56320≤u∧u≤57343) then none
  else if 55296≤u∧u<56320 then match r with
   | []=>none
   | v::r=>if v<56320∨57343<v then none else (zk r).map (ym (65536+1024*(u-55296)+(v-56320))++·)
  else (zk r).map (ym u++·)
structure Sd where
 b:List UInt8
 u:List Nat
 ok:Bool
def zF (q:Sd):Sd:=⟨q.b++(zk q.u).getD [],[],q.ok&&(zk q.u).isSome⟩
def Sd.put (q:Sd) (c:UInt8):Sd:=⟨(zF q).b++[c],[],(zF q).ok⟩
def ZG:List UInt8:=[34,92,47,98,102,110,114,116]
def zeH:List UInt8:=[34,92,47,8,12,10,13,9]
def yJ (q:Sd):List UInt8→Option (Sd×List UInt8)
 | []=>none
 | c::t=>if c=117 then (yD t).map fun u=>(⟨q.b,q.u++[u],q.ok⟩,t.drop 4)
  else if Lib.indexByte ZG c<0 then none else some (q.put (zeH.getD (Lib.indexByte ZG c).toNat 0),t)
def Zj (may:UInt8→Bool):Nat→List UInt8→Sd→Option (Sd×List UInt8)
 | 0,_,_=>none
 | _+1,[],_=>none
 | n+1,c::t,q=>if c=34 then some (zF q,t)
  else if c=92 then match yJ q t with
   | none=>none
   | some (q',t')=>Zj may n t' q'
  else if may c then Zj may n t (q.put c) else none
def yt (may:UInt8→Bool) (t:List UInt8):Option (List UInt8×List UInt8):=match Zj may (t.length+1) t ⟨[],[],true⟩ with
 | some (q,t')=>if q.ok then some (q.b,t') else none
 | none=>none
def bk (c:UInt8):Bool:=decide (0≤Lib.indexByte [9,10,13,32] c)
def nch (c:UInt8):Bool:=decide (0≤Lib.indexByte [48,49,50,51,52,53,54,55,56,57,43,45,46,101,69] c)
def nst (c:UInt8):Bool:=decide (0≤Lib.indexByte [45,48,49,50,51,52,53,54,55,56,57] c)
def zcd (s:List UInt8):Val:=if ZF s then .mk 2 (zco s) [] [] [] else .mk 3 0 s [] []
theorem zaP {q q':Sd} {t t':List UInt8} (h:yJ q t=some (q',t')):t' <:+ t∧t'.length<t.length:=by
 cases t with
 | nil=>cases h
 | cons c t =>
  simp only[yJ] at h
  split at h
  ·cases hu:yD t with
   | none=>simp[hu] at h
   | some u =>
    simp only[hu,zK,Al1,Al8] at h
    obtain⟨_,rfl⟩:=h
    exact⟨(List.drop_suffix _ _).trans (List.suffix_cons ..),by simp;omega⟩
  ·split at h
   ·cases h
   ·simp only[Al1,Al8] at h
    obtain⟨_,rfl⟩:=h
    exact⟨List.suffix_cons ..,by simp⟩
theorem zbK {may:UInt8→Bool}:∀(n:Nat) (t:List UInt8) (q q':Sd) (t':List UInt8),Zj may n t q=some (q',t')→t' <:+ t∧t'.length<t.length
 | 0,_,_,_,_,h=>by cases h
 | _+1,[],_,_,_,h=>by cases h
 | n+1,c::t,q,q',t',h=>by
  simp only[Zj] at h
  split at h
  ·simp only[Al1,Al8] at h
   obtain⟨_,rfl⟩:=h
   exact⟨List.suffix_cons ..,by simp⟩
  ·split at h
   ·cases he:yJ q t with
    | none=>simp[he] at h
    | some x =>
     obtain⟨q1,t1⟩:=x
     simp only[he] at h
     have h1:=zaP he
     have h2:=zbK n t1 q1 q' t' h
     exact⟨(h2.1.trans h1.1).trans (List.suffix_cons ..),by simp;omega⟩
   ·split at h
    ·have h2:=zbK n t _ q' t' h
     exact⟨h2.1.trans (List.suffix_cons ..),by simp;omega⟩
    ·cases h
theorem zdZ {may:UInt8→Bool} {t t' b:List UInt8} (h:yt may t=some (b,t')):t' <:+ t∧t'.length<t.length:=by
 unfold yt at h
 split at h
 ·rename_i q t1 hq
  split at h
  ·cases h;exact zbK _ _ _ _ _ hq
  ·cases h
 ·cases h
theorem Zr:∀(n:Nat) (t:List UInt8) (u v:Nat),yu n t u=some v→n≤t.length
 | 0,_,_,_,_=>Nat.zero_le _
 | n+1,[],_,_,h=>by cases h
 | n+1,c::t,u,v,h=>by
  simp only[yu] at h
  split at h
  ·cases h
  ·have:=Zr n t _ v h;simp;omega
theorem Zb (n:Nat):(ym n).length≤4∧(n≤65535→(ym n).length≤3):=by
 unfold ym
 split
 ·simp
 ·split
  ·simp
  ·split
   ·simp
   ·refine⟨by simp,fun h=>by omega⟩
theorem Zt:∀(u:List Nat) (s:List UInt8),zk u=some s→s.length≤3*u.length
 | [],s,h=>by cases h;simp
 | u::[],s,h=>by
  simp only[zk] at h
  split at h
  ·cases h
  ·rename_i h1
   split at h
   ·cases h
   ·simp only[zK,Al1] at h
    subst h
    have:=(Zb u).2 (by omega)
    simp;omega
 | u::v::r,s,h=>by
  rw[zk] at h
  split at h
  ·cases h
  ·rename_i h1
   split at h
   ·split at h
    ·cases h
    ·cases hr:zk r with
     | none=>simp[hr] at h
     | some x =>
      simp only[hr,zK,Al1] at h
      subst h
      have h2:=Zt r x hr
      have h3:=(Zb (65536+1024*(u-55296)+(v-56320))).1
      simp only[Al5,Al2];omega
   ·cases hr:zk (v::r) with
    | none=>simp[hr] at h
    | some x =>
     simp only[hr,zK,Al1] at h
     subst h
     have h2:=Zt (v::r) x hr
     have h3:=(Zb u).2 (by omega)
     simp only[Al5,Al2] at h2 ⊢;omega
def Sd.w (q:Sd):Nat:=q.b.length+3*q.u.length
theorem zau (q:Sd):(zF q).b.length≤q.w:=by
 unfold zF Sd.w
 cases h:zk q.u with
 | none=>simp
 | some s=>have:=Zt _ _ h;simp;omega
theorem zgx (q:Sd) (c:UInt8):(q.put c).w≤q.w+1:=by
 have:=zau q
 simp only[Sd.put,Sd.w,Al5,Al2,Al3] at this ⊢;omega
theorem zgQ {q q':Sd} {t t':List UInt8} (h:yJ q t=some (q',t')):q'.w+t'.length≤q.w+t.length:=by
 cases t with
 | nil=>cases h
 | cons c t =>
  simp only[yJ] at h
  split at h
  ·cases hu:yD t with
   | none=>simp[hu] at h
   | some u =>
    simp only[hu,zK,Al1,Al8] at h
    obtain⟨rfl,rfl⟩:=h
    have:=Zr _ _ _ _ hu
    simp only[Sd.w,Al5,Al2,Al3,zI];omega
  ·split at h
   ·cases h
   ·simp only[Al1,Al8] at h
    obtain⟨rfl,rfl⟩:=h
    have:=zgx q (zeH.getD (Lib.indexByte ZG c).toNat 0)
    simp only[Al2];omega
theorem zeB {may:UInt8→Bool}:∀(n:Nat) (t:List UInt8) (q q':Sd) (t':List UInt8),Zj may n t q=some (q',t')→q'.b.length+t'.length+1≤q.w+t.length
 | 0,_,_,_,_,h=>by cases h
 | _+1,[],_,_,_,h=>by cases h
 | n+1,c::t,q,q',t',h=>by
  simp only[Zj] at h
  split at h
  ·simp only[Al1,Al8] at h
   obtain⟨rfl,rfl⟩:=h
   have:=zau q
   simp only[Al2];omega
  ·split at h
   ·cases he:yJ q t with
    | none=>simp[he] at h
    | some x =>
     obtain⟨q1,t1⟩:=x
     simp only[he] at h
     have h1:=zgQ he
     have h2:=zeB n t1 q1 q' t' h
     simp only[Al2];omega
   ·split at h
    ·have h2:=zeB n t _ q' t' h
     have h3:=zgx q c
     simp only[Al2];omega
    ·cases h
theorem ziG {may:UInt8→Bool} {t t' b:List UInt8} (h:yt may t=some (b,t')):b.length+t'.length+1≤t.length:=by
 unfold yt at h
 split at h
 ·rename_i q t1 hq
  split at h
  ·cases h;have:=zeB _ _ _ _ _ hq;simpa[Sd.w] using this
  ·cases h
 ·cases h
theorem zds:inR 0:=by simp[inR]
theorem zfw {s:List UInt8} {n:Int} (h:Lib.parseIntB 64 s=.ok n):inR n:=by
 cases s with
 | nil=>cases h
 | cons c r =>
  simp only[Lib.parseIntB] at h
  split at h
  ·cases h
  ·cases h
  ·split at h
   ·cases h
   ·split at h
    ·cases h
    ·rename_i h1 h2
     cases h
     simp only[inR]
     split<;>simp_all<;>omega
theorem zhl (s:List UInt8):bV (zcd s)≤1+s.length∧wfV (zcd s):=by
 unfold zcd
 split
 ·rename_i h
  refine⟨by simp only[bV,bVs,bMs,Al3];omega,?_,trivial,trivial⟩
  unfold ZF at h
  unfold zco
  rcases hp:Lib.parseIntB 64 s with v|_|_
  ·exact zfw hp
  ·exact zds
  ·rw[hp] at h;simp[okI] at h
 ·exact⟨by simp only[bV,bVs,bMs];omega,zds,trivial,trivial⟩
abbrev TS:=List Tok
def hdT (t:TS):Tok:=t.headD ⟨0,[]⟩
def isP (m:List UInt8) (t:TS):Bool:=decide ((hdT t).k=1)&&decide ((hdT t).s=m)
def isW (w:List UInt8) (t:TS):Bool:=decide ((hdT t).k=2)&&decide ((hdT t).s=w)
abbrev PR (α:Type):=Except Int (α×TS)
def pb {α β:Type} (x:PR α) (f:α→TS→PR β):PR β:=match x with
 | .ok (a,t)=>f a t
 | .error e=>.error e
theorem zf {α β:Type} (a:α) (t:TS) (f:α→TS→PR β):pb (.ok (a,t)) f=f a t:=rfl
def yA (m:List UInt8) (t:TS):PR Unit:=if isP m t then .ok ((),t.tail) else .error 2
def zL (t:TS):PR (List UInt8):=if (hdT t).k=2 then .ok ((hdT t).s,t.tail) else .error 2
def yT (w:List UInt8) (t:TS):TS:=if isW w t then t.tail else t
def zG {α:Type} (m:List UInt8) (f:TS→PR α):Nat→List α→TS→PR (List α)
 | 0,_,_=>.error 0
 | n+1,l,t=>if isP m t then .ok (l,t.tail) else pb (f t) fun x t=>zG m f n (l++[x]) t
def Yv {α:Type} (m:List UInt8) (f:TS→PR α) (t:TS):PR (List α):=pb (f t) fun x t=>zG m f (t.length+1) [x] t
def ZX {α:Type} (m:List UInt8) (f:TS→PR α):Nat→List α→TS→PR (List α)
 | 0,_,_=>.error 0
 | n+1,l,t=>if isP m t then pb (f t.tail) fun x t=>ZX m f n (l++[x]) t else .ok (l,t)
def Yt (ty:TyD) (t:TS):PR TyD:=if isP [33] t then .ok (⟨ty.nm,ty.lists,ty.musts+1⟩,t.tail) else .ok (ty,t)
def zg6 {α:Type} (f:Nat→α):Nat→Option α
 | 0=>none
 | k+1=>some (f k)
theorem zfe {α:Type} (f:Nat→α) (k:Nat):zg6 f (k+1)=some (f k):=rfl
def zbx (sub:Option (TS→PR TyD)) (t:TS):PR TyD:=if isP [91] t then (match sub with
   | none=>.error 4
   | some f=>pb (f t.tail) fun ty t=>pb (yA [93] t) fun _ t=>Yt ⟨ty.nm,ty.lists+1,ty.musts*2⟩ t)
  else pb (zL t) fun s t=>Yt ⟨s,0,0⟩ t
def ZS:Nat→TS→PR TyD
 | 0=>zbx none
 | k+1=>zbx (some (ZS k))
theorem Zm (k:Nat) (t:TS):ZS k t=zbx (zg6 ZS k) t:=by cases k<;>rfl
def yE (s:List UInt8):Val:=if s=[110,117,108,108] then zV else if s=[116,114,117,101] then .mk 1 1 [] [] [] else if s=[102,97,108,115,101] then .mk 1 0 [] [] [] else .mk 5 0 s [] []
def zP (v:TS→PR Val) (t:TS):PR Mem:=pb (zL t) fun s t=>pb (yA [58] t) fun _ t=>pb (v t) fun x t=>.ok (.mk s x,t)
def ZR (fixed:Bool) (sub:Option (TS→PR Val)) (t:TS):PR Val :=
  if (hdT t).k=2 then .ok (yE (hdT t).s,t.tail)
  else if (hdT t).k=3∨(hdT t).k=4 then .ok (zcd (hdT t).s,t.tail)
  else if (hdT t).k=5 then .ok (.mk 4 0 (hdT t).s [] [],t.tail)
  else if isP [91] t then (match sub with
   | none=>.error 4
   | some f=>pb (zG [93] f (t.tail.length+1) [] t.tail) fun l t=>.ok (.mk 6 0 [] l [],t))
  else if isP [123] t then (match sub with
   | none=>.error 4
   | some f=>pb (zG [125] (zP f) (t.tail.length+1) [] t.tail) fun l t=>.ok (.mk 7 0 [] [] l,t))
  else if fixed then .error 2
  else pb (yA [36] t) fun _ t=>pb (zL t) fun s t=>.ok (.mk 8 0 s [] [],t)
def yc (fixed:Bool):Nat→TS→PR Val
 | 0=>ZR fixed none
 | k+1=>ZR fixed (some (yc fixed k))
theorem zZ (fixed:Bool) (k:Nat) (t:TS):yc fixed k t=ZR fixed (zg6 (yc fixed) k) t:=by cases k<;>rfl
def ZI (fixed:Bool) (k:Nat) (t:TS):PR (List Mem):=if isP [40] t then Yv [41] (zP (yc fixed k)) t.tail else .ok ([],t)
def zc6 (fixed:Bool) (k:Nat) (t:TS):PR DirD:=pb (zL t) fun s t=>pb (ZI fixed k t) fun a t=>.ok (⟨s,a⟩,t)
def Zd (fixed:Bool) (k:Nat) (t:TS):PR (List DirD):=ZX [64] (zc6 fixed k) (t.length+1) [] t
def yz (sels:TS→PR (List SelD)) (k:Nat) (t:TS):PR SelD :=
 if (hdT t).k=2∧isW [111,110] t=false then pb (zL t) fun s t=>pb (Zd false k t) fun d t=>.ok (.mk 1 [] s [] d [] [],t)
 else pb (if isW [111,110] t then zL t.tail else .ok ([],t)) fun o t=>pb (Zd false k t) fun d t=>pb (sels t) fun l t=>.ok (.mk 2 [] [] [] d o l,t)
def YH (sels:TS→PR (List SelD)) (k:Nat) (t:TS):PR SelD :=
 if isP [46,46,46] t then yz sels k t.tail
 else pb (zL t) fun s t=>pb (if isP [58] t then pb (zL t.tail) fun s2 t=>.ok ((s,s2),t) else .ok (([],s),t)) fun an t =>
  pb (ZI false k t) fun a t=>pb (Zd false k t) fun d t=>pb (if isP [123] t then sels t else .ok ([],t)) fun l t=>.ok (.mk 0 an.1 an.2 a d [] l,t)
def zE:Nat→TS→PR (List SelD)
 | 0,t=>if isP [123] t then .error 4 else .error 2
 | k+1,t=>if isP [123] t then Yv [125] (YH (zE k) k) t.tail else .error 2
def Ye (t:TS):PR VarD:=pb (yA [36] t) fun _ t=>pb (zL t) fun s t=>pb (yA [58] t) fun _ t=>pb (ZS 4 t) fun ty t =>
 if isP [61] t then pb (yc true 16 t.tail) fun v t=>.ok (⟨s,ty,true,v⟩,t) else .ok (⟨s,ty,false,zV⟩,t)
def opP (kind:Int) (t:TS):PR OpD :=
 pb (if (hdT t).k=2 then zL t else .ok ([],t)) fun s t=>pb (if isP [40] t then Yv [41] Ye t.tail else .ok ([],t)) fun vs t =>
 pb (Zd true 16 t) fun d t=>pb (zE 16 t) fun l t=>.ok (⟨kind,s,vs,d,l⟩,t)
def zaZ (t:TS):PR FragD :=
 pb (if isW [111,110] t then .error 2 else zL t) fun s t=>pb (if isW [111,110] t then .ok ((),t.tail) else .error 2) fun _ t=>pb (zL t) fun o t =>
 pb (Zd true 16 t) fun d t=>pb (zE 16 t) fun l t=>.ok (⟨s,o,d,l⟩,t)
def Zl (d:DocD) (t:TS):PR DocD :=
 if isP [123] t then pb (zE 16 t) fun l t=>.ok (⟨d.ops++[⟨0,[],[],[],l⟩],d.frags⟩,t)
 else if isW [113,117,101,114,121] t then pb (opP 0 t.tail) fun o t=>.ok (⟨d.ops++[o],d.frags⟩,t)
 else if isW [109,117,116,97,116,105,111,110] t then pb (opP 1 t.tail) fun o t=>.ok (⟨d.ops++[o],d.frags⟩,t)
 else if isW [102,114,97,103,109,101,110,116] t then pb (zaZ t.tail) fun f t=>.ok (⟨d.ops,d.frags++[f]⟩,t)
 else .error 2
def zaB:Nat→DocD→TS→PR DocD
 | 0,_,_=>.error 0
 | n+1,d,t=>if t=[] then .ok (d,t) else pb (Zl d t) fun d t=>zaB n d t
def zeI (t:TS):PR DocD:=pb (Zl ⟨[],[]⟩ t) fun d t=>zaB (t.length+1) d t
def wK (t:Tok):Nat:=t.s.length+4
def wT (l:TS):Nat:=(l.map wK).sum
theorem zc4 (x:Tok) (l:TS):wT (x::l)=wK x+wT l:=by simp[wT]
structure Fp {α:Type} (b:α→Nat) (ok:α→Prop) (c:Nat) (t:TS) (a:α) (t':TS):Prop where
 suf:t' <:+ t
 w:b a+c+wT t'≤wT t
 ok:ok a
def GP {α:Type} (b:α→Nat) (ok:α→Prop) (c:Nat) (f:TS→PR α):Prop:=∀ t a t',f t=.ok (a,t')→Fp b ok c t a t'
theorem Fp.lt {α:Type} {b:α→Nat} {ok:α→Prop} {c:Nat} {t t':TS} {a:α} (h:Fp b ok c t a t') (hc:0<c):t'.length<t.length:=by
 obtain⟨p,hp⟩:=h.suf
 have h2:=h.w
 cases p with
 | nil=>simp at hp;subst hp;omega
 | cons x p=>rw[← hp];simp;omega
theorem y9 {t:TS} (h:(hdT t).k≠0):t=hdT t::t.tail:=by
 cases t with
 | nil=>exact absurd rfl h
 | cons x t=>rfl
theorem zb9 {m:List UInt8} {t:TS} (h:isP m t=true):(hdT t).k≠0:=by
 simp only[isP,Al0,zm] at h;rw[h.1];decide
theorem YB {m:List UInt8} {t:TS} (h:isW m t=true):(hdT t).k≠0:=by
 simp only[isW,Al0,zm] at h;rw[h.1];decide
theorem zbk {t:TS} (h:(hdT t).k≠0):t.tail <:+ t∧(hdT t).s.length+4+wT t.tail=wT t:=by
 refine⟨List.tail_suffix t,?_⟩
 conv=>rhs;rw[y9 h,zc4]
 rfl
theorem y1 {m:List UInt8} {t:TS} (h:isP m t=true):t.tail <:+ t∧4+wT t.tail≤wT t:=by
 have:=zbk (zb9 h);exact⟨this.1,by omega⟩
theorem zdm {m:List UInt8} {t:TS} (h:isW m t=true):t.tail <:+ t∧4+wT t.tail≤wT t:=by
 have:=zbk (YB h);exact⟨this.1,by omega⟩
def T1 {α:Type} (_:α):Prop:=True
def b0 {α:Type} (_:α):Nat:=0
theorem Z6 (m:List UInt8):GP b0 T1 4 (yA m):=fun t a t' h=>by
 unfold yA at h
 split at h
 ·rename_i hp;simp only[zfu,Al8] at h;obtain⟨_,rfl⟩:=h
  have:=y1 hp;exact⟨this.1,by simp only[b0];omega,trivial⟩
 ·cases h
theorem z6:GP List.length T1 4 zL:=fun t a t' h=>by
 unfold zL at h
 split at h
 ·rename_i hp;simp only[zfu,Al8] at h;obtain⟨rfl,rfl⟩:=h
  have:=zbk (t:=t) (by rw[hp];decide);exact⟨this.1,by omega,trivial⟩
 ·cases h
theorem zn {α β:Type} {x:PR α} {f:α→TS→PR β} {b:β} {t':TS} (h:pb x f=.ok (b,t')):∃ a t,x=.ok (a,t)∧f a t=.ok (b,t'):=by
 rcases x with e|⟨a,t⟩
 ·cases h
 ·exact⟨a,t,rfl,h⟩
def sm {α:Type} (b:α→Nat) (l:List α):Nat:=(l.map b).sum+l.length
theorem zeW {α:Type} (b:α→Nat) (l:List α) (x:α):sm b (l++[x])=sm b l+b x+1:=by simp[sm];omega
theorem ze0 {α:Type} {ok:α→Prop} {l:List α} {x:α} (h:∀ y∈l,ok y) (hx:ok x):∀ y∈l++[x],ok y:=fun y hy=>by
 rcases List.mem_append.1 hy with h1|h1
 ·exact h y h1
 ·simp at h1;subst h1;exact hx
theorem YY {α:Type} {b:α→Nat} {ok:α→Prop} {m:List UInt8} {f:TS→PR α} (hf:GP b ok 1 f):∀(n:Nat) (l:List α) (t:TS) (l':List α) (t':TS),(∀ x∈l,ok x)→zG m f n l t=.ok (l',t')→t' <:+ t∧sm b l'+4+wT t'≤sm b l+wT t∧∀ x∈l',ok x
 | 0,_,_,_,_,_,h=>by cases h
 | n+1,l,t,l',t',hl,h=>by
  simp only[zG] at h
  split at h
  ·rename_i hp;simp only[zfu,Al8] at h;obtain⟨rfl,rfl⟩:=h
   have:=y1 hp;exact⟨this.1,by omega,hl⟩
  ·obtain⟨x,t1,h1,h2⟩:=zn h
   have g1:=hf _ _ _ h1
   have w:=g1.w
   have g2:=YY hf n _ _ _ _ (ze0 hl g1.ok) h2
   rw[zeW] at g2
   exact⟨g2.1.trans g1.suf,by omega,g2.2.2⟩
theorem zbF {α:Type} {b:α→Nat} {ok:α→Prop} {m:List UInt8} {f:TS→PR α} (hf:GP b ok 1 f):∀(n:Nat) (l:List α) (t:TS) (l':List α) (t':TS),(∀ x∈l,ok x)→ZX m f n l t=.ok (l',t')→t' <:+ t∧sm b l'+wT t'≤sm b l+wT t∧∀ x∈l',ok x
 | 0,_,_,_,_,_,h=>by cases h
 | n+1,l,t,l',t',hl,h=>by
  simp only[ZX] at h
  split at h
  ·rename_i hp
   have h0:=y1 hp
   obtain⟨x,t1,h1,h2⟩:=zn h
   have g1:=hf _ _ _ h1
   have w:=g1.w
   have g2:=zbF hf n _ _ _ _ (ze0 hl g1.ok) h2
   rw[zeW] at g2
   exact⟨(g2.1.trans g1.suf).trans h0.1,by omega,g2.2.2⟩
  ·simp only[zfu,Al8] at h;obtain⟨rfl,rfl⟩:=h
   exact⟨List.suffix_refl t,by omega,hl⟩
theorem zaf {α:Type} {b:α→Nat} {ok:α→Prop} {m:List UInt8} {f:TS→PR α} (hf:GP b ok 1 f):GP (sm b) (fun l=>∀ x∈l,ok x) 4 (Yv m f):=fun t l t' h=>by
 obtain⟨x,t1,h1,h2⟩:=zn h
 have g1:=hf _ _ _ h1
 have w:=g1.w
 have g2:=YY hf _ [x] _ _ _ (fun y hy=>by simp at hy;subst hy;exact g1.ok) h2
 have e:sm b [x]=b x+1:=by simp[sm]
 exact⟨g2.1.trans g1.suf,by omega,g2.2.2⟩
theorem zdx {m:List UInt8} {t:TS} (h:isP m t=true):t.tail.length<t.length:=by
 conv=>rhs;rw[y9 (zb9 h)]
 simp
theorem GP.lt {α:Type} {b:α→Nat} {ok:α→Prop} {c:Nat} {f:TS→PR α} (h:GP b ok c f) (hc:0<c):∀ t a t',f t=.ok (a,t')→t'.length<t.length:=fun t a t' e=>(h t a t' e).lt hc
def zj3 (ty:TyD) (n:Nat):Prop:=0≤ty.lists∧ty.lists≤n∧0≤ty.musts∧ty.musts<2 ^ (ty.lists.toNat+1)∧ty.musts % 2=0
def zdG (n:Nat) (ty:TyD):Prop:=0≤ty.lists∧ty.lists≤n∧0≤ty.musts∧ty.musts<2 ^ (ty.lists.toNat+1)
theorem zcz {ty:TyD} {n:Nat} (h:zj3 ty n):∀ t a t',Yt ty t=.ok (a,t')→t' <:+ t∧a.nm=ty.nm∧wT t'≤wT t∧zdG n a:=fun t a t' e=>by
 obtain⟨h1,h2,h3,h4,h5⟩:=h
 unfold Yt at e
 split at e
 ·rename_i hp;simp only[zfu,Al8] at e;obtain⟨rfl,rfl⟩:=e
  have:=y1 hp
  refine⟨this.1,rfl,by omega,h1,h2,by simp only;omega,?_⟩
  have e2:(2:Int) ^ (ty.lists.toNat+1) % 2=0:=by rw[Int.pow_succ];omega
  simp only;omega
 ·simp only[zfu,Al8] at e;obtain⟨rfl,rfl⟩:=e
  exact⟨List.suffix_refl t,rfl,Al4 _,h1,h2,h3,h4⟩
theorem zcH (n:Nat) (ih:∀ m,n=m+1→GP (fun ty=>ty.nm.length) (zdG m) 4 (ZS m)):GP (fun ty=>ty.nm.length) (zdG n) 4 (ZS n):=fun t a t' h=>by
 rw[Zm,zbx.eq_def] at h
 split at h
 ·rename_i hp
  have h0:=y1 hp
  cases n with
  | zero=>cases h
  | succ n =>
   obtain⟨ty,t1,h1,h2⟩:=zn h
   obtain⟨_,t2,h3,h4⟩:=zn h2
   have g1:=ih n rfl _ _ _ h1
   have g3:=Z6 _ _ _ _ h3
   obtain⟨a1,a2,a3,a4⟩:=g1.ok
   have e1:(ty.lists+1).toNat=ty.lists.toNat+1:=by omega
   have g4:=zcz (n:=n+1) ⟨by simp only;omega,by simp only;omega,by simp only;omega,by simp only;rw[e1,Int.pow_succ];omega,by simp only;omega⟩ _ _ _ h4
   have w1:=g1.w
   have w3:=g3.w
   simp only[b0] at w1 w3
   exact⟨((g4.1.trans g3.suf).trans g1.suf).trans h0.1,by rw[g4.2.1];simp only;omega,g4.2.2.2⟩
 ·obtain⟨s,t1,h1,h2⟩:=zn h
  have g1:=z6 _ _ _ h1
  have g4:=zcz (n:=n) ⟨by simp,by simp,by simp,by simp,by simp⟩ _ _ _ h2
  have w1:=g1.w
  exact⟨g4.1.trans g1.suf,by rw[g4.2.1];simp only;omega,g4.2.2.2⟩
theorem zbH:∀ n,GP (fun ty=>ty.nm.length) (zdG n) 4 (ZS n)
 | 0=>zcH 0 fun m h=>by cases h
 | k+1=>zcH (k+1) fun m h=>by cases h;exact zbH k
def wfD (x:DirD):Prop:=zfB x.args
def zhQ (l:List DirD):Prop:=∀ x∈l,wfD x
mutual
def wfS:SelD→Prop
 | .mk _ _ _ args dirs _ sels=>zfB args∧zhQ dirs∧zd9 sels
def zd9:List SelD→Prop
 | []=>True
 | x::r=>wfS x∧zd9 r
end
def wfW (x:VarD):Prop:=inR x.t.lists∧inR x.t.musts∧wfV x.d
def wfO (x:OpD):Prop:=(∀ y∈x.vars,wfW y)∧zhQ x.dirs∧zd9 x.sels
def wfF (x:FragD):Prop:=zhQ x.dirs∧zd9 x.sels
def pk (s:List UInt8):Tok:=⟨1,s⟩
def wk (s:List UInt8):Tok:=⟨2,s⟩
def zjG (l:List Mem):List Tok:=if l.length=0 then [] else pk [40]::(zgY l++[pk [41]])
def tD (d:DirD):List Tok:=pk [64]::wk d.nm::zjG d.args
theorem zdq:bV zV=1∧wfV zV:=⟨rfl,zds,trivial,trivial⟩
theorem zfP (s:List UInt8):bV (yE s)≤1+s.length∧wfV (yE s):=by
 unfold yE
 split
 ·exact⟨by rw[zdq.1];omega,zdq.2⟩
 split
 ·exact⟨by simp only[bV,bVs,bMs,Al3];omega,by simp[inR],trivial,trivial⟩
 split
 ·exact⟨by simp only[bV,bVs,bMs,Al3];omega,zds,trivial,trivial⟩
 ·exact⟨by simp only[bV,bVs,bMs];omega,zds,trivial,trivial⟩
theorem z8 {f:TS→PR Val} (hf:GP bV wfV 1 f):GP bM wfM 1 (zP f):=fun t x t' h=>by
 obtain⟨s,t1,h1,h2⟩:=zn h
 obtain⟨_,t2,h3,h4⟩:=zn h2
 obtain⟨v,t3,h5,h6⟩:=zn h4
 cases h6
 have g1:=z6 _ _ _ h1
 have g2:=Z6 _ _ _ _ h3
 have g3:=hf _ _ _ h5
 have w1:=g1.w
 have w2:=g2.w
 have w3:=g3.w
 simp only[b0] at w2
 exact⟨(g3.suf.trans g2.suf).trans g1.suf,by simp only[bM];omega,g3.ok⟩
theorem zgy:∀ l:List Val,bVs l+l.length=sm bV l
 | []=>rfl
 | v::r=>by have:=zgy r;simp only[sm,bVs,Al2,List.map_cons,List.sum_cons] at *;omega
theorem zey:∀ l:List Mem,bMs l+l.length=sm bM l
 | []=>rfl
 | v::r=>by have:=zey r;simp only[sm,bMs,Al2,List.map_cons,List.sum_cons] at *;omega
theorem zff:∀ {l:List Val},(∀ v∈l,wfV v)→ziR l
 | [],_=>trivial
 | v::r,h=>⟨h v (.head _),zff fun x hx=>h x (.tail _ hx)⟩
theorem zdn:∀ {l:List Mem},(∀ v∈l,wfM v)→zfB l
 | [],_=>trivial
 | v::r,h=>⟨h v (.head _),zdn fun x hx=>h x (.tail _ hx)⟩
theorem zcv (fixed:Bool) (k:Nat) (ih:∀ n,k=n+1→GP bV wfV 1 (yc fixed n)):GP bV wfV 1 (yc fixed k):=fun t v t' h=>by
 rw[zZ,ZR.eq_def] at h
 split at h
 ·rename_i hk
  cases h
  have h0:=zbk (t:=t) (by omega)
  have h1:=zfP (hdT t).s
  exact⟨h0.1,by omega,h1.2⟩
 split at h
 ·rename_i hk
  cases h
  have h0:=zbk (t:=t) (by omega)
  have h1:=zhl (hdT t).s
  exact⟨h0.1,by omega,h1.2⟩
 split at h
 ·rename_i hk
  cases h
  have h0:=zbk (t:=t) (by omega)
  exact⟨h0.1,by simp only[bV,bVs,bMs];omega,zds,trivial,trivial⟩
 split at h
 ·rename_i hp
  have h0:=y1 hp
  cases k with
  | zero=>cases h
  | succ n =>
   obtain⟨l,t1,h1,h2⟩:=zn h
   cases h2
   have g:=YY (ih n rfl) _ [] _ _ _ (fun x hx=>by cases hx) h1
   have e:=zgy l
   have e0:sm bV []=0:=rfl
   exact⟨g.1.trans h0.1,by simp only[bV,bMs,Al3];omega,zds,zff g.2.2,trivial⟩
 split at h
 ·rename_i hp
  have h0:=y1 hp
  cases k with
  | zero=>cases h
  | succ n =>
   obtain⟨l,t1,h1,h2⟩:=zn h
   cases h2
   have g:=YY (z8 (ih n rfl)) _ [] _ _ _ (fun x hx=>by cases hx) h1
   have e:=zey l
   have e0:sm bM []=0:=rfl
   exact⟨g.1.trans h0.1,by simp only[bV,bVs,Al3];omega,zds,trivial,zdn g.2.2⟩
 split at h
 ·cases h
 ·obtain⟨_,t1,h1,h2⟩:=zn h
  obtain⟨s,t2,h3,h4⟩:=zn h2
  cases h4
  have g1:=Z6 _ _ _ _ h1
  have g2:=z6 _ _ _ h3
  have w1:=g1.w
  have w2:=g2.w
  simp only[b0] at w1
  exact⟨g2.suf.trans g1.suf,by simp only[bV,bVs,bMs];omega,zds,trivial,trivial⟩
theorem yb (fixed:Bool):∀ k,GP bV wfV 1 (yc fixed k)
 | 0=>zcv fixed 0 fun n h=>by cases h
 | k+1=>zcv fixed (k+1) fun n h=>by cases h;exact yb fixed k
theorem zcs (fixed:Bool) (k:Nat):GP bMs zfB 0 (ZI fixed k):=fun t a t' h=>by
 unfold ZI at h
 split at h
 ·rename_i hp
  have h0:=y1 hp
  have g:=zaf (z8 (yb fixed k)) _ _ _ h
  have e:=zey a
  have w:=g.w
  exact⟨g.suf.trans h0.1,by omega,zdn g.ok⟩
 ·cases h
  exact⟨List.suffix_refl t,by simp[bMs],trivial⟩
theorem zbY (fixed:Bool) (k:Nat):GP bD wfD 1 (zc6 fixed k):=fun t a t' h=>by
 obtain⟨s,t1,h1,h2⟩:=zn h
 obtain⟨l,t2,h3,h4⟩:=zn h2
 cases h4
 have g1:=z6 _ _ _ h1
 have g2:=zcs fixed k _ _ _ h3
 have w1:=g1.w
 have w2:=g2.w
 exact⟨g2.suf.trans g1.suf,by simp only[bD];omega,g2.ok⟩
theorem ziL (l:List DirD):bDs l+l.length=sm bD l:=rfl
theorem Z1 (fixed:Bool) (k:Nat):GP bDs zhQ 0 (Zd fixed k):=fun t a t' h=>by
 have g:=zbF (zbY fixed k) _ [] _ _ _ (fun x hx=>by cases hx) h
 have e:=ziL a
 have e0:sm bD []=0:=rfl
 exact⟨g.1,by omega,g.2.2⟩
theorem zgk:∀ l:List SelD,bSs l+l.length=sm bS l
 | []=>rfl
 | v::r=>by have:=zgk r;simp only[sm,bSs,Al2,List.map_cons,List.sum_cons] at *;omega
theorem ze4:∀ {l:List SelD},(∀ v∈l,wfS v)→zd9 l
 | [],_=>trivial
 | v::r,h=>⟨h v (.head _),ze4 fun x hx=>h x (.tail _ hx)⟩
theorem zaS {k:Nat} {sels:TS→PR (List SelD)} (hs:GP bSs zd9 4 sels):GP bS wfS 1 (YH sels k):=fun t a t' h=>by
 unfold YH at h
 split at h
 ·rename_i hp
  have h0:=y1 hp
  unfold yz at h
  split at h
  ·obtain⟨s,t1,h1,h2⟩:=zn h
   obtain⟨d,t2,h3,h4⟩:=zn h2
   cases h4
   have g1:=z6 _ _ _ h1
   have g2:=Z1 false k _ _ _ h3
   have w1:=g1.w
   have w2:=g2.w
   exact⟨(g2.suf.trans g1.suf).trans h0.1,by simp only[bS,bMs,bSs,Al3];omega,trivial,g2.ok,trivial⟩
  ·obtain⟨o,t1,h1,h2⟩:=zn h
   obtain⟨d,t2,h3,h4⟩:=zn h2
   obtain⟨l,t3,h5,h6⟩:=zn h4
   cases h6
   have g1:t1 <:+ t.tail∧o.length+wT t1≤wT t.tail:=by
    split at h1
    ·rename_i hw
     have h7:=zdm hw
     have g:=z6 _ _ _ h1
     have w:=g.w
     exact⟨g.suf.trans h7.1,by omega⟩
    ·cases h1;exact⟨List.suffix_refl _,by simp⟩
   have g2:=Z1 false k _ _ _ h3
   have g3:=hs _ _ _ h5
   have w2:=g2.w
   have w3:=g3.w
   exact⟨((g3.suf.trans g2.suf).trans g1.1).trans h0.1,by simp only[bS,bMs,Al3];omega,trivial,g2.ok,g3.ok⟩
 ·obtain⟨s,t1,h1,h2⟩:=zn h
  obtain⟨an,t2,h3,h4⟩:=zn h2
  obtain⟨l,t3,h5,h6⟩:=zn h4
  obtain⟨d,t4,h7,h8⟩:=zn h6
  obtain⟨ss,t5,h9,h10⟩:=zn h8
  cases h10
  have g1:=z6 _ _ _ h1
  have g2:t2 <:+ t1∧an.1.length+an.2.length+wT t2≤s.length+wT t1:=by
   split at h3
   ·rename_i hw
    have h7:=y1 hw
    obtain⟨s2,t6,h11,h12⟩:=zn h3
    cases h12
    have g:=z6 _ _ _ h11
    have w:=g.w
    exact⟨g.suf.trans h7.1,by simp only;omega⟩
   ·cases h3;exact⟨List.suffix_refl _,by simp⟩
  have g3:=zcs false k _ _ _ h5
  have g4:=Z1 false k _ _ _ h7
  have g5:t' <:+ t4∧bSs ss+wT t'≤wT t4∧zd9 ss:=by
   split at h9
   ·have g:=hs _ _ _ h9
    have w:=g.w
    exact⟨g.suf,by omega,g.ok⟩
   ·cases h9;exact⟨List.suffix_refl _,by simp[bSs],trivial⟩
  have w1:=g1.w
  have w3:=g3.w
  have w4:=g4.w
  exact⟨(((g5.1.trans g4.suf).trans g3.suf).trans g2.1).trans g1.suf,by simp only[bS,Al3];omega,g3.ok,g4.ok,g5.2.2⟩
theorem yN:∀ k,GP bSs zd9 4 (zE k)
 | 0=>fun t a t' h=>by rw[zE] at h;split at h<;>cases h
 | k+1=>fun t a t' h=>by
  rw[zE] at h
  split at h
  ·rename_i hp
   have h0:=y1 hp
   have g:=zaf (zaS (k:=k) (yN k)) _ _ _ h
   have e:=zgk a
   have w:=g.w
   exact⟨g.suf.trans h0.1,by omega,ze4 g.ok⟩
  ·cases h
theorem zc1 {n:Int} (h0:0≤n) (h1:n<64):inR n:=by simp only[inR];omega
theorem zhs {ty:TyD} (h:zdG 4 ty):inR ty.lists∧inR ty.musts:=by
 obtain⟨h1,h2,h3,h4⟩:=h
 refine⟨zc1 h1 (by omega),zc1 h3 ?_⟩
 have:ty.lists.toNat+1≤5:=by omega
 have h5:(2:Int) ^ (ty.lists.toNat+1)≤2 ^ 5:=by exact_mod_cast Nat.pow_le_pow_right (by decide) this
 omega
theorem Z0:GP bW wfW 1 Ye:=fun t a t' h=>by
 obtain⟨_,t1,h1,h2⟩:=zn h
 obtain⟨s,t2,h3,h4⟩:=zn h2
 obtain⟨_,t3,h5,h6⟩:=zn h4
 obtain⟨ty,t4,h7,h8⟩:=zn h6
 have g1:=Z6 _ _ _ _ h1
 have g2:=z6 _ _ _ h3
 have g3:=Z6 _ _ _ _ h5
 have g4:=zbH 4 _ _ _ h7
 have w1:=g1.w
 have w2:=g2.w
 have w3:=g3.w
 have w4:=g4.w
 simp only[b0] at w1 w3
 have hw:=zhs g4.ok
 split at h8
 ·rename_i hp
  have h0:=y1 hp
  obtain⟨v,t5,h9,h10⟩:=zn h8
  cases h10
  have g5:=yb true 16 _ _ _ h9
  have w5:=g5.w
  exact⟨((((g5.suf.trans h0.1).trans g4.suf).trans g3.suf).trans g2.suf).trans g1.suf,by simp only[bW];omega,hw.1,hw.2,g5.ok⟩
 ·cases h8
  exact⟨((g4.suf.trans g3.suf).trans g2.suf).trans g1.suf,by simp only[bW,zdq.1];omega,hw.1,hw.2,zdq.2⟩
theorem ziP (l:List VarD):bWs l+l.length=sm bW l:=rfl
theorem zbz (kind:Int):GP bO wfO 1 (opP kind):=fun t a t' h=>by
 obtain⟨s,t1,h1,h2⟩:=zn h
 obtain⟨vs,t2,h3,h4⟩:=zn h2
 obtain⟨d,t3,h5,h6⟩:=zn h4
 obtain⟨l,t4,h7,h8⟩:=zn h6
 cases h8
 have g1:t1 <:+ t∧s.length+wT t1≤wT t:=by
  split at h1
  ·have g:=z6 _ _ _ h1
   have w:=g.w
   exact⟨g.suf,by omega⟩
  ·cases h1;exact⟨List.suffix_refl _,by simp⟩
 have g2:t2 <:+ t1∧bWs vs+wT t2≤wT t1∧∀ x∈vs,wfW x:=by
  split at h3
  ·rename_i hp
   have h0:=y1 hp
   have g:=zaf Z0 _ _ _ h3
   have w:=g.w
   have e:=ziP vs
   exact⟨g.suf.trans h0.1,by omega,g.ok⟩
  ·cases h3;exact⟨List.suffix_refl _,by simp[bWs],fun x hx=>(by cases hx)⟩
 have g3:=Z1 true 16 _ _ _ h5
 have g4:=yN 16 _ _ _ h7
 have w3:=g3.w
 have w4:=g4.w
 exact⟨((g4.suf.trans g3.suf).trans g2.1).trans g1.1,by simp only[bO];omega,g2.2.2,g3.ok,g4.ok⟩
theorem zcT:GP bF wfF 1 zaZ:=fun t a t' h=>by
 obtain⟨s,t1,h1,h2⟩:=zn h
 obtain⟨_,t2,h3,h4⟩:=zn h2
 obtain⟨o,t3,h5,h6⟩:=zn h4
 obtain⟨d,t4,h7,h8⟩:=zn h6
 obtain⟨l,t5,h9,h10⟩:=zn h8
 cases h10
 have g1:Fp List.length T1 4 t s t1:=by
  split at h1
  ·cases h1
  ·exact z6 _ _ _ h1
 have g2:t2 <:+ t1∧wT t2≤wT t1:=by
  split at h3
  ·rename_i hw
   cases h3
   have h0:=zdm hw
   exact⟨h0.1,by omega⟩
  ·cases h3
 have g3:=z6 _ _ _ h5
 have g4:=Z1 true 16 _ _ _ h7
 have g5:=yN 16 _ _ _ h9
 have w1:=g1.w
 have w3:=g3.w
 have w4:=g4.w
 have w5:=g5.w
 exact⟨(((g5.suf.trans g4.suf).trans g3.suf).trans g2.1).trans g1.suf,by simp only[bF];omega,g4.ok,g5.ok⟩
theorem zbv {c:UInt8} {n:Nat} (hn:n<256) (h:c≠UInt8.ofNat n):¬ ((c.toNat:Int)=n):=fun e=>by
 have h2:=zbZ c n hn
 rw[e] at h2
 simp at h2
 exact h h2
theorem zgc (s:List UInt8) (hs:s.length≤Lim):Pure Tryz.prog 157 [.str s] (.tup [.int .i64 (zA s).1,.int .i64 (zA s).2]):=by
 refine Pure.go ir157 ck157 (Al4 _) fun KP Q hQ=>?_
 have hs':=hs
 simp only[Lim] at hs
 simp(disch:=first|omega|assumption) only[ir157,go_sem]
 refine goU_cut (fun i:Nat=>[(4,.int .i64 i)]) (fun i H=>(i=if s.head?=some 45 then 1 else 0)∧H=Heap.emp) (fun J hJ=>?_) ?_
 ·cases s with
  | nil =>
   simp(disch:=first|omega|assumption) only[go_sem]
   exact goJ (hJ 0 _ ⟨rfl,rfl⟩) (by simp(disch:=first|omega|assumption) only[go_sem])
  | cons c t =>
   have hp:(0:Int)<((t.length+1:Nat):Int):=by omega
   by_cases h:c=45
   ·have h':(c.toNat:Int)=45:=by rw[h];rfl
    simp(disch:=first|omega|assumption) only[hp,h',go_sem]
    exact goJ (hJ 1 _ ⟨by rw[h];rfl,rfl⟩) (by simp(disch:=first|omega|assumption) only[wrap64,go_sem])
   ·have h':¬ (c.toNat:Int)=45:=zbv (n:=45) (by omega) h
    simp(disch:=first|omega|assumption) only[hp,h',go_sem]
    exact goJ (hJ 0 _ ⟨by simp[h],rfl⟩) (by simp(disch:=first|omega|assumption) only[go_sem])
 rintro i H ⟨hi,rfl⟩
 have hil:i≤s.length:=by
  rw[hi];split
  ·rename_i h;cases s<;>simp_all
  ·omega
 have hw:zc s=if zh (s.drop i)=0 then 0 else i+yl (s.drop i):=by
  unfold zc
  rw[hi]
  split
  ·cases s<;>simp_all
  ·simp only[List.drop_zero,Nat.zero_add]
   split
   ·rename_i h;simp[yl,h]
   ·rfl
 have hrl:=yq (s.drop i)
 rw[zI] at hrl
 simp(disch:=first|omega|assumption) only[go_sem]
 refine goK_pure (zhb s i (by omega) (by omega) hs') ?_
 rw[Int.toNat_natCast]
 by_cases h0:zh (s.drop i)=0
 ·have hw0:zc s=0:=by rw[hw,if_pos h0]
  simp(disch:=first|omega|assumption) only[h0,go_sem]
  exact hQ _ _ _ _ nofun rfl (by simp[tupOf,envOf,AV.strip,AV.strip1,zA,hw0])
 have h0':¬ ((zh (s.drop i):Int)=0):=by omega
 rw[if_neg h0] at hw
 simp(disch:=first|omega|assumption) only[h0',go_sem]
 have hlt:(i:Int)<s.length:=by omega
 refine goU_cut (fun k:Nat=>[(5,.int .i64 k)]) (fun k H=>k=yl (s.drop i)∧H=Heap.emp) (fun J hJ=>?_) ?_
 ·rcases zH s i with ⟨e1,e2⟩|⟨e1,e2⟩
  ·rw[e1] at h0;exact absurd rfl h0
  have hg:(s.drop i).getD 0 0=s.getD i 0:=by rw[e2];rfl
  by_cases h:s.getD i 0=48
  ·have h':((s.getD i 0).toNat:Int)=48:=by rw[h];rfl
   simp(disch:=first|omega|assumption) only[hlt,h',go_sem]
   exact goJ (hJ 1 _ ⟨by unfold yl;rw[if_neg h0,hg,if_pos h],rfl⟩) (by simp(disch:=first|omega|assumption) only[go_sem])
  ·have h':¬ ((s.getD i 0).toNat:Int)=48:=zbv (n:=48) (by omega) h
   simp(disch:=first|omega|assumption) only[hlt,h',go_sem]
   exact goJ (hJ (zh (s.drop i)) _ ⟨by unfold yl;rw[if_neg h0,hg,if_neg h],rfl⟩) (by simp(disch:=first|omega|assumption) only[go_sem])
 rintro k H ⟨hk,rfl⟩
 subst hk
 have hn0:zc s≠0:=by have:=zgf h0;omega
 have hwl:=YS s
 have hik:(i:Int)+(yl (s.drop i):Int)=zc s:=by omega
 have hnum:zA s=(zc s+zD (s.drop (zc s))+yr (s.drop (zc s+zD (s.drop (zc s)))),if zD (s.drop (zc s))=0∧yr (s.drop (zc s+zD (s.drop (zc s))))=0 then 3 else 4):=by
  unfold zA;rw[if_neg hn0]
 generalize zc s=n at hn0 hwl hik hnum
 simp(disch:=first|omega|assumption) only[wrap64,hik,go_sem]
 refine goU_cut (fun x:Nat×Int=>[(4,.int .i64 x.1),(6,.int .i64 x.2)]) (fun x H=>x=(n+zD (s.drop n),if zD (s.drop n)=0 then 3 else 4)∧H=Heap.emp) (fun J hJ=>?_) ?_
 ·simp(disch:=first|omega|assumption) only[wrap64,hik,go_sem]
  rcases zH s n with ⟨e1,e2⟩|⟨e1,e2⟩
  ·have hlt:¬ (n:Int)<s.length:=by omega
   have hf:zD (s.drop n)=0:=by simp[zD,e1]
   simp(disch:=first|omega|assumption) only[hlt,go_sem]
   exact goJ (hJ (n,3) _ ⟨by simp[hf],rfl⟩) (by simp(disch:=first|omega|assumption) only[go_sem])
  ·have hlt:(n:Int)<s.length:=by omega
   by_cases h:s.getD n 0=46
   ·have hto:((n:Int)+1).toNat=n+1:=by omega
    have hv:((s.getD n 0).toNat:Int)=46:=by rw[h];rfl
    simp(disch:=first|omega|assumption) only[hlt,hv,wrap64,go_sem]
    refine goK_pure (zhb s (n+1) (by omega) (by omega) hs') ?_
    rw[hto]
    have hrl2:=yq (s.drop (n+1))
    rw[zI] at hrl2
    by_cases hr:0<zh (s.drop (n+1))
    ·have hf:zD (s.drop n)=1+zh (s.drop (n+1)):=by rw[e2,h];simp only[zD,List.head?_cons,List.tail_cons,true_and];rw[if_pos hr]
     have hr':(0:Int)<zh (s.drop (n+1)):=by omega
     simp(disch:=first|omega|assumption) only[hr',wrap64,go_sem]
     refine goK_pure (zhb s (n+1) (by omega) (by omega) hs') ?_
     rw[hto]
     simp(disch:=first|omega|assumption) only[wrap64,go_sem]
     exact goJ (hJ (n+1+zh (s.drop (n+1)),4) _ ⟨by rw[hf];simp;omega,rfl⟩) (by simp(disch:=first|omega|assumption) only[Int.natCast_add,Int.natCast_one,go_sem])
    ·have hf:zD (s.drop n)=0:=by rw[e2,h];simp only[zD,List.head?_cons,List.tail_cons,true_and];rw[if_neg hr]
     have hr':¬ (0:Int)<zh (s.drop (n+1)):=by omega
     simp(disch:=first|omega|assumption) only[hr',go_sem]
     exact goJ (hJ (n,3) _ ⟨by simp[hf],rfl⟩) (by simp(disch:=first|omega|assumption) only[go_sem])
   ·have h':¬ ((s.getD n 0).toNat:Int)=46:=zbv (n:=46) (by omega) h
    have hf:zD (s.drop n)=0:=by rw[e2];simp only[zD,List.head?_cons,Al1];rw[if_neg (fun e=>h e.1)]
    simp(disch:=first|omega|assumption) only[hlt,h',go_sem]
    exact goJ (hJ (n,3) _ ⟨by simp[hf],rfl⟩) (by simp(disch:=first|omega|assumption) only[go_sem])
 rintro⟨m,k⟩ H ⟨hx,rfl⟩
 simp only[Al8] at hx
 obtain⟨hm,hk⟩:=hx
 have hml:m≤s.length:=by
  have:=zbP (s.drop n)
  rw[zI] at this
  omega
 rw[← hm] at hnum
 simp(disch:=first|omega|assumption) only[go_sem]
 refine goU_cut (fun x:Nat×Int=>[(4,.int .i64 x.1),(6,.int .i64 x.2)]) (fun x H=>x=(m+yr (s.drop m),if yr (s.drop m)=0 then k else 4)∧H=Heap.emp) (fun J hJ=>?_) ?_
 ·rcases zH s m with ⟨e1,e2⟩|⟨e1,e2⟩
  ·have hlt:¬ (m:Int)<s.length:=by omega
   have hp:yr (s.drop m)=0:=by rw[e1];rfl
   simp(disch:=first|omega|assumption) only[hlt,go_sem]
   exact goJ (hJ (m,k) _ ⟨by simp[hp],rfl⟩) (by simp(disch:=first|omega|assumption) only[go_sem])
  ·have hlt:(m:Int)<s.length:=by omega
   obtain⟨c,hc⟩:∃ c,s.getD m 0=c:=⟨_,rfl⟩
   rw[hc] at e2
   by_cases h:isE c=true
   ·have hE:c=101∨c=69:=by simpa[isE] using h
    have hp:yr (s.drop m)=if zh (s.drop (m+1+sgN (s.drop (m+1))))=0 then 0 else 1+sgN (s.drop (m+1))+zh (s.drop (m+1+sgN (s.drop (m+1)))):=by
     rw[e2];simp only[yr,h,if_true,List.drop_drop]
    have hto:((m:Int)+1).toNat=m+1:=by omega
    have hm1:(0:Int)≤(m:Int)+1:=by omega
    have hsg:=zc2 (s.drop (m+1))
    rw[zI] at hsg
    rcases hE with he|he
    case' inl =>
     have hv:(c.toNat:Int)=101:=by rw[he];rfl
     simp(disch:=first|omega|assumption) only[hlt,hc,hv,wrap64,go_sem]
    case' inr =>
     have hv:(c.toNat:Int)=69:=by rw[he];rfl
     have hv2:¬ (69:Int)=101:=by omega
     simp(disch:=first|omega|assumption) only[hlt,hc,hv,hv2,wrap64,go_sem]
    all_goals
     refine goU_cut (fun q:Nat=>[(7,.int .i64 q)]) (fun q H=>q=m+1+sgN (s.drop (m+1))∧H=Heap.emp) (fun J2 hJ2=>?_) ?_
     ·rcases zH s (m+1) with ⟨f1,f2⟩|⟨f1,f2⟩
      ·have hq:¬ ((m:Int)+1<s.length):=by omega
       simp(disch:=first|omega|assumption) only[wrap64,hq,go_sem]
       exact goJ (hJ2 (m+1) _ ⟨by rw[f1];rfl,rfl⟩) (by simp(disch:=first|omega|assumption) only[Int.natCast_add,Int.natCast_one,go_sem])
      ·have hq:(m:Int)+1<s.length:=by omega
       obtain⟨d,hd⟩:∃ d,s.getD (m+1) 0=d:=⟨_,rfl⟩
       rw[hd] at f2
       by_cases d43:d=43
       ·have hv3:(d.toNat:Int)=43:=by rw[d43];rfl
        simp(disch:=first|omega|assumption) only[wrap64,hq,hto,hm1,hd,hv3,go_sem]
        exact goJ (hJ2 (m+1+1) _ ⟨by rw[f2,d43];rfl,rfl⟩) (by simp(disch:=first|omega|assumption) only[Int.natCast_add,Int.natCast_one,go_sem])
       ·have hv3:¬ (d.toNat:Int)=43:=zbv (n:=43) (by omega) d43
        by_cases d45:d=45
        ·have hv4:(d.toNat:Int)=45:=by rw[d45];rfl
         have hv5:¬ (45:Int)=43:=by omega
         simp(disch:=first|omega|assumption) only[wrap64,hq,hto,hm1,hd,hv4,hv5,go_sem]
         exact goJ (hJ2 (m+1+1) _ ⟨by rw[f2,d45];rfl,rfl⟩) (by simp(disch:=first|omega|assumption) only[Int.natCast_add,Int.natCast_one,go_sem])
        ·have hv4:¬ (d.toNat:Int)=45:=zbv (n:=45) (by omega) d45
         simp(disch:=first|omega|assumption) only[wrap64,hq,hto,hm1,hd,hv3,hv4,go_sem]
         exact goJ (hJ2 (m+1) _ ⟨by rw[f2];simp[sgN,d43,d45],rfl⟩) (by simp(disch:=first|omega|assumption) only[Int.natCast_add,Int.natCast_one,go_sem])
     rintro q H ⟨hq,rfl⟩
     rw[← hq] at hp
     have hql:q≤s.length:=by omega
     simp(disch:=first|omega|assumption) only[go_sem]
     refine goK_pure (zhb s q (by omega) (by omega) hs') ?_
     rw[Int.toNat_natCast]
     have hrl3:=yq (s.drop q)
     rw[zI] at hrl3
     by_cases hr:zh (s.drop q)=0
     ·have hr':¬ (0:Int)<zh (s.drop q):=by omega
      rw[if_pos hr] at hp
      simp(disch:=first|omega|assumption) only[hr',go_sem]
      exact goJ (hJ (m,k) _ ⟨by simp[hp],rfl⟩) (by simp(disch:=first|omega|assumption) only[go_sem])
     ·have hr':(0:Int)<zh (s.drop q):=by omega
      rw[if_neg hr] at hp
      simp(disch:=first|omega|assumption) only[hr',go_sem]
      refine goK_pure (zhb s q (by omega) (by omega) hs') ?_
      rw[Int.toNat_natCast]
      simp(disch:=first|omega|assumption) only[wrap64,go_sem]
      exact goJ (hJ (q+zh (s.drop q),4) _ ⟨by rw[hp];simp;omega,rfl⟩) (by simp(disch:=first|omega|assumption) only[Int.natCast_add,go_sem])
   ·have h1:c≠101:=fun e=>h (by simp[isE,e])
    have h2:c≠69:=fun e=>h (by simp[isE,e])
    have hp:yr (s.drop m)=0:=by rw[e2];simp[yr,h]
    have h1':¬ (c.toNat:Int)=101:=zbv (n:=101) (by omega) h1
    have h2':¬ (c.toNat:Int)=69:=zbv (n:=69) (by omega) h2
    simp(disch:=first|omega|assumption) only[hlt,hc,h1',h2',go_sem]
    exact goJ (hJ (m,k) _ ⟨by simp[hp],rfl⟩) (by simp(disch:=first|omega|assumption) only[go_sem])
 rintro⟨m2,k2⟩ H ⟨hx,rfl⟩
 simp only[Al8] at hx
 obtain⟨hm2,hk2⟩:=hx
 have hfin:zA s=(m2,k2):=by
  rw[hnum,hm2,hk2,hk]
  by_cases a:zD (s.drop n)=0<;>by_cases b:yr (s.drop m)=0<;>simp[a,b]
 simp(disch:=first|omega|assumption) only[go_sem]
 exact hQ _ _ _ _ nofun rfl (by simp[tupOf,envOf,AV.strip,AV.strip1,hfin])
end Go.Proofs.YtaielcdfcgpbiaaGreatDoor
namespace Go.Proofs.YtaielcdfcgpbiaaGreatDoor
open Go.Lib
end Go.Proofs.YtaielcdfcgpbiaaGreatDoor
namespace Go.Proofs.YtaielcdfcgpbiaaGreatDoor
open Go.Ab
def dg (c:UInt8):Int:=IntKind.u8.wrap ((c.toNat:Int)-48)
theorem zjj (c:UInt8):0≤dg c∧dg c≤255:=by
 unfold dg IntKind.wrap
 simp[IntKind.signed,IntKind.bits]
 omega
theorem zgC {c:UInt8} (h:isD c=true):dg c=(c.toNat:Int)-48:=by
 simp only[isD,Al0,zm] at h
 unfold dg IntKind.wrap
 simp[IntKind.signed,IntKind.bits]
 omega
def zaq:List UInt8→Int→Option Int
 | [],a=>some a
 | c::r,a=>if a<Int.tdiv (-9223372036854775808+dg c) 10 then none else zaq r (10*a-dg c)
theorem step_ok {a d:Int} (h0:0≤d) (h1:d≤255) (ha:-9223372036854775808≤a) (ha2:a≤0) (h:¬ a<Int.tdiv (-9223372036854775808+d) 10):-9223372036854775808≤10*a-d∧10*a-d≤0:=by
 have e:Int.tdiv (-9223372036854775808+d) 10=-((9223372036854775808-d) / 10):=by
  rw[show (-9223372036854775808+d)=-(9223372036854775808-d) by omega,Int.neg_tdiv,Int.tdiv_eq_ediv_of_nonneg (by omega)]
 rw[e] at h
 omega
def Y1 (s:List UInt8):Int×Bool :=
 if s.head?=some 45 then (match zaq s.tail 0 with|some a=>(a,true)|none=>(0,false))
 else (match zaq s 0 with|some a=>if a=-9223372036854775808 then (0,false) else (-a,true)|none=>(0,false))
theorem ziM (s:List UInt8) (hs:s.length≤Lim):Pure Tryz.prog 89 [.str s] (.tup [.int .i64 (Y1 s).1,.bool (Y1 s).2]):=by
 refine Pure.go ir89 ck89 (Al4 _) fun KP Q hQ=>?_
 simp only[Lim] at hs
 simp(disch:=first|omega|assumption) only[ir89,go_sem]
 refine goU_cut (fun x:Nat×Bool=>[(4,.int .i64 x.1),(5,.bool x.2)]) (fun x H=>x=(if s.head?=some 45 then (1,true) else (0,false))∧H=Heap.emp) (fun J hJ=>?_) ?_
 ·cases s with
  | nil =>
   simp(disch:=first|omega|assumption) only[go_sem]
   exact goJ (hJ (0,false) _ ⟨rfl,rfl⟩) (by simp(disch:=first|omega|assumption) only[go_sem])
  | cons c t =>
   have hp:(0:Int)<((t.length+1:Nat):Int):=by omega
   by_cases h:c=45
   ·have h':(c.toNat:Int)=45:=by rw[h];rfl
    simp(disch:=first|omega|assumption) only[hp,h',go_sem]
    exact goJ (hJ (1,true) _ ⟨by rw[h];rfl,rfl⟩) (by simp(disch:=first|omega|assumption) only[go_sem])
   ·have h':¬ (c.toNat:Int)=45:=zbv (n:=45) (by omega) h
    simp(disch:=first|omega|assumption) only[hp,h',go_sem]
    exact goJ (hJ (0,false) _ ⟨by simp[h],rfl⟩) (by simp(disch:=first|omega|assumption) only[go_sem])
 rintro⟨n0,neg⟩ H ⟨hx,rfl⟩
 have hn0:n0≤s.length:=by
  split at hx
  ·rename_i h
   cases s with
   | nil=>simp at h
   | cons c t=>cases hx;simp
  ·cases hx;omega
 have hR:Y1 s=if neg then (match zaq (s.drop n0) 0 with|some a=>(a,true)|none=>(0,false)) else (match zaq (s.drop n0) 0 with|some a=>if a=-9223372036854775808 then (0,false) else (-a,true)|none=>(0,false)):=by
  unfold Y1
  split at hx
  ·rename_i h
   cases hx
   rw[if_pos h]
   simp
  ·rename_i h
   cases hx
   rw[if_neg h]
   simp
 simp(disch:=first|omega|assumption) only[go_sem]
 refine goL_st (fun x:Nat×Int=>[(4,.int .i64 x.1),(6,.int .i64 x.2)]) (fun x H=>zaq (s.drop x.1) x.2=zaq (s.drop n0) 0∧x.1≤s.length∧(-9223372036854775808≤x.2∧x.2≤0)) (fun x=>s.length-x.1) (n0,0) (by simp(disch:=first|omega|assumption) only[go_sem]) ⟨rfl,hn0,by omega,by omega⟩ ?_
 rintro⟨n,a⟩ H J ⟨hn,hle,ha1,ha2⟩ hJ
 simp only at hn hle ha1 ha2
 rcases zH s n with ⟨e1,e2⟩|⟨e1,e2⟩
 ·have hlt:¬ (n:Int)<s.length:=by omega
  rw[e1] at hn
  simp only[zaq] at hn
  rw[← hn] at hR
  cases neg with
  | true =>
   simp(disch:=first|omega|assumption) only[hlt,go_sem]
   exact hQ _ _ _ _ nofun rfl (by simp[tupOf,envOf,AV.strip,AV.strip1,hR])
  | false =>
   by_cases hm:a=-9223372036854775808
   ·simp(disch:=first|omega|assumption) only[hlt,hm,go_sem]
    exact hQ _ _ _ _ nofun rfl (by simp[tupOf,envOf,AV.strip,AV.strip1,hR,hm])
   ·simp(disch:=first|omega|assumption) only[hlt,hm,wrap64,go_sem]
    exact hQ _ _ _ _ nofun rfl (by simp[tupOf,envOf,AV.strip,AV.strip1,hR,hm])
 ·have hlt:(n:Int)<s.length:=by omega
  obtain⟨c,hc⟩:∃ c,s.getD n 0=c:=⟨_,rfl⟩
  rw[hc] at e2
  rw[e2] at hn
  simp only[zaq] at hn
  have hd:=zjj c
  have hdg:IntKind.u8.wrap ((c.toNat:Int)-48)=dg c:=rfl
  have he:Int.tdiv (-9223372036854775808+dg c) 10=-((9223372036854775808-dg c) / 10):=by
   rw[show (-9223372036854775808+dg c)=-(9223372036854775808-dg c) by omega,Int.neg_tdiv,Int.tdiv_eq_ediv_of_nonneg (by omega)]
  by_cases hb:a<Int.tdiv (-9223372036854775808+dg c) 10
  ·rw[if_pos hb] at hn
   rw[← hn] at hR
   simp(disch:=first|omega|assumption) only[hlt,hc,hdg,wrap64,hb,go_sem]
   cases neg with
   | true=>exact hQ _ _ _ _ nofun rfl (by simp[tupOf,envOf,AV.strip,AV.strip1,hR])
   | false=>exact hQ _ _ _ _ nofun rfl (by simp[tupOf,envOf,AV.strip,AV.strip1,hR])
  ·have hst:=step_ok hd.1 hd.2 ha1 ha2 hb
   rw[if_neg hb] at hn
   simp(disch:=first|omega|assumption) only[hlt,hc,hdg,wrap64,hb,go_sem]
   exact goJ (hJ (n+1,10*a-dg c) _ (by simp only;omega) ⟨hn,by simp only;omega,hst⟩) (by simp(disch:=first|omega|assumption) only[Int.natCast_add,Int.natCast_one,go_sem])
def zaw (acc:Nat) (l:List UInt8):Nat:=l.foldl (fun a c=>a*10+(c.toNat-48)) acc
theorem zbQ (acc:Nat):zaw acc []=acc:=by unfold zaw;rw[List.foldl_nil]
theorem za8 (acc:Nat) (c:UInt8) (r:List UInt8):zaw acc (c::r)=zaw (acc*10+(c.toNat-48)) r:=by unfold zaw;rw[List.foldl_cons]
theorem zfM (c:UInt8) (r:List UInt8) (a:Int):zaq (c::r) a=if a<Int.tdiv (-9223372036854775808+dg c) 10 then none else zaq r (10*a-dg c):=by rw[zaq]
theorem zdj:∀(r:List UInt8) (acc:Nat),acc≤zaw acc r
 | [],acc=>by rw[zbQ];exact Al4 _
 | c::r,acc=>by have:=zdj r (acc*10+(c.toNat-48));rw[za8];omega
theorem Ze:∀(r:List UInt8) (acc:Nat),(∀ c∈r,isD c=true)→acc≤9223372036854775808→zaq r (-(acc:Int))=if zaw acc r≤9223372036854775808 then some (-(zaw acc r:Int)) else none
 | [],acc,_,h=>by rw[zbQ,if_pos h];rfl
 | c::r,acc,hd,h=>by
  have hc:=hd c (by simp)
  have hv:=zgC hc
  simp only[isD,Al0,zm] at hc
  have he:Int.tdiv (-9223372036854775808+dg c) 10=-((9223372036854775808-dg c) / 10):=by
   rw[show (-9223372036854775808+dg c)=-(9223372036854775808-dg c) by omega,Int.neg_tdiv,Int.tdiv_eq_ediv_of_nonneg (by omega)]
  have hg:=zdj r (acc*10+(c.toNat-48))
  rw[zfM,za8]
  by_cases hb:-(acc:Int)<Int.tdiv (-9223372036854775808+dg c) 10
  ·rw[if_pos hb,if_neg (by omega)]
  ·rw[if_neg hb]
   have e:10*-(acc:Int)-dg c=-((acc*10+(c.toNat-48):Nat):Int):=by omega
   rw[e]
   exact Ze r _ (fun x hx=>hd x (by simp[hx])) (by omega)
theorem yQ:∀(r:List UInt8) (acc:Nat),(∀ c∈r,isD c=true)→acc<18446744073709551616→Lib.parseUint10 acc r=if zaw acc r<18446744073709551616 then .ok (zaw acc r) else .range
 | [],acc,_,h=>by rw[zbQ,if_pos h];rfl
 | c::r,acc,hd,h=>by
  have hc:=hd c (by simp)
  simp only[isD,Al0,zm] at hc
  have hg:=zdj r (acc*10+(c.toNat-48))
  rw[za8]
  simp only[Lib.parseUint10]
  rw[if_pos hc]
  by_cases h1:1844674407370955162≤acc
  ·rw[if_pos h1,if_neg (by omega)]
  ·rw[if_neg h1]
   by_cases h2:18446744073709551616≤acc*10+(c.toNat-48)
   ·rw[if_pos h2,if_neg (by omega)]
   ·rw[if_neg h2]
    exact yQ r _ (fun x hx=>hd x (by simp[hx])) (by omega)
theorem zbh:∀ l:List UInt8,zh l=l.length→∀ c∈l,isD c=true
 | [],_,c,hc=>by cases hc
 | x::r,h,c,hc=>by
  simp only[zh,Al2] at h
  split at h
  ·rename_i hx
   rcases List.mem_cons.1 hc with e|e
   ·subst e;exact hx
   ·exact zbh r (by omega) c e
  ·omega
theorem zc0 {l:List UInt8} (h:yl l=l.length) (h0:zh l≠0):∀ c∈l,isD c=true:=by
 unfold yl at h
 rw[if_neg h0] at h
 split at h
 ·apply zbh
  have:=yq l
  omega
 ·exact zbh l h
theorem yZ (t:List UInt8):zc (45::t)=if zh t=0 then 0 else 1+yl t:=by
 unfold zc;exact if_pos rfl
theorem yI {s:List UInt8} (h:¬ s.head?=some 45):zc s=yl s:=by
 unfold zc;exact if_neg h
theorem zjs {s:List UInt8} (h:Yk s=3):(∃ t,s=45::t∧t≠[]∧∀ c∈t,isD c=true)∨(∃ c t,s=c::t∧∀ x∈s,isD x=true):=by
 unfold Yk at h
 split at h
 ·rename_i hl
  unfold zA at h hl
  split at h
  ·simp at h
  ·rename_i hw
   rw[if_neg hw] at hl
   simp only at h hl
   split at h
   ·rename_i hfp
    rw[hfp.2,hfp.1] at hl
    simp only[Nat.add_zero] at hl
    by_cases h45:s.head?=some 45
    ·cases s with
     | nil=>simp at h45
     | cons c t =>
      have hc:c=45:=by simpa using h45
      subst hc
      rw[yZ] at hl hw
      by_cases h0:zh t=0
      ·rw[if_pos h0] at hw;omega
      ·rw[if_neg h0] at hl
       refine .inl ⟨t,rfl,?_,zc0 (by simp only[Al2] at hl;omega) h0⟩
       intro e;subst e;exact h0 rfl
    ·rw[yI h45] at hl hw
     have h0:zh s≠0:=fun e=>hw (by simp[yl,e])
     cases s with
     | nil=>exact absurd rfl h0
     | cons c t=>exact .inr ⟨c,t,rfl,zc0 hl h0⟩
   ·omega
 ·omega
theorem zee (t:List UInt8):Y1 (45::t)=match zaq t 0 with|some a=>(a,true)|none=>(0,false):=by
 unfold Y1;exact if_pos rfl
theorem zdY {c:UInt8} (t:List UInt8) (h:c≠45):Y1 (c::t)=match zaq (c::t) 0 with|some a=>if a=-9223372036854775808 then (0,false) else (-a,true)|none=>(0,false):=by
 unfold Y1;exact if_neg (fun e=>h (by simpa using e))
theorem ziW {s:List UInt8} (h:Yk s=3):(Y1 s).2=okI (Lib.parseIntB 64 s):=by
 rw[Lib.parseIntB_64]
 rcases zjs h with ⟨t,rfl,hne,hd⟩|⟨c,t,rfl,hd⟩
 ·have h1:=Ze t 0 hd (by omega)
  have h2:=yQ t 0 hd (by omega)
  simp only[Int.natCast_zero,Int.neg_zero] at h1
  rw[Lib.atoiAll_minus,zee,h1]
  unfold Lib.parseMag
  rw[if_neg hne,h2]
  generalize zaw 0 t=V
  by_cases a:V≤9223372036854775808
  ·rw[if_pos a,if_pos (by omega)]
   simp only[Lib.signed]
   rw[if_neg (by omega)]
   rfl
  ·rw[if_neg a]
   by_cases b:V<18446744073709551616
   ·rw[if_pos b]
    simp only[Lib.signed]
    rw[if_pos (by omega)]
    rfl
   ·rw[if_neg b]
    rfl
 ·have h1:=Ze (c::t) 0 hd (by omega)
  have h2:=yQ (c::t) 0 hd (by omega)
  have hc:=hd c (by simp)
  simp only[isD,Al0,zm] at hc
  have h45:c≠45:=fun e=>by subst e;simp at hc
  simp only[Int.natCast_zero,Int.neg_zero] at h1
  rw[Lib.atoiAll_plain c t (by omega) (by omega),zdY t h45,h1]
  unfold Lib.parseMag
  rw[if_neg (List.cons_ne_nil c t),h2]
  generalize zaw 0 (c::t)=V
  by_cases a:V≤9223372036854775808
  ·rw[if_pos a,if_pos (by omega)]
   simp only[Lib.signless]
   by_cases b:V=9223372036854775808
   ·rw[if_pos (by omega),if_pos (by omega)];rfl
   ·rw[if_neg (by omega),if_neg (by omega)];rfl
  ·rw[if_neg a]
   by_cases b:V<18446744073709551616
   ·rw[if_pos b]
    simp only[Lib.signless]
    rw[if_pos (by omega)]
    rfl
   ·rw[if_neg b]
    rfl
theorem zif {s:List UInt8} (h:Yk s=3) (h2:(Y1 s).2=true):(Y1 s).1=zco s:=by
 unfold zco
 rw[Lib.parseIntB_64]
 rcases zjs h with ⟨t,rfl,hne,hd⟩|⟨c,t,rfl,hd⟩
 ·have h1:=Ze t 0 hd (by omega)
  have h3:=yQ t 0 hd (by omega)
  simp only[Int.natCast_zero,Int.neg_zero] at h1
  rw[Lib.atoiAll_minus]
  rw[zee,h1] at h2 ⊢
  unfold Lib.parseMag
  rw[if_neg hne,h3]
  generalize zaw 0 t=V at h2 ⊢
  by_cases a:V≤9223372036854775808
  ·rw[if_pos a,if_pos (by omega)]
   simp only[Lib.signed]
   rw[if_neg (by omega)]
  ·rw[if_neg a] at h2;cases h2
 ·have h1:=Ze (c::t) 0 hd (by omega)
  have h3:=yQ (c::t) 0 hd (by omega)
  have hc:=hd c (by simp)
  simp only[isD,Al0,zm] at hc
  have h45:c≠45:=fun e=>by subst e;simp at hc
  simp only[Int.natCast_zero,Int.neg_zero] at h1
  rw[Lib.atoiAll_plain c t (by omega) (by omega)]
  rw[zdY t h45,h1] at h2 ⊢
  unfold Lib.parseMag
  rw[if_neg (List.cons_ne_nil c t),h3]
  generalize zaw 0 (c::t)=V at h2 ⊢
  by_cases a:V≤9223372036854775808
  ·rw[if_pos a] at h2
   rw[if_pos a,if_pos (by omega)]
   simp only[Lib.signless] at h2 ⊢
   by_cases b:V=9223372036854775808
   ·rw[if_pos (by omega)] at h2;cases h2
   ·rw[if_neg (by omega),if_neg (by omega)];simp only;omega
  ·rw[if_neg a] at h2;cases h2
structure St where
 i:Nat
 dp:Int
 e:Int
section
variable (L:TS)
def St.hd (s:St):Tok:=if s.e=0 then hdT (L.drop s.i) else ⟨0,[]⟩
def isS (m:List UInt8) (s:St):Bool:=decide ((s.hd L).k=1)&&decide ((s.hd L).s=m)
def yM (n:Int) (s:St):St:=if s.e=0 then ⟨s.i,s.dp,n⟩ else s
def stepS (s:St):St:=⟨s.i+1,s.dp,s.e⟩
def zw (m:List UInt8) (s:St):St:=if isS L m s then stepS s else yM 2 s
def upS (d:Int) (s:St):St:=⟨s.i,IntKind.wrap .i64 (s.dp+d),s.e⟩
def zY (m:List UInt8) (s:St):St:=if isS L m s&&decide (16≤s.dp) then yM 4 s else upS 1 (zw L m s)
def ZD (m:List UInt8) (s:St):St:=upS (-1) (zw L m s)
def zt (s:St):List UInt8×St:=if (s.hd L).k=2 then ((s.hd L).s,stepS s) else ([],yM 2 s)
def yO {α:Type} (m:List UInt8) (one:Bool) (f:St→α×St):Nat→List α→St→List α×St
 | 0,l,s=>(l,s)
 | n+1,l,s=>if s.e=0∧((one=true∧l.length=0)∨isS L m s=false) then yO m one f n (l++[(f s).1]) (f s).2 else (l,s)
def or1 (m:Int):Int:=IntKind.wrap .i64 (BitVec.ofInt IntKind.i64.bits m ||| BitVec.ofInt IntKind.i64.bits 1).toNat
def zfQ (m:Int):Int:=IntKind.wrap .i64 (m*2 ^ min 1 IntKind.i64.bits)
def yF (ty:TyD) (s:St):TyD×St:=if isS L [33] s then (⟨ty.nm,ty.lists,or1 ty.musts⟩,zw L [33] s) else (ty,s)
def yg (ty:TyD):TyD:=⟨ty.nm,IntKind.wrap .i64 (ty.lists+1),zfQ ty.musts⟩
def ZY:Nat→St→TyD×St
 | 0,s=>if isS L [91] s then (⟨[],0,0⟩,yM 4 s) else yF L ⟨(zt L s).1,0,0⟩ (zt L s).2
 | k+1,s=>if isS L [91] s then yF L (yg (ZY k (zw L [91] s)).1) (zw L [93] (ZY k (zw L [91] s)).2) else yF L ⟨(zt L s).1,0,0⟩ (zt L s).2
def YK (t:Tok):Val:=if t.k=3∧(Y1 t.s).2=true then .mk 2 (Y1 t.s).1 [] [] [] else .mk 3 0 t.s [] []
def Zo (v:St→Val×St) (s:St):Mem×St :=
 (.mk (zt L s).1 (v (zw L [58] (zt L s).2)).1,(v (zw L [58] (zt L s).2)).2)
def zgL (v:St→Val×St) (s:St):Val×St:=(.mk 6 0 [] (yO L [93] false v (L.length+2) [] s).1 [],ZD L [93] (yO L [93] false v (L.length+2) [] s).2)
def ziO (v:St→Val×St) (s:St):Val×St:=(.mk 7 0 [] [] (yO L [125] false (Zo L v) (L.length+2) [] s).1,ZD L [125] (yO L [125] false (Zo L v) (L.length+2) [] s).2)
def Z2 (s:St):Val×St:=if (s.hd L).k=3∨(s.hd L).k=4 then (YK (s.hd L),stepS s) else if (s.hd L).k=5 then (.mk 4 0 (s.hd L).s [] [],stepS s) else (yE (s.hd L).s,stepS s)
def ZA (s:St):Val×St:=(.mk 8 0 (zt L (zw L [36] s)).1 [] [],(zt L (zw L [36] s)).2)
def yX (fixed:Bool):Nat→St→Val×St
 | 0,s=>if (s.hd L).k=3∨(s.hd L).k=4∨(s.hd L).k=5∨(s.hd L).k=2 then Z2 L s
  else if isS L [36] s&&!fixed then ZA L s
  else if isS L [91] s then (.mk 6 0 [] [] [],ZD L [93] (zY L [91] s))
  else if isS L [123] s then (.mk 7 0 [] [] [],ZD L [125] (zY L [123] s))
  else (zV,yM 2 s)
 | k+1,s=>if (s.hd L).k=3∨(s.hd L).k=4∨(s.hd L).k=5∨(s.hd L).k=2 then Z2 L s
  else if isS L [36] s&&!fixed then ZA L s
  else if isS L [91] s then zgL L (yX fixed k) (zY L [91] s)
  else if isS L [123] s then ziO L (yX fixed k) (zY L [123] s)
  else (zV,yM 2 s)
end
def Yp {α:Type} (L:TS) (x:PR α) (dp:Int) (r:α×St):Prop:=match x with
 | .ok (a,t')=>∃ i',t'=L.drop i'∧r=(a,⟨i',dp,0⟩)
 | .error n=>n≠0∧r.2.e=n
def Bad {α:Type} (f:St→α×St):Prop:=∀ s,s.e≠0→(f s).2.e=s.e
structure SimS {α:Type} (L:TS) (f:TS→PR α) (dp:Int) (fS:St→α×St):Prop where
 rel:∀ i,Yp L (f (L.drop i)) dp (fS ⟨i,dp,0⟩)
 bad:Bad fS
theorem Yp.bind {α β:Type} {L:TS} {x:PR α} {dp dp':Int} {r:α×St} (hx:Yp L x dp r) {h:α→TS→PR β} {g:α×St→β×St} (hok:∀ a i,x=.ok (a,L.drop i)→r=(a,⟨i,dp,0⟩)→Yp L (h a (L.drop i)) dp' (g (a,⟨i,dp,0⟩)))
  (hbad:∀ q:α×St,q.2.e≠0→(g q).2.e=q.2.e):Yp L (pb x h) dp' (g r):=by
 rcases x with n|⟨a,t⟩
 ·obtain⟨h1,h2⟩:=hx
  exact⟨h1,by rw[hbad r (by rw[h2];exact h1),h2]⟩
 ·obtain⟨i,h1,h2⟩:=hx
  subst h1;subst h2
  exact hok a i rfl rfl
theorem Yp.ok {α:Type} {L:TS} {a:α} {i:Nat} {dp:Int}:Yp L (.ok (a,L.drop i)) dp (a,⟨i,dp,0⟩):=⟨i,rfl,rfl⟩
theorem yL {n:Int} {s:St} (h:s.e≠0):yM n s=s:=by simp[yM,h]
theorem zbS {L:TS} {s:St} (h:s.e≠0):s.hd L=⟨0,[]⟩:=by simp[St.hd,h]
theorem Y0 {L:TS} {m:List UInt8} {s:St} (h:s.e≠0):isS L m s=false:=by simp[isS,zbS h]
theorem Zv {L:TS} {m:List UInt8} {s:St} (h:s.e≠0):zw L m s=s:=by simp[zw,Y0 h,yL h]
theorem zbj {L:TS} {s:St} (h:s.e≠0):zt L s=([],s):=by simp[zt,zbS h,yL h]
theorem hd_ok {L:TS} {i:Nat} {dp:Int}:St.hd L ⟨i,dp,0⟩=hdT (L.drop i):=by simp[St.hd]
theorem yh {L:TS} {m:List UInt8} {i:Nat} {dp:Int}:isS L m ⟨i,dp,0⟩=isP m (L.drop i):=by simp[isS,isP,hd_ok]
theorem yi (L:TS) (i:Nat):(L.drop i).tail=L.drop (i+1):=by simp
theorem zbf (L:TS) (m:List UInt8) (i:Nat) (dp:Int):Yp L (yA m (L.drop i)) dp ((),zw L m ⟨i,dp,0⟩):=by
 unfold yA zw
 rw[yh]
 cases isP m (L.drop i) with
 | true=>exact⟨i+1,yi L i,rfl⟩
 | false=>exact⟨by decide,rfl⟩
theorem zbi (L:TS) (i:Nat) (dp:Int):Yp L (zL (L.drop i)) dp (zt L ⟨i,dp,0⟩):=by
 unfold zL zt
 rw[hd_ok]
 split
 ·exact⟨i+1,yi L i,rfl⟩
 ·exact⟨by decide,rfl⟩
theorem zaT {L:TS} {m:List UInt8} {i:Nat} {dp:Int} (h:isP m (L.drop i)=true):zw L m ⟨i,dp,0⟩=⟨i+1,dp,0⟩:=by
 unfold zw;rw[yh,h];rfl
theorem zbr {α:Type} {L:TS} {m:List UInt8} {one:Bool} {f:St→α×St} {n:Nat} {l:List α} {s:St} (h:s.e≠0):yO L m one f n l s=(l,s):=by
 cases n with
 | zero=>rfl
 | succ n=>simp[yO,h]
theorem zbb {α:Type} {L:TS} {m:List UInt8} {one:Bool} {f:TS→PR α} {fS:St→α×St} {dp:Int} (hf:SimS L f dp fS):∀(n k:Nat) (l:List α) (i:Nat),(one=true→l.length≠0)→L.length-i<n→L.length-i<k→(∀ t a t',f t=.ok (a,t')→t'.length<t.length) →
  Yp L (zG m f n l (L.drop i)) dp ((yO L m one fS k l ⟨i,dp,0⟩).1,zw L m (yO L m one fS k l ⟨i,dp,0⟩).2)
 | 0,_,_,_,_,h,_,_=>by omega
 | _,0,_,_,_,_,h,_=>by omega
 | n+1,k+1,l,i,ho,h1,h2,hlt=>by
  cases hp:isP m (L.drop i) with
  | true =>
   have e:yO L m one fS (k+1) l ⟨i,dp,0⟩=(l,⟨i,dp,0⟩):=by
    rw[yO,if_neg]
    rintro⟨_,⟨a,b⟩|h⟩
    ·exact ho a b
    ·rw[yh,hp] at h;cases h
   rw[e,zG,if_pos hp]
   simp only
   rw[zaT hp,yi]
   exact .ok
  | false =>
   rw[zG,if_neg (by rw[hp];decide),yO,if_pos ⟨rfl,.inr (by rw[yh];exact hp)⟩]
   refine(hf.rel i).bind (g:=fun q=>((yO L m one fS k (l++[q.1]) q.2).1,zw L m (yO L m one fS k (l++[q.1]) q.2).2)) (fun a i' e1 _=>?_) fun q hq=>by simp only;rw[zbr hq,Zv hq]
   have hl:=hlt _ _ _ e1
   simp only[zI] at hl
   exact zbb hf n k _ i' (fun _=>by simp) (by omega) (by omega) hlt
def zcQ (x:Tok):Prop:=x.k=3∨x.k=4→Yk x.s=x.k
theorem zi7 {L:TS} {i:Nat} (h:(hdT (L.drop i)).k≠0):hdT (L.drop i)∈L:=by
 refine List.mem_of_mem_drop (i:=i) ?_
 generalize L.drop i=t at *
 cases t with
 | nil=>exact absurd rfl h
 | cons x t=>simp[hdT]
theorem zdE {t:Tok} (h:zcQ t) (hk:t.k=3∨t.k=4):YK t=zcd t.s:=by
 have hn:=h hk
 unfold YK zcd
 rcases hk with hk|hk
 ·rw[hk] at hn
  have e:=ziW hn
  simp only[hk,true_and,ZF,hn,decide_true,Bool.and_true,e]
  cases hp:okI (Lib.parseIntB 64 t.s) with
  | true =>
   have:=zif hn (by rw[e];exact hp)
   simp[this]
  | false=>simp
 ·rw[hk] at hn
  simp[hk,ZF,hn]
theorem zis (d:Int) (s:St):(upS d s).e=s.e:=rfl
theorem zfI {L:TS} {m:List UInt8} {s:St} (h:s.e≠0):(zY L m s).e=s.e:=by simp[zY,Y0 h,Zv h,zis]
theorem zcu {L:TS} {m:List UInt8} {s:St} (h:s.e≠0):(ZD L m s).e=s.e:=by simp[ZD,Zv h,zis]
theorem zbt {L:TS} {f:TS→PR Val} {fS:St→Val×St} {dp:Int} (hf:SimS L f dp fS):SimS L (zP f) dp (Zo L fS):=by
 refine⟨fun i=>?_,fun s h=>?_⟩
 ·unfold zP
  refine(zbi L i dp).bind (β:=Mem) (g:=fun q=>(.mk q.1 (fS (zw L [58] q.2)).1,(fS (zw L [58] q.2)).2)) (fun nm i1 _ _=>?_) fun q hq=>by simp only;rw[Zv hq,hf.bad _ hq]
  refine(zbf L [58] i1 dp).bind (β:=Mem) (g:=fun q=>(.mk nm (fS q.2).1,(fS q.2).2)) (fun _ i2 _ _=>?_) fun q hq=>hf.bad _ hq
  exact(hf.rel i2).bind (β:=Mem) (g:=fun q=>(.mk nm q.1,q.2)) (fun v i3 _ _=>.ok) fun q hq=>rfl
 ·simp only[Zo]
  rw[zbj h]
  simp only
  rw[Zv h,hf.bad _ h]
theorem zir {dp:Int} (h0:0≤dp) (h1:dp≤16):IntKind.wrap .i64 (dp+1)=dp+1∧IntKind.wrap .i64 (dp+1+-1)=dp:=by
 refine⟨wrap64 (by omega) (by omega),?_⟩
 rw[wrap64 (by omega) (by omega)];omega
theorem zbO {L:TS} {m:List UInt8} {i:Nat} {dp:Int} (h:isP m (L.drop i)=true) (h0:0≤dp) (h1:dp<16):zY L m ⟨i,dp,0⟩=⟨i+1,dp+1,0⟩:=by
 unfold zY
 rw[yh,h]
 have:decide (16≤(St.mk i dp 0).dp)=false:=decide_eq_false (by simp only;omega)
 rw[this]
 simp only[Bool.and_false,Al7,if_false,zaT h,upS,(zir h0 (by omega)).1]
theorem Y6 {L:TS} {m:List UInt8} {i:Nat} (h:isP m (L.drop i)=true):zY L m ⟨i,16,0⟩=⟨i,16,4⟩:=by
 unfold zY
 rw[yh,h]
 rfl
theorem zeg {L:TS} {m:List UInt8} {i:Nat} {dp:Int} (h:isP m (L.drop i)=false):(zY L m ⟨i,dp,0⟩).e=2:=by
 unfold zY
 rw[yh,h]
 simp[zw,yh,h,yM,upS]
theorem zd4 {α β:Type} {L:TS} {x:PR α} {dp:Int} {a:α} {m:List UInt8} {s:St} (F:α→β) (h0:0≤dp) (h1:dp<16) (h:Yp L x (dp+1) (a,zw L m s)):Yp L (pb x fun l t=>.ok (F l,t)) dp (F a,ZD L m s):=by
 refine h.bind (β:=β) (g:=fun q=>(F q.1,upS (-1) q.2)) (fun l i _ _=>?_) fun q hq=>rfl
 refine⟨i,rfl,?_⟩
 simp only[upS,(zir h0 (by omega)).2]
theorem zb1 {L:TS} (hL:∀ x∈L,zcQ x) (fixed:Bool):∀ k:Nat,k≤16→SimS L (yc fixed k) (16-k) (yX L fixed k):=by
 have bad:∀ k s,s.e≠0→(yX L fixed k s).2.e=s.e:=fun k s h=>by
  cases k<;>simp[yX,zbS h,Y0 h,yL h]
 have leaf:∀(i:Nat) (dp:Int),(hdT (L.drop i)).k=3∨(hdT (L.drop i)).k=4∨(hdT (L.drop i)).k=5∨(hdT (L.drop i)).k=2→∀ k,Yp L (yc fixed k (L.drop i)) dp (Z2 L ⟨i,dp,0⟩):=fun i dp h k=>by
  have hne:(hdT (L.drop i)).k≠0:=by omega
  have hm:=hL _ (zi7 hne)
  rw[zZ,ZR.eq_def]
  unfold Z2
  rw[hd_ok]
  generalize hdT (L.drop i)=x at *
  rcases h with h|h|h|h
  ·simp only[h,show ¬ ((3:Int)=2) by decide,if_false,true_or,if_true,yi,zdE hm (.inl h)];exact .ok
  ·simp only[h,show ¬ ((4:Int)=2) by decide,if_false,or_true,if_true,yi,zdE hm (.inr h)];exact .ok
  ·simp only[h,show ¬ ((5:Int)=2) by decide,show ¬ ((5:Int)=3∨(5:Int)=4) by decide,if_false,if_true,yi];exact .ok
  ·simp only[h,show ¬ ((2:Int)=5) by decide,show ¬ ((2:Int)=3∨(2:Int)=4) by decide,if_false,if_true,yi];exact .ok
 have rest:∀(i:Nat) (dp:Int) (k:Nat),¬ ((hdT (L.drop i)).k=3∨(hdT (L.drop i)).k=4∨(hdT (L.drop i)).k=5∨(hdT (L.drop i)).k=2)→isP [91] (L.drop i)=false→isP [123] (L.drop i)=false →
   Yp L (yc fixed k (L.drop i)) dp (if isS L [36] ⟨i,dp,0⟩&&!fixed then ZA L ⟨i,dp,0⟩ else (zV,yM 2 ⟨i,dp,0⟩)):=fun i dp k h h1 h2=>by
  rw[zZ,ZR.eq_def,h1,h2]
  simp only[not_or] at h
  simp only[h.2.2.2,h.1,h.2.1,h.2.2.1,or_self,if_false,Al7]
  cases fixed with
  | true=>simp only[if_true,Bool.not_true,Bool.and_false,Al7,if_false];exact⟨by decide,rfl⟩
  | false =>
   simp only[Al7,if_false,Bool.not_false,Bool.and_true]
   rw[yh]
   cases hd:isP [36] (L.drop i) with
   | false =>
    simp only[Al7,if_false,yA,hd,pb]
    exact⟨by decide,rfl⟩
   | true =>
    simp only[if_true]
    refine(zbf L [36] i dp).bind (β:=Val) (g:=fun q=>(.mk 8 0 (zt L q.2).1 [] [],(zt L q.2).2)) (fun _ i1 _ _=>?_) fun q hq=>by simp only;rw[zbj hq]
    exact(zbi L i1 dp).bind (β:=Val) (g:=fun q=>(.mk 8 0 q.1 [] [],q.2)) (fun _ _ _ _=>.ok) fun q hq=>rfl
 intro k
 induction k with
 | zero =>
  intro _
  refine⟨fun i=>?_,bad 0⟩
  rw[yX,hd_ok]
  split
  ·rename_i h;exact leaf i _ h 0
  rename_i h
  have hr:=rest i ((16:Int)-(0:Nat)) 0 h
  rw[yh] at hr ⊢
  have nd:∀ m n:List UInt8,m≠n→isP m (L.drop i)=true→isP n (L.drop i)=false:=fun m n hmn hm=>by
   simp only[isP,Al0,zm] at hm
   simp[isP,hm.2,hmn]
  have hk:∀ m,isP m (L.drop i)=true→(hdT (L.drop i)).k=1:=fun m hm=>by
   simp only[isP,Al0,zm] at hm;exact hm.1
  cases h1:isP [91] (L.drop i) with
  | true =>
   have h2:=nd _ [36] (by decide) h1
   rw[zZ,ZR.eq_def,h2,h1]
   simp only[hk _ h1,Bool.false_and,Al7,if_false,yh,h1,if_true,show ¬ ((1:Int)=2) by decide,show ¬ ((1:Int)=3∨(1:Int)=4) by decide,show ¬ ((1:Int)=5) by decide]
   refine⟨by decide,?_⟩
   have e:=Y6 h1
   simp only[Int.natCast_zero,Int.sub_zero,e] at *
   exact zcu (show (4:Int)≠0 by decide)
  | false =>
   cases h2:isP [123] (L.drop i) with
   | true =>
    have h3:=nd _ [36] (by decide) h2
    rw[zZ,ZR.eq_def,h3,h1,h2]
    simp only[hk _ h2,Bool.false_and,Al7,if_false,yh,h1,h2,if_true,show ¬ ((1:Int)=2) by decide,show ¬ ((1:Int)=3∨(1:Int)=4) by decide,show ¬ ((1:Int)=5) by decide]
    refine⟨by decide,?_⟩
    have e:=Y6 h2
    simp only[Int.natCast_zero,Int.sub_zero,e] at *
    exact zcu (show (4:Int)≠0 by decide)
   | false =>
    simp only[yh,h1,h2,Al7,if_false]
    exact hr h1 h2
 | succ k ih =>
  intro hk16
  have ih:=ih (by omega)
  refine⟨fun i=>?_,bad (k+1)⟩
  rw[yX,hd_ok]
  split
  ·rename_i h;exact leaf i _ h (k+1)
  rename_i h
  have hr:=rest i ((16:Int)-(k+1:Nat)) (k+1) h
  rw[yh] at hr ⊢
  have nd:∀ m n:List UInt8,m≠n→isP m (L.drop i)=true→isP n (L.drop i)=false:=fun m n hmn hm=>by
   simp only[isP,Al0,zm] at hm
   simp[isP,hm.2,hmn]
  have hk:∀ m,isP m (L.drop i)=true→(hdT (L.drop i)).k=1:=fun m hm=>by
   simp only[isP,Al0,zm] at hm;exact hm.1
  have edp:(16:Int)-(k+1:Nat)+1=16-(k:Nat):=by omega
  cases h1:isP [91] (L.drop i) with
  | true =>
   have h2:=nd _ [36] (by decide) h1
   rw[zZ,ZR.eq_def,h2,h1]
   simp only[hk _ h1,Bool.false_and,Al7,if_false,yh,h1,if_true,show ¬ ((1:Int)=2) by decide,show ¬ ((1:Int)=3∨(1:Int)=4) by decide,show ¬ ((1:Int)=5) by decide]
   rw[zbO h1 (by omega) (by omega),yi,edp]
   refine zd4 (fun l=>Val.mk 6 0 [] l []) (by omega) (by omega) ?_
   rw[edp]
   exact zbb ih _ _ [] (i+1) (fun e=>by cases e) (by simp) (by omega) ((yb fixed k).lt (by decide))
  | false =>
   cases h2:isP [123] (L.drop i) with
   | true =>
    have h3:=nd _ [36] (by decide) h2
    rw[zZ,ZR.eq_def,h3,h1,h2]
    simp only[hk _ h2,Bool.false_and,Al7,if_false,yh,h1,h2,if_true,show ¬ ((1:Int)=2) by decide,show ¬ ((1:Int)=3∨(1:Int)=4) by decide,show ¬ ((1:Int)=5) by decide]
    rw[zbO h2 (by omega) (by omega),yi,edp]
    refine zd4 (fun l=>Val.mk 7 0 [] [] l) (by omega) (by omega) ?_
    rw[edp]
    exact zbb (zbt ih) _ _ [] (i+1) (fun e=>by cases e) (by simp) (by omega) ((z8 (yb fixed k)).lt (by decide))
   | false =>
    simp only[yh,h1,h2,Al7,if_false]
    exact hr h1 h2
section
variable (L:TS)
end
theorem zfZ {L:TS} {fixed:Bool} {k:Nat} {s:St} (h:s.e≠0):(yX L fixed k s).2.e=s.e:=by
 cases k<;>simp[yX,zbS h,Y0 h,yL h]
theorem zfY {L:TS} {m:List UInt8} {i:Nat}:(zY L m ⟨i,16,0⟩).e≠0:=by
 cases h:isP m (L.drop i) with
 | true=>rw[Y6 h];exact(show (4:Int)≠0 by decide)
 | false=>rw[zeg h];decide
theorem zgM {m:Int} (h0:0≤m) (h1:m<64) (h2:m % 2=0):or1 m=m+1:=by
 have:∀ x:Fin 64,x.val % 2=0→or1 (x.val:Int)=(x.val:Int)+1:=by decide +kernel
 have:=this ⟨m.toNat,by omega⟩ (by (try simp only);omega)
 simp only[Int.toNat_of_nonneg h0] at this
 exact this
theorem zhO {m:Int} (h0:0≤m) (h1:m<64):zfQ m=m*2:=by
 have e:min 1 IntKind.i64.bits=1:=by decide
 unfold zfQ;rw[e];exact wrap64 (by omega) (by omega)
theorem YP {L:TS} {ty:TyD} {s:St} (h:s.e≠0):yF L ty s=(ty,s):=by simp[yF,Y0 h]
theorem zcI {L:TS} {ty:TyD} (h0:0≤ty.musts) (h1:ty.musts<64) (h2:ty.musts % 2=0) (i:Nat) (dp:Int):Yp L (Yt ty (L.drop i)) dp (yF L ty ⟨i,dp,0⟩):=by
 unfold Yt yF
 rw[yh]
 cases hp:isP [33] (L.drop i) with
 | true =>
  simp only[if_true]
  rw[zaT hp,yi,zgM h0 h1 h2]
  exact .ok
 | false=>exact .ok
theorem zb2 {L:TS}:∀ k s,s.e≠0→(ZY L k s).2.e=s.e:=fun k s h=>by
 cases k<;>(simp only[ZY];rw[Y0 h,zbj h];simp only[Al7,if_false];rw[YP h])
theorem zhf {L:TS} (dp:Int):∀ k:Nat,k≤4→SimS L (ZS k) dp (ZY L k):=by
 have nm:∀ i:Nat,Yp L (pb (zL (L.drop i)) fun s t=>Yt ⟨s,0,0⟩ t) dp (yF L ⟨(zt L ⟨i,dp,0⟩).1,0,0⟩ (zt L ⟨i,dp,0⟩).2):=fun i =>
  (zbi L i dp).bind (β:=TyD) (g:=fun q=>yF L ⟨q.1,0,0⟩ q.2) (fun s i1 _ _=>zcI (by simp) (by simp) (by simp) i1 dp) fun q hq=>by (try simp only);rw[YP hq]
 intro k
 induction k with
 | zero =>
  intro _
  refine⟨fun i=>?_,zb2 0⟩
  rw[Zm,zbx.eq_def,ZY,yh]
  cases hp:isP [91] (L.drop i) with
  | true=>exact⟨by decide,rfl⟩
  | false=>exact nm i
 | succ k ih =>
  intro hk
  have ih:=ih (by omega)
  refine⟨fun i=>?_,zb2 (k+1)⟩
  rw[Zm,zbx.eq_def,ZY,yh]
  cases hp:isP [91] (L.drop i) with
  | false=>exact nm i
  | true =>
   simp only[if_true]
   rw[zaT hp,yi]
   refine(ih.rel (i+1)).bind (β:=TyD) (g:=fun q=>yF L (yg q.1) (zw L [93] q.2)) (fun ty i1 e1 _=>?_) fun q hq=>by (try simp only);rw[Zv hq,YP hq]
   obtain⟨a1,a2,a3,a4⟩:=(zbH k _ _ _ e1).ok
   have h5:(2:Int) ^ (ty.lists.toNat+1)≤2 ^ 4:=by
    have:ty.lists.toNat+1≤4:=by omega
    exact_mod_cast Nat.pow_le_pow_right (by decide) this
   have ew:yg ty=⟨ty.nm,ty.lists+1,ty.musts*2⟩:=by
    unfold yg;rw[zhO a3 (by omega),wrap64 (by omega) (by omega)]
   refine(zbf L [93] i1 dp).bind (β:=TyD) (g:=fun q=>yF L (yg ty) q.2) (fun _ i2 _ _=>?_) fun q hq=>by (try simp only);rw[YP hq]
   try simp only
   rw[ew]
   exact zcI (by (try simp only);omega) (by (try simp only);omega) (by (try simp only);omega) i2 dp
def zv (x:Tok):AV:=.agg [.int .i64 x.k,.str x.s]
def Zx:Own→Option Nat
 | .tip b _=>some b
 | _=>none
structure Sep (H:Heap) (l:List (Own×Nat×Nat)):Prop where
 own:∀ x∈l,Owned H x.1 x.2.1 x.2.2
 nd:(l.filterMap fun x=>Zx x.1).Nodup
theorem Yj {o:Own} {b:Nat} (h:Zx o=some b):∃ d,o=.tip b d:=by
 cases o<;>simp[Zx] at h
 rename_i c d;subst h;exact⟨d,rfl⟩
theorem Owned.ofKept {H H':Heap} {o o2:Own} {n sz:Nat} (h:Owned H o n sz) (hk:Kept H o2 H') (hne:∀ b d d2,o=.tip b d→o2≠.tip b d2):Owned H' o n sz:=by
 cases o with
 | tip b d=>exact hk b _ h fun d2 e=>hne b d d2 rfl e
 | no=>exact h
 | nil=>exact h
 | full=>exact h
theorem Sep.step {H H':Heap} {a b:List (Own×Nat×Nat)} {o o':Own} {n n' sz:Nat} (h:Sep H (a++(o,n,sz)::b)) (h':OwnS H o H' o' n' sz):Sep H' (a++(o',n',sz)::b):=by
 have hnd:=h.nd
 simp only[List.filterMap_append,List.filterMap_cons] at hnd
 have hother:∀ x,x∈a∨x∈b→∀ c d d2,x.1=.tip c d→o≠.tip c d2:=fun x hx c d d2 hxe e=>by
  subst e
  simp only[Zx] at hnd
  rw[List.nodup_append] at hnd
  obtain⟨_,hb,hab⟩:=hnd
  rcases hx with hx|hx
  ·exact hab c (List.mem_filterMap.2 ⟨x,hx,by rw[hxe]⟩) c (y0 ..) rfl
  ·exact(List.nodup_cons.1 hb).1 (List.mem_filterMap.2 ⟨x,hx,by rw[hxe]⟩)
 refine⟨fun x hx=>?_,?_⟩
 ·rcases List.mem_append.1 hx with hx|hx
  ·exact Owned.ofKept (h.own x (by simp[hx])) h'.kept fun c d d2=>hother x (.inl hx) c d d2
  ·rcases List.mem_cons.1 hx with rfl|hx
   ·exact h'.own
   ·exact Owned.ofKept (h.own x (by simp[hx])) h'.kept fun c d d2=>hother x (.inr hx) c d d2
 ·simp only[List.filterMap_append,List.filterMap_cons]
  have hsub:∀ c,c∈a.filterMap (fun x=>Zx x.1)∨c∈b.filterMap (fun x=>Zx x.1)→Zx o'≠some c:=fun c hc e=>by
   obtain⟨d',e⟩:=Yj e
   have hH:H c≠none∧∀ d0,o≠.tip c d0:=by
    rcases hc with hc|hc<;>obtain⟨x,hx,hxe⟩:=List.mem_filterMap.1 hc<;>obtain⟨d,hxe⟩:=Yj hxe
    ·have:=h.own x (by simp[hx]);rw[hxe] at this
     have h2:H c=some _:=this
     exact⟨by simp[h2],fun d0=>hother x (.inl hx) c d d0 hxe⟩
    ·have:=h.own x (by simp[hx]);rw[hxe] at this
     have h2:H c=some _:=this
     exact⟨by simp[h2],fun d0=>hother x (.inr hx) c d d0 hxe⟩
   rcases h'.new c d' e with h1|⟨d0,h1⟩
   ·exact hH.1 h1
   ·exact hH.2 d0 h1
  have hnd2:(a.filterMap (fun x=>Zx x.1)++b.filterMap (fun x=>Zx x.1)).Nodup:=by
   cases ho:Zx o with
   | none=>rw[ho] at hnd;exact hnd
   | some c =>
    rw[ho] at hnd
    rw[List.nodup_append] at hnd ⊢
    exact⟨hnd.1,(List.nodup_cons.1 hnd.2.1).2,fun x hx y hy=>hnd.2.2 x hx y (Zz _ hy)⟩
  cases ho:Zx o' with
  | none=>exact hnd2
  | some c =>
   have hc:=hsub c
   rw[List.nodup_append] at hnd2 ⊢
   refine⟨hnd2.1,List.nodup_cons.2 ⟨fun hm=>hc (.inr hm) ho,hnd2.2.1⟩,fun x hx y hy=>?_⟩
   rcases List.mem_cons.1 hy with rfl|hy
   ·exact fun e=>hc (.inl (e▸hx)) ho
   ·exact hnd2.2.2 x hx y hy
theorem Sep.mono {H H':Heap} {l:List (Own×Nat×Nat)} (h:Sep H l) (hk:∀ c n sz,H c=some (.tip n sz)→H' c=some (.tip n sz)):Sep H' l :=
 ⟨fun x hx=>by
  have:=h.own x hx
  obtain⟨o,n,sz⟩:=x
  cases o with
  | tip c d=>exact hk c _ _ this
  | no=>exact this
  | nil=>exact this
  | full=>exact this,h.nd⟩
open Go.Lib Go.RowKit Go.Sort
theorem zb6 (s:List UInt8) (c:UInt8):Pure Tryz.prog 122 [.str s,.int .u8 c.toNat] (.int .i64 (Lib.indexByte s c)):=by
 refine Pure.of_calls fun γ w vs ht hv=>?_
 obtain⟨hl,hr⟩:=hv
 match vs,hl with
 | [v,u],_ =>
  cases hr 0 _ _ rfl rfl
  cases hr 1 _ _ rfl rfl
  refine(Tryz.strings_IndexByte ⟨s.toArray⟩ c.toNat w).mono fun e w' ⟨he,hw⟩=>⟨hw,_,he,?_⟩
  have e1:((c.toNat:Int)).toNat.toUInt8=c:=by simp
  rw[e1]
  exact .int _ _
end Go.Proofs.YtaielcdfcgpbiaaGreatDoor
namespace Go.Proofs.YtaielcdfcgpbiaaGreatDoor
open Go.Ab
theorem zC (l:List UInt8):(bytesOf l).length=l.length:=by simp[bytesOf]
theorem ya (a b:List UInt8):bytesOf a++bytesOf b=bytesOf (a++b):=by simp[bytesOf]
theorem yH (l:List UInt8):(bytesOf l).map (·.map AV.strip1)=bytesOf l:=by simp[bytesOf,AV.strip1]
theorem ZN (l:List UInt8):byts (bytesOf l)=some l:=by
 induction l with
 | nil=>rfl
 | cons c r ih =>
  have h:=c.toNat_lt
  simp only[bytesOf,List.map_cons] at ih ⊢
  simp only[byts,ih,zK]
  rw[if_pos ⟨by omega,by omega⟩]
  simp
theorem zbu (acc:List UInt8) (c:UInt8):bytesOf acc++[[.int .u8 c.toNat]]=bytesOf (acc++[c]):=ya acc [c]
theorem zjS {n:Nat} (h:n<4294967296):IntKind.wrap .u32 (n:Int)=n:=by
 have e:IntKind.wrap .u32 (n:Int)=(n:Int) % 4294967296:=rfl
 rw[e];omega
theorem zf6 {n:Nat} (h:n<2147483648):IntKind.wrap .i32 (n:Int)=n:=by
 have e:IntKind.wrap .i32 (n:Int)=if (n:Int) % 4294967296≥2147483648 then (n:Int) % 4294967296-4294967296 else (n:Int) % 4294967296:=by
  simp[IntKind.wrap,IntKind.bits,IntKind.signed]
 rw[e];split<;>omega
theorem wr8 (n:Nat):IntKind.wrap .u8 (n:Int)=((n % 256:Nat):Int):=by
 have e:IntKind.wrap .u8 (n:Int)=(n:Int) % 256:=rfl
 rw[e];omega
theorem fd6 (n:Nat):(n:Int).fdiv (2 ^ min 6 IntKind.i32.bits)=((n / 64:Nat):Int):=by
 show (n:Int).fdiv 64=_
 rw[Int.fdiv_eq_ediv_of_nonneg _ (by decide)];omega
theorem zja (n:Nat):(n:Int).fdiv (2 ^ min 12 IntKind.i32.bits)=((n / 4096:Nat):Int):=by
 show (n:Int).fdiv 4096=_
 rw[Int.fdiv_eq_ediv_of_nonneg _ (by decide)];omega
theorem zj5 (n:Nat):(n:Int).fdiv (2 ^ min 18 IntKind.i32.bits)=((n / 262144:Nat):Int):=by
 show (n:Int).fdiv 262144=_
 rw[Int.fdiv_eq_ediv_of_nonneg _ (by decide)];omega
theorem zjW:∀ x:Fin 32,IntKind.wrap .u8 ((BitVec.ofInt IntKind.u8.bits 192 ||| BitVec.ofInt IntKind.u8.bits ((x.val:Nat):Int)).toNat:Int)=((UInt8.ofNat (192+x.val)).toNat:Int):=by decide +kernel
theorem zjM:∀ x:Fin 16,IntKind.wrap .u8 ((BitVec.ofInt IntKind.u8.bits 224 ||| BitVec.ofInt IntKind.u8.bits ((x.val:Nat):Int)).toNat:Int)=((UInt8.ofNat (224+x.val)).toNat:Int):=by decide +kernel
theorem zjQ:∀ x:Fin 8,IntKind.wrap .u8 ((BitVec.ofInt IntKind.u8.bits 240 ||| BitVec.ofInt IntKind.u8.bits ((x.val:Nat):Int)).toNat:Int)=((UInt8.ofNat (240+x.val)).toNat:Int):=by decide +kernel
theorem zjR:∀ x:Fin 256,IntKind.wrap .u8 ((BitVec.ofInt IntKind.u8.bits 128 ||| BitVec.ofInt IntKind.u8.bits (IntKind.wrap .u8 ((BitVec.ofInt IntKind.u8.bits ((x.val:Nat):Int) &&& BitVec.ofInt IntKind.u8.bits 63).toNat:Int))).toNat:Int)=((UInt8.ofNat (128+x.val % 64)).toNat:Int):=by decide +kernel
theorem zjh {m:Nat} (h:m<32):IntKind.wrap .u8 ((BitVec.ofInt IntKind.u8.bits 192 ||| BitVec.ofInt IntKind.u8.bits (IntKind.wrap .u8 (m:Int))).toNat:Int)=((UInt8.ofNat (192+m)).toNat:Int):=by
 rw[wr8 m,Nat.mod_eq_of_lt (show m<256 by omega)];exact zjW ⟨m,h⟩
theorem zin {m:Nat} (h:m<16):IntKind.wrap .u8 ((BitVec.ofInt IntKind.u8.bits 224 ||| BitVec.ofInt IntKind.u8.bits (IntKind.wrap .u8 (m:Int))).toNat:Int)=((UInt8.ofNat (224+m)).toNat:Int):=by
 rw[wr8 m,Nat.mod_eq_of_lt (show m<256 by omega)];exact zjM ⟨m,h⟩
theorem zjz {m:Nat} (h:m<8):IntKind.wrap .u8 ((BitVec.ofInt IntKind.u8.bits 240 ||| BitVec.ofInt IntKind.u8.bits (IntKind.wrap .u8 (m:Int))).toNat:Int)=((UInt8.ofNat (240+m)).toNat:Int):=by
 rw[wr8 m,Nat.mod_eq_of_lt (show m<256 by omega)];exact zjQ ⟨m,h⟩
theorem zhw (m:Nat):IntKind.wrap .u8 ((BitVec.ofInt IntKind.u8.bits 128 ||| BitVec.ofInt IntKind.u8.bits (IntKind.wrap .u8 ((BitVec.ofInt IntKind.u8.bits (IntKind.wrap .u8 (m:Int)) &&& BitVec.ofInt IntKind.u8.bits 63).toNat:Int))).toNat:Int)=((UInt8.ofNat (128+m % 64)).toNat:Int):=by
 rw[wr8 m]
 have:=zjR ⟨m % 256,Nat.mod_lt _ (by decide)⟩
 simp only at this
 rw[this,Nat.mod_mod_of_dvd m (by decide)]
theorem ziV (n:Nat) (h0:127<n) (h1:n≤1114111) (h2:¬ (55296≤n∧n≤57343)) (acc:List UInt8) (H:Heap) (o:Own) (ho:Owned H o acc.length 1) (hb:acc.length≤Lim) :
  zf4 Tryz.prog 268 [.sl o 1 (bytesOf acc),.int .i32 n] H o 1 (bytesOf (acc++ym n)):=by
 refine ACalls.goO ir268 ck268 (Al4 _) fun KP Q hQ hP=>?_
 have e1:=zjS (n:=n) (by omega)
 have hal:=zC acc
 simp only[Lim] at hb
 have ho':Owned H o (bytesOf acc).length 1:=by rw[hal];exact ho
 have fin:∀(e:List UInt8) o' H',ym n=e→OwnS H o H' o' ((bytesOf acc).length+e.length) 1→zjD H o 1 (bytesOf (acc++ym n)) (.sl o' 1 (bytesOf acc++bytesOf e)) H':=fun e o' H' he hs=>by
  rw[he];exact⟨o',by rw[ya],by rw[zC,Al5];rw[hal] at hs;exact hs⟩
 by_cases h3:n≤2047
 ·have g1:((n:Int)≤2047)=True:=eq_true (by omega)
  simp(disch:=first|omega|assumption) only[ir268,e1,g1,steps,st2,pev,rev,oev,optr,ibin,sbin,ishf,bound,mmAll,mm2,mk,mkArgs,AV.cells,AV.boxable,AV.one,AV.strip1,fillA,fillS,Nat.reduceEqDiff,reduceCtorEq,↓reduceIte,Nat.reduceAdd,Int.reduceNeg,Nat.reduceLeDiff,Int.reduceToNat,Int.reduceEq,Int.reduceLT,Int.reduceLE,Int.reduceAdd,Io,Im,If,Il,Jt,Jf,AC.rg,Jm,Jl,Ja,Fm,Fl,Fa,Imv,Imb,Iai,Iei,Igi,Isi,Ipf,Ipt,Ilb,Iia,Ilt,Iap,Ink,Iln,Ils,Iad,Iex,Ibx,Ing]
  simp only[fd6,zjh (show n / 64<32 by omega),zhw]
  refine goP_ownS ho' (by simp[hal];omega) (by simp[hal,maxLen];omega) fun o' H' hs=>?_
  simp(disch:=first|omega|assumption) only[steps,st2,pev,rev,oev,optr,ibin,sbin,ishf,bound,mmAll,mm2,mk,mkArgs,AV.cells,AV.boxable,AV.one,AV.strip1,fillA,fillS,Nat.reduceEqDiff,reduceCtorEq,↓reduceIte,Nat.reduceAdd,Int.reduceNeg,Nat.reduceLeDiff,Int.reduceToNat,Int.reduceEq,Int.reduceLT,Int.reduceLE,Int.reduceAdd]
  exact hQ _ _ H' H' [_] nofun rfl (Low.refl _) (fin [_,_] o' H' (by unfold ym;rw[if_neg (by omega),if_pos h3]) hs)
 ·have g1:¬ ((n:Int)≤2047):=by omega
  by_cases h4:n≤65535
  ·by_cases h5:n<55296
   ·have g2:((n:Int)<55296)=True:=eq_true (by omega)
    simp(disch:=first|omega|assumption) only[ir268,e1,g1,g2,steps,st2,pev,rev,oev,optr,ibin,sbin,ishf,bound,mmAll,mm2,mk,mkArgs,AV.cells,AV.boxable,AV.one,AV.strip1,fillA,fillS,Nat.reduceEqDiff,reduceCtorEq,↓reduceIte,Nat.reduceAdd,Int.reduceNeg,Nat.reduceLeDiff,Int.reduceToNat,Int.reduceEq,Int.reduceLT,Int.reduceLE,Int.reduceAdd,Io,Im,If,Il,Jt,Jf,AC.rg,Jm,Jl,Ja,Fm,Fl,Fa,Imv,Imb,Iai,Iei,Igi,Isi,Ipf,Ipt,Ilb,Iia,Ilt,Iap,Ink,Iln,Ils,Iad,Iex,Ibx,Ing]
    simp only[fd6,zja,zin (show n / 4096<16 by omega),zhw]
    refine goP_ownS ho' (by simp[hal];omega) (by simp[hal,maxLen];omega) fun o' H' hs=>?_
    simp(disch:=first|omega|assumption) only[steps,st2,pev,rev,oev,optr,ibin,sbin,ishf,bound,mmAll,mm2,mk,mkArgs,AV.cells,AV.boxable,AV.one,AV.strip1,fillA,fillS,Nat.reduceEqDiff,reduceCtorEq,↓reduceIte,Nat.reduceAdd,Int.reduceNeg,Nat.reduceLeDiff,Int.reduceToNat,Int.reduceEq,Int.reduceLT,Int.reduceLE,Int.reduceAdd]
    exact hQ _ _ H' H' [_] nofun rfl (Low.refl _) (fin [_,_,_] o' H' (by unfold ym;rw[if_neg (by omega),if_neg h3,if_pos h4]) hs)
   ·have g2:¬ ((n:Int)<55296):=by omega
    have g3:((57343:Int)<n)=True:=eq_true (by omega)
    have g4:((n:Int)≤65535)=True:=eq_true (by omega)
    simp(disch:=first|omega|assumption) only[ir268,e1,g1,g2,g3,g4,steps,st2,pev,rev,oev,optr,ibin,sbin,ishf,bound,mmAll,mm2,mk,mkArgs,AV.cells,AV.boxable,AV.one,AV.strip1,fillA,fillS,Nat.reduceEqDiff,reduceCtorEq,↓reduceIte,Nat.reduceAdd,Int.reduceNeg,Nat.reduceLeDiff,Int.reduceToNat,Int.reduceEq,Int.reduceLT,Int.reduceLE,Int.reduceAdd,Io,Im,If,Il,Jt,Jf,AC.rg,Jm,Jl,Ja,Fm,Fl,Fa,Imv,Imb,Iai,Iei,Igi,Isi,Ipf,Ipt,Ilb,Iia,Ilt,Iap,Ink,Iln,Ils,Iad,Iex,Ibx,Ing]
    simp only[fd6,zja,zin (show n / 4096<16 by omega),zhw]
    refine goP_ownS ho' (by simp[hal];omega) (by simp[hal,maxLen];omega) fun o' H' hs=>?_
    simp(disch:=first|omega|assumption) only[steps,st2,pev,rev,oev,optr,ibin,sbin,ishf,bound,mmAll,mm2,mk,mkArgs,AV.cells,AV.boxable,AV.one,AV.strip1,fillA,fillS,Nat.reduceEqDiff,reduceCtorEq,↓reduceIte,Nat.reduceAdd,Int.reduceNeg,Nat.reduceLeDiff,Int.reduceToNat,Int.reduceEq,Int.reduceLT,Int.reduceLE,Int.reduceAdd]
    exact hQ _ _ H' H' [_] nofun rfl (Low.refl _) (fin [_,_,_] o' H' (by unfold ym;rw[if_neg (by omega),if_neg h3,if_pos h4]) hs)
  ·have g2:¬ ((n:Int)<55296):=by omega
   have g3:((57343:Int)<n)=True:=eq_true (by omega)
   have g4:¬ ((n:Int)≤65535):=by omega
   have g5:((65535:Int)<n)=True:=eq_true (by omega)
   have g6:((n:Int)≤1114111)=True:=eq_true (by omega)
   simp(disch:=first|omega|assumption) only[ir268,e1,g1,g2,g3,g4,g5,g6,steps,st2,pev,rev,oev,optr,ibin,sbin,ishf,bound,mmAll,mm2,mk,mkArgs,AV.cells,AV.boxable,AV.one,AV.strip1,fillA,fillS,Nat.reduceEqDiff,reduceCtorEq,↓reduceIte,Nat.reduceAdd,Int.reduceNeg,Nat.reduceLeDiff,Int.reduceToNat,Int.reduceEq,Int.reduceLT,Int.reduceLE,Int.reduceAdd,Io,Im,If,Il,Jt,Jf,AC.rg,Jm,Jl,Ja,Fm,Fl,Fa,Imv,Imb,Iai,Iei,Igi,Isi,Ipf,Ipt,Ilb,Iia,Ilt,Iap,Ink,Iln,Ils,Iad,Iex,Ibx,Ing]
   simp only[fd6,zja,zj5,zjz (show n / 262144<8 by omega),zhw]
   refine goP_ownS ho' (by simp[hal];omega) (by simp[hal,maxLen];omega) fun o' H' hs=>?_
   simp(disch:=first|omega|assumption) only[steps,st2,pev,rev,oev,optr,ibin,sbin,ishf,bound,mmAll,mm2,mk,mkArgs,AV.cells,AV.boxable,AV.one,AV.strip1,fillA,fillS,Nat.reduceEqDiff,reduceCtorEq,↓reduceIte,Nat.reduceAdd,Int.reduceNeg,Nat.reduceLeDiff,Int.reduceToNat,Int.reduceEq,Int.reduceLT,Int.reduceLE,Int.reduceAdd]
   exact hQ _ _ H' H' [_] nofun rfl (Low.refl _) (fin [_,_,_,_] o' H' (by unfold ym;rw[if_neg (by omega),if_neg h3,if_neg h4]) hs)
theorem zdc (n:Nat) (h1:n≤1114111) (h2:¬ (55296≤n∧n≤57343)) (acc:List UInt8) (H:Heap) (o:Own) (ho:Owned H o acc.length 1) (hb:acc.length≤Lim) :
  zf4 Tryz.prog 247 [.sl o 1 (bytesOf acc),.int .i32 n] H o 1 (bytesOf (acc++ym n)):=by
 refine ACalls.goO ir247 ck247 (Al4 _) fun KP Q hQ hP=>?_
 have e1:=zjS (n:=n) (by omega)
 have hal:=zC acc
 by_cases h3:n≤127
 ·have g1:((n:Int)≤127)=True:=eq_true (by omega)
  have g2:IntKind.wrap .u8 (n:Int)=((UInt8.ofNat n).toNat:Int):=by rw[wr8];simp
  simp only[Lim] at hb
  simp(disch:=first|omega|assumption) only[ir247,e1,g1,g2,go_sem]
  refine goP_ownS (by rw[hal];exact ho) (by simp[hal];omega) (by simp[hal,maxLen];omega) fun o' H' hs=>?_
  simp(disch:=first|omega|assumption) only[go_sem]
  refine hQ _ _ H' H' [_] nofun rfl (Low.refl _) ⟨o',?_,?_⟩
  ·have:ym n=[UInt8.ofNat n]:=by unfold ym;rw[if_pos h3]
   rw[this];exact congrArg _ (zbu _ _)
  ·have:ym n=[UInt8.ofNat n]:=by unfold ym;rw[if_pos h3]
   rw[this,zC];simpa[hal] using hs
 ·have g1:¬ ((n:Int)≤127):=by omega
  simp(disch:=first|omega|assumption) only[ir247,e1,g1,go_sem]
  refine YQ (ziV n (by omega) h1 h2 acc H o ho hb) fun o' H' hs=>?_
  simp(disch:=first|omega|assumption) only[go_sem]
  exact hQ _ _ H' H' [_] nofun rfl (Low.refl _) ⟨o',rfl,hs⟩
theorem zjy:∀ x:Fin 256,IntKind.wrap .u8 ((BitVec.ofInt IntKind.u8.bits ((x.val:Nat):Int) ||| BitVec.ofInt IntKind.u8.bits 32).toNat:Int)=((UInt8.ofNat x.val ||| 32).toNat:Int):=by decide +kernel
theorem zkd (c:UInt8):IntKind.wrap .u8 ((BitVec.ofInt IntKind.u8.bits (c.toNat:Int) ||| BitVec.ofInt IntKind.u8.bits 32).toNat:Int)=((c ||| 32).toNat:Int):=by
 have:=zjy ⟨c.toNat,c.toNat_lt⟩
 simpa using this
theorem zc8 (l:List UInt8) (c:UInt8):-1≤Lib.indexByte l c∧Lib.indexByte l c<l.length:=by
 induction l with
 | nil=>simp[Lib.indexByte]
 | cons x r ih =>
  simp only[Lib.indexByte,Al2]
  split
  ·omega
  ·split
   ·omega
   ·omega
theorem zhL {c:UInt8} {k:Nat} (h:hexD c=some k):k<16:=by
 unfold hexD at h
 split at h
 ·cases h
 ·cases h;have:=zc8 hexL (c ||| 32);simp only[hexL,Al2,Al3] at this ⊢;omega
theorem zed:∀(n:Nat) (t:List UInt8) (u v m:Nat),u<m→yu n t u=some v→v<m*16 ^ n
 | 0,_,u,v,m,hu,h=>by simp only[yu,Al1] at h;subst h;simpa using hu
 | n+1,[],_,_,_,_,h=>by cases h
 | n+1,c::t,u,v,m,hu,h=>by
  simp only[yu] at h
  split at h
  ·cases h
  ·rename_i k hk
   have h1:=zhL hk
   have h2:=zed n t (16*u+k) v (16*m) (by omega) h
   rw[Nat.pow_succ];rw[show 16*m*16 ^ n=m*(16 ^ n*16) by rw[Nat.mul_comm (16 ^ n) 16,← Nat.mul_assoc,Nat.mul_comm m 16]] at h2;exact h2
theorem zg8 {t:List UInt8} {u:Nat} (h:yD t=some u):u<65536:=zed 4 t 0 u 1 (by decide) h
theorem zjC (s:List UInt8) (hs:s.length≤Lim):Pure Tryz.prog 219 [.str s] (.tup [.int .i64 ((yD s).getD 0:Nat),.bool (yD s).isSome]):=by
 refine Pure.go ir219 ck219 (Al4 _) fun KP Q hQ=>?_
 simp only[Lim] at hs
 by_cases h4:s.length<4
 ·have g1:((s.length:Int)<4)=True:=eq_true (by omega)
  have:yD s=none:=by
   cases h:yD s with
   | none=>rfl
   | some u=>have:=Zr _ _ _ _ h;omega
  simp(disch:=first|omega|assumption) only[ir219,g1,steps,st2,pev,rev,oev,optr,ibin,sbin,ishf,bound,mmAll,mm2,mk,mkArgs,AV.cells,AV.boxable,AV.one,AV.strip1,fillA,fillS,Nat.reduceEqDiff,reduceCtorEq,↓reduceIte,Nat.reduceAdd,Int.reduceNeg,Nat.reduceLeDiff,Int.reduceToNat,Int.reduceEq,Int.reduceLT,Int.reduceLE,Int.reduceAdd,Io,Im,If,Il,Jt,Jf,AC.rg,Jm,Jl,Ja,Fm,Fl,Fa,Imv,Imb,Iai,Iei,Igi,Isi,Ipf,Ipt,Ilb,Iia,Ilt,Iap,Ink,Iln,Ils,Iad,Iex,Ibx,Ing]
  exact hQ _ _ _ _ nofun rfl (by simp[tupOf,envOf,AV.strip,AV.strip1,this])
 ·have g1:¬ ((s.length:Int)<4):=by omega
  obtain⟨l,r,hl,hsr⟩:∃ l r:List UInt8,l.length=4∧s=l++r:=⟨s.take 4,s.drop 4,by simp;omega,by simp⟩
  have hl':(l.length:Int)=4:=by omega
  have key:∀(a b:List UInt8) (u:Nat),l=a++b→yu b.length (b++r) u=yu (4-a.length) (s.drop a.length) u:=fun a b u h=>by
   have:a.length+b.length=4:=by rw[← hl,h];simp
   rw[hsr,h,zbw,List.drop_left];congr 1;omega
  simp(disch:=first|omega|assumption) only[ir219,g1,steps,st2,pev,rev,oev,optr,ibin,sbin,ishf,bound,mmAll,mm2,mk,mkArgs,AV.cells,AV.boxable,AV.one,AV.strip1,fillA,fillS,Nat.reduceEqDiff,reduceCtorEq,↓reduceIte,Nat.reduceAdd,Int.reduceNeg,Nat.reduceLeDiff,Int.reduceToNat,Int.reduceEq,Int.reduceLT,Int.reduceLE,Int.reduceAdd,Io,Im,If,Il,Jt,Jf,AC.rg,Jm,Jl,Ja,Fm,Fl,Fa,Imv,Imb,Iai,Iei,Igi,Isi,Ipf,Ipt,Ilb,Iia,Ilt,Iap,Ink,Iln,Ils,Iad,Iex,Ibx,Ing]
  refine goL_range l 10 (fun u:Nat=>[(4,.int .i64 u)]) (fun done rest u H=>yu rest.length (rest++r) u=yD s∧u<16 ^ done.length∧H=Heap.emp) 0 (by simp(disch:=first|omega|assumption) only[steps,st2,pev,rev,oev,optr,ibin,sbin,ishf,bound,mmAll,mm2,mk,mkArgs,AV.cells,AV.boxable,AV.one,AV.strip1,fillA,fillS,Nat.reduceEqDiff,reduceCtorEq,↓reduceIte,Nat.reduceAdd,Int.reduceNeg,Nat.reduceLeDiff,Int.reduceToNat,Int.reduceEq,Int.reduceLT,Int.reduceLE,Int.reduceAdd]) ⟨by rw[hl,← hsr];rfl,by simp,rfl⟩ ?_ ?_
  ·rintro u H J ⟨hu,_,rfl⟩ hlt
   simp only[Al3,yu] at hu
   simp(disch:=first|omega|assumption) only[hl',steps,st2,pev,rev,oev,optr,ibin,sbin,ishf,bound,mmAll,mm2,mk,mkArgs,AV.cells,AV.boxable,AV.one,AV.strip1,fillA,fillS,Nat.reduceEqDiff,reduceCtorEq,↓reduceIte,Nat.reduceAdd,Int.reduceNeg,Nat.reduceLeDiff,Int.reduceToNat,Int.reduceEq,Int.reduceLT,Int.reduceLE,Int.reduceAdd]
   exact hQ _ _ _ _ nofun rfl (by simp[tupOf,envOf,AV.strip,AV.strip1,← hu])
  ·rintro done c rest u H J hd hlt hlt2 ⟨hu,hb,rfl⟩ hJ
   have hd4:done.length<4:=by omega
   have hlt':(done.length:Int)<4:=by omega
   have hlt3:(done.length:Int)<s.length:=by omega
   have hg:s.getD done.length 0=c:=by rw[hsr,hd];simp
   have hpow:16 ^ done.length≤4096:=by
    have:done.length≤3:=by omega
    calc 16 ^ done.length≤16 ^ 3:=Nat.pow_le_pow_right (by decide) this
     _=4096:=rfl
   simp only[Al2,Al6,yu] at hu
   have hidx:=zc8 hexL (c ||| 32)
   have hc:=c.toNat_lt
   simp only[hexL,Al2,Al3] at hidx
   simp(disch:=first|omega|assumption) only[hlt',hlt3,hg,zkd,steps,st2,pev,rev,oev,optr,ibin,sbin,ishf,bound,mmAll,mm2,mk,mkArgs,AV.cells,AV.boxable,AV.one,AV.strip1,fillA,fillS,Nat.reduceEqDiff,reduceCtorEq,↓reduceIte,Nat.reduceAdd,Int.reduceNeg,Nat.reduceLeDiff,Int.reduceToNat,Int.reduceEq,Int.reduceLT,Int.reduceLE,Int.reduceAdd]
   refine goK_pure (zb6 hexL (c ||| 32)) ?_
   have no:hexD c=none→(yD s)=none:=fun e=>by rw[e] at hu;exact hu.symm
   by_cases n1:Lib.indexByte hexL (c ||| 32)<0
   ·have e:hexD c=none:=by unfold hexD;rw[if_pos (.inl n1)]
    simp(disch:=first|omega|assumption) only[n1,steps,st2,pev,rev,oev,optr,ibin,sbin,ishf,bound,mmAll,mm2,mk,mkArgs,AV.cells,AV.boxable,AV.one,AV.strip1,fillA,fillS,Nat.reduceEqDiff,reduceCtorEq,↓reduceIte,Nat.reduceAdd,Int.reduceNeg,Nat.reduceLeDiff,Int.reduceToNat,Int.reduceEq,Int.reduceLT,Int.reduceLE,Int.reduceAdd]
    exact hQ _ _ _ _ nofun rfl (by simp[tupOf,envOf,AV.strip,AV.strip1,no e])
   obtain⟨k,hk⟩:∃ k:Nat,Lib.indexByte hexL (c ||| 32)=(k:Int):=⟨(Lib.indexByte hexL (c ||| 32)).toNat,by omega⟩
   have hk16:k<16:=by rw[show Lib.indexByte [48,49,50,51,52,53,54,55,56,57,97,98,99,100,101,102] (c ||| 32)=(k:Int) from hk] at hidx;omega
   have hu4:u<4096:=by omega
   have hkn:¬ ((k:Int)<0):=by omega
   have hnext:hexD c=some k→yu rest.length (rest++r) (16*u+k)=yD s∧16*u+k<16 ^ (done++[c]).length∧Heap.emp=Heap.emp:=fun e=>by
    rw[e] at hu
    refine⟨hu,?_,rfl⟩
    rw[Al5,Al2,Al3,Nat.pow_succ];omega
   have hpush:((16*u+k:Nat):Int)=16*(u:Int)+k:=by omega
   by_cases n2:c.toNat<48
   ·have e:hexD c=none:=by unfold hexD;rw[if_pos (.inr (.inl n2))]
    have n2':((c.toNat:Int)<48)=True:=eq_true (by omega)
    simp(disch:=first|omega|assumption) only[hk,hkn,n2',hlt3,hg,steps,st2,pev,rev,oev,optr,ibin,sbin,ishf,bound,mmAll,mm2,mk,mkArgs,AV.cells,AV.boxable,AV.one,AV.strip1,fillA,fillS,Nat.reduceEqDiff,reduceCtorEq,↓reduceIte,Nat.reduceAdd,Int.reduceNeg,Nat.reduceLeDiff,Int.reduceToNat,Int.reduceEq,Int.reduceLT,Int.reduceLE,Int.reduceAdd]
    exact hQ _ _ _ _ nofun rfl (by simp[tupOf,envOf,AV.strip,AV.strip1,no e])
   have n2':¬ ((c.toNat:Int)<48):=by omega
   by_cases n3:57<c.toNat
   ·have n3':((57:Int)<c.toNat)=True:=eq_true (by omega)
    by_cases n4:c.toNat<65
    ·have e:hexD c=none:=by unfold hexD;rw[if_pos (.inr (.inr ⟨n3,n4⟩))]
     have n4':((c.toNat:Int)<65)=True:=eq_true (by omega)
     simp(disch:=first|omega|assumption) only[hk,hkn,n2',n3',n4',hlt3,hg,steps,st2,pev,rev,oev,optr,ibin,sbin,ishf,bound,mmAll,mm2,mk,mkArgs,AV.cells,AV.boxable,AV.one,AV.strip1,fillA,fillS,Nat.reduceEqDiff,reduceCtorEq,↓reduceIte,Nat.reduceAdd,Int.reduceNeg,Nat.reduceLeDiff,Int.reduceToNat,Int.reduceEq,Int.reduceLT,Int.reduceLE,Int.reduceAdd]
     exact hQ _ _ _ _ nofun rfl (by simp[tupOf,envOf,AV.strip,AV.strip1,no e])
    ·have e:hexD c=some k:=by unfold hexD;rw[if_neg (by omega),hk];rfl
     have n4':¬ ((c.toNat:Int)<65):=by omega
     simp(disch:=first|omega|assumption) only[hk,hkn,n2',n3',n4',hlt3,hg,wrap64,steps,st2,pev,rev,oev,optr,ibin,sbin,ishf,bound,mmAll,mm2,mk,mkArgs,AV.cells,AV.boxable,AV.one,AV.strip1,fillA,fillS,Nat.reduceEqDiff,reduceCtorEq,↓reduceIte,Nat.reduceAdd,Int.reduceNeg,Nat.reduceLeDiff,Int.reduceToNat,Int.reduceEq,Int.reduceLT,Int.reduceLE,Int.reduceAdd]
     refine goJ (hJ (16*u+k) _ (hnext e)) (by simp(disch:=first|omega|assumption) only[hpush,steps,st2,pev,rev,oev,optr,ibin,sbin,ishf,bound,mmAll,mm2,mk,mkArgs,AV.cells,AV.boxable,AV.one,AV.strip1,fillA,fillS,Nat.reduceEqDiff,reduceCtorEq,↓reduceIte,Nat.reduceAdd,Int.reduceNeg,Nat.reduceLeDiff,Int.reduceToNat,Int.reduceEq,Int.reduceLT,Int.reduceLE,Int.reduceAdd])
   ·have e:hexD c=some k:=by unfold hexD;rw[if_neg (by omega),hk];rfl
    have n3':¬ ((57:Int)<c.toNat):=by omega
    simp(disch:=first|omega|assumption) only[hk,hkn,n2',n3',hlt3,hg,wrap64,steps,st2,pev,rev,oev,optr,ibin,sbin,ishf,bound,mmAll,mm2,mk,mkArgs,AV.cells,AV.boxable,AV.one,AV.strip1,fillA,fillS,Nat.reduceEqDiff,reduceCtorEq,↓reduceIte,Nat.reduceAdd,Int.reduceNeg,Nat.reduceLeDiff,Int.reduceToNat,Int.reduceEq,Int.reduceLT,Int.reduceLE,Int.reduceAdd]
    refine goJ (hJ (16*u+k) _ (hnext e)) (by simp(disch:=first|omega|assumption) only[hpush,steps,st2,pev,rev,oev,optr,ibin,sbin,ishf,bound,mmAll,mm2,mk,mkArgs,AV.cells,AV.boxable,AV.one,AV.strip1,fillA,fillS,Nat.reduceEqDiff,reduceCtorEq,↓reduceIte,Nat.reduceAdd,Int.reduceNeg,Nat.reduceLeDiff,Int.reduceToNat,Int.reduceEq,Int.reduceLT,Int.reduceLE,Int.reduceAdd])
def cU (l:List Nat):List (List AV):=l.map fun(n:Nat)=>[AV.int .i64 (n:Int)]
theorem zdf (l:List Nat):(cU l).length=l.length:=by simp[cU]
theorem zgr (l:List Nat):(cU l).map (·.map AV.strip1)=cU l:=by simp[cU,AV.strip1]
theorem zju (us:List Nat) (hl:us.length≤68719476736):Pure Tryz.prog 220 [.sl .no 1 (cU us)] (.tup [.str ((zk us).getD []),.bool (zk us).isSome]):=by
 refine Pure.go ir220 ck220 (Al4 _) fun KP Q hQ=>?_
 have hll:=zdf us
 simp(disch:=first|omega|assumption) only[ir220,go_sem]
 refine goL_st (fun s:List Nat×List Nat×Own×List UInt8=>[(4,.sl s.2.2.1 1 (bytesOf s.2.2.2)),(5,.int .i64 s.1.length)]) (fun s H=>us=s.1++s.2.1∧zk us=(zk s.2.1).map (s.2.2.2++·)∧s.2.2.2.length≤2*s.1.length*2∧Owned H s.2.2.1 s.2.2.2.length 1) (fun s=>s.2.1.length) ([],us,.nil,[]) (by simp(disch:=first|omega|assumption) only[go_sem];rfl) ⟨rfl,by cases zk us<;>rfl,by simp,rfl⟩ ?_
 rintro⟨done,rest,o,out⟩ H J ⟨hd,hj,hle,ho⟩ hJ
 simp only at hd hj hle ho
 have hdl:done.length+rest.length=us.length:=by rw[hd];simp
 cases rest with
 | nil =>
  simp only[List.append_nil] at hd
  have hlt:¬ ((done.length:Int)<us.length):=by rw[hd];omega
  simp(disch:=first|omega|assumption) only[hll,hlt,go_sem]
  simp only[zk,zK,List.append_nil] at hj
  simp(disch:=first|omega|assumption) only[ZN,go_sem]
  exact hQ _ _ _ _ nofun rfl (by simp[tupOf,envOf,AV.strip,AV.strip1,hj])
 | cons u r =>
  have hlt:((done.length:Int)<us.length):=by simp at hdl;omega
  have hg:(cU us).getD done.length []=[.int .i64 u]:=by rw[hd];simp[cU]
  have hu0:¬ ((u:Int)<0):=by omega
  have hrl:r.length+1+done.length=us.length:=by simp at hdl;omega
  have none_of:zk (u::r)=none→zk us=none:=fun e=>by rw[hj,e];rfl
  have hmax:maxLen=9223372036854775807:=rfl
  by_cases a1:65535<u
  ·have e:=none_of (by rw[zk.eq_def];simp only;rw[if_pos (.inl a1)])
   have a1':((65535:Int)<u)=True:=eq_true (by omega)
   simp(disch:=first|omega|assumption) only[hll,hlt,hg,hu0,a1',go_sem]
   exact hQ _ _ _ _ nofun rfl (by simp[tupOf,envOf,AV.strip,AV.strip1,e])
  have a1':¬ ((65535:Int)<u):=by omega
  by_cases a2:56320≤u∧u≤57343
  ·have e:=none_of (by rw[zk.eq_def];simp only;rw[if_pos (.inr a2)])
   have a2':((56320:Int)≤u)=True:=eq_true (by omega)
   have a3':((u:Int)≤57343)=True:=eq_true (by omega)
   simp(disch:=first|omega|assumption) only[hll,hlt,hg,hu0,a1',a2',a3',go_sem]
   exact hQ _ _ _ _ nofun rfl (by simp[tupOf,envOf,AV.strip,AV.strip1,e])
  by_cases a3:55296≤u∧u<56320
  ·have b1:¬ ((56320:Int)≤u):=by omega
   have b2:((55296:Int)≤u)=True:=eq_true (by omega)
   have b3:((u:Int)<56320)=True:=eq_true (by omega)
   cases r with
   | nil =>
    have e:=none_of (by rw[zk.eq_def];simp only;rw[if_neg (by omega),if_pos a3])
    have b4:((done.length:Int)+1=us.length)=True:=eq_true (by simp at hrl;omega)
    simp(disch:=first|omega|assumption) only[hll,hlt,hg,hu0,a1',b1,b2,b3,wrap64,b4,go_sem]
    exact hQ _ _ _ _ nofun rfl (by simp[tupOf,envOf,AV.strip,AV.strip1,e])
   | cons v r =>
    have b4:¬ ((done.length:Int)+1=us.length):=by simp at hrl;omega
    have b5:((done.length:Int)+1<us.length):=by simp at hrl;omega
    have b6:((done.length:Int)+1).toNat=done.length+1:=by omega
    have hg2:(cU us).getD (done.length+1) []=[.int .i64 v]:=by rw[hd];simp[cU]
    by_cases c1:v<56320
    ·have e:=none_of (by rw[zk.eq_def];simp only;rw[if_neg (by omega),if_pos a3,if_pos (.inl c1)])
     have c1':((v:Int)<56320)=True:=eq_true (by omega)
     simp(disch:=first|omega|assumption) only[hll,hlt,hg,hu0,a1',b1,b2,b3,wrap64,b4,b5,b6,hg2,c1',go_sem]
     exact hQ _ _ _ _ nofun rfl (by simp[tupOf,envOf,AV.strip,AV.strip1,e])
    have c1':¬ ((v:Int)<56320):=by omega
    by_cases c2:57343<v
    ·have e:=none_of (by rw[zk.eq_def];simp only;rw[if_neg (by omega),if_pos a3,if_pos (.inr c2)])
     have c2':((57343:Int)<v)=True:=eq_true (by omega)
     simp(disch:=first|omega|assumption) only[hll,hlt,hg,hu0,a1',b1,b2,b3,wrap64,b4,b5,b6,hg2,c1',c2',go_sem]
     exact hQ _ _ _ _ nofun rfl (by simp[tupOf,envOf,AV.strip,AV.strip1,e])
    have c2':¬ ((57343:Int)<v):=by omega
    have ej:zk (u::v::r)=(zk r).map (ym (65536+1024*(u-55296)+(v-56320))++·):=by rw[zk.eq_def];simp only;rw[if_neg (by omega),if_pos a3,if_neg (by omega)]
    obtain⟨m,hm⟩:∃ m,65536+1024*(u-55296)+(v-56320)=m:=⟨_,rfl⟩
    rw[hm] at ej
    have hm2:(65536+1024*((u:Int)-55296)+v-56320)=(m:Int):=by omega
    have hm3:=(Zb m).1
    simp(disch:=first|omega|assumption) only[hll,hlt,hg,hu0,a1',b1,b2,b3,wrap64,b4,b5,b6,hg2,c1',c2',hm2,zf6 (show m<2147483648 by omega),go_sem]
    refine YQ (zdc m (by omega) (by omega) out _ o ho (by simp only[Lim];omega)) fun o' H' hs=>?_
    simp(disch:=first|omega|assumption) only[wrap64,go_sem]
    have hown:=hs.own
    rw[zC] at hown
    have e5:(((done++[u,v]).length:Nat):Int)=(done.length:Int)+1+1:=by simp;omega
    refine goJ (hJ (done++[u,v],r,o',out++ym m) _ (by simp;omega) ⟨by simp[hd],?_,?_,hown⟩) (by simp(disch:=first|omega|assumption) only[e5,go_sem])
    ·simp only[hj,ej];cases zk r<;>simp
    ·simp;omega
  have ej:zk (u::r)=(zk r).map (ym u++·):=by
   rw[zk.eq_def];simp only;rw[if_neg (by omega),if_neg a3]
  have hm3:=(Zb u).1
  have e5:(((done++[u]).length:Nat):Int)=(done.length:Int)+1:=by simp
  by_cases h:u<55296
  ·have b1:¬ ((56320:Int)≤u):=by omega
   have b2:¬ ((55296:Int)≤u):=by omega
   simp(disch:=first|omega|assumption) only[hll,hlt,hg,hu0,a1',b1,b2,zf6 (show u<2147483648 by omega),go_sem]
   refine YQ (zdc u (by omega) (by omega) out _ o ho (by simp only[Lim];omega)) fun o' H' hs=>?_
   simp(disch:=first|omega|assumption) only[wrap64,go_sem]
   have hown:=hs.own
   rw[zC] at hown
   refine goJ (hJ (done++[u],r,o',out++ym u) _ (by simp) ⟨by simp[hd],?_,?_,hown⟩) (by simp(disch:=first|omega|assumption) only[e5,go_sem])
   ·simp only[hj,ej];cases zk r<;>simp
   ·simp;omega
  ·have b1:((56320:Int)≤u)=True:=eq_true (by omega)
   have b2:¬ ((u:Int)≤57343):=by omega
   have b3:((55296:Int)≤u)=True:=eq_true (by omega)
   have b4:¬ ((u:Int)<56320):=by omega
   simp(disch:=first|omega|assumption) only[hll,hlt,hg,hu0,a1',b1,b2,b3,b4,zf6 (show u<2147483648 by omega),go_sem]
   refine YQ (zdc u (by omega) (by omega) out _ o ho (by simp only[Lim];omega)) fun o' H' hs=>?_
   simp(disch:=first|omega|assumption) only[wrap64,go_sem]
   have hown:=hs.own
   rw[zC] at hown
   refine goJ (hJ (done++[u],r,o',out++ym u) _ (by simp) ⟨by simp[hd],?_,?_,hown⟩) (by simp(disch:=first|omega|assumption) only[e5,go_sem])
   ·simp only[hj,ej];cases zk r<;>simp
   ·simp;omega
abbrev yp:Nat:=68719476736
theorem upd_upd (H:Heap) (b:Nat) (x y:AObj):(H.upd b x).upd b y=H.upd b y:=by
 funext c;by_cases e:c=b<;>simp[Heap.upd,e]
theorem yn {P:Program} {f:FuncId} {args:List AV} {H:Heap} {R RP:AV→Heap→Prop} (h:ACalls P f args H (fun e H'=>match e with|.ret v=>R v.strip H'|.pan v=>RP v H')) :
  ACalls P f args H (fun e H'=>match e with|.ret v=>R v H'|.pan v=>RP v H'):=by
 intro γ w vs ht hs hv
 refine(h γ w vs ht hs hv).mono fun e w' ⟨γ',H',r,h1,h2,h3,h4,h5⟩=>?_
 cases r with
 | ret v =>
  cases e with
  | returned u=>exact⟨γ',H',.ret v.strip,h1,h2,h3,Rep.strip h4,h5⟩
  | panicked ch=>exact h4.elim
  | outgrown=>exact h4.elim
 | pan v=>exact⟨γ',H',.pan v,h1,h2,h3,h4,h5⟩
theorem own_ne {H:Heap} {c b d n sz:Nat} {cs:List AV} (h:Owned H (.tip b d) n sz) (hc:H c=some (.cells cs)):b≠c:=fun e=>by
 subst e
 have:H b=some (.tip (d+n) sz):=h
 rw[hc] at this;cases this
theorem zR {H H':Heap} {o:Own} {n sz c:Nat} {cs:List AV} (h:Owned H o n sz) (hc:H c=some (.cells cs)) (hk:Kept H o H'):H' c=some (.cells cs) :=
 hk c _ hc fun d e=>by subst e;exact own_ne h hc rfl
theorem yf {H:Heap} {o:Own} {n sz c:Nat} {cs:List AV} {x:AObj} (h:Owned H o n sz) (hc:H c=some (.cells cs)):Owned (H.upd c x) o n sz:=by
 cases o with
 | tip b d=>have:=own_ne h hc;show (H.upd c x) b=_;rw[upd_ne this];exact h
 | no=>exact h
 | nil=>exact h
 | full=>exact h
structure SaidAt (H:Heap) (q:Nat) (x:Sd) (o o2:Own):Prop where
 hq:H q=some (.cells [.sl o 1 (bytesOf x.b),.sl o2 1 (cU x.u),.bool x.ok])
 ho:Owned H o x.b.length 1
 ho2:Owned H o2 x.u.length 1
 ne:∀ b d d2,o=.tip b d→o2≠.tip b d2
theorem zeC {H:Heap} {q:Nat} {x:Sd} {o o2:Own} (hs:SaidAt H q x o o2) (hw:x.w≤yp) :
  ACalls Tryz.prog 177 [.ptr q 0] H (fun e H'=>∃ v,e=.ret v∧(v=.tup []∧∃ o',SaidAt H' q (zF x) o' .nil)):=by
 refine ACalls.go ir177 ck177 (Al4 _) fun KP Q hQ=>?_
 obtain⟨hq,ho,ho2,hne⟩:=hs
 have hbl:=zC x.b
 simp only[yp,Sd.w] at hw
 simp(disch:=first|omega|assumption) only[ir177,hq,go_sem]
 refine goK_pure (Pure.low (zju x.u (by omega))) ?_
 have hfw:=zau x
 simp only[zF,Sd.w,Al5] at hfw
 simp(disch:=first|omega|assumption) only[hq,go_sem]
 refine goP_ownS (by rw[hbl];exact ho) (by simp[zC];omega) (by simp[maxLen,zC];omega) fun o' H1 hs=>?_
 have h1:H1 q=some (.cells [.sl o 1 (bytesOf x.b),.sl o2 1 (cU x.u),.bool x.ok]):=zR ho hq hs.kept
 have hown:=hs.own
 simp only[Al5,zC] at hown
 cases hok:x.ok
 ·rw[hok] at h1
  simp(disch:=first|omega|assumption) only[h1,yH,ya,go_sem]
  refine hQ _ _ _ _ _ nofun rfl (Low.refl _) ⟨rfl,o',?_,?_,rfl,nofun⟩
  ·simp[zF,hok,upd_same,cU,ya,yH]
  ·simp only[zF,Al5]
   exact yf hown h1
 ·rw[hok] at h1
  simp(disch:=first|omega|assumption) only[h1,yH,ya,go_sem]
  refine hQ _ _ _ _ _ nofun rfl (Low.refl _) ⟨rfl,o',?_,?_,rfl,nofun⟩
  ·simp[zF,hok,upd_same,cU,ya,yH]
  ·simp only[zF,Al5]
   exact yf hown h1
def zeO (H':Heap) (q:Nat) (x:Sd) (s:List UInt8) (v:AV):Prop:=match yJ x s with
 | none=>v=.int .i64 0
 | some (x',t')=>v=.int .i64 ((s.length-t'.length:Nat):Int)∧∃ o o2,SaidAt H' q x' o o2
theorem zj4 {H:Heap} {q:Nat} {x:Sd} {o o2:Own} (hs:SaidAt H q x o o2) (hw:x.w≤yp) (s:List UInt8) (hl:s.length≤Lim) :
  ACalls Tryz.prog 176 [.ptr q 0,.str s] H (fun e H'=>∃ v,e=.ret v∧zeO H' q x s v):=by
 refine ACalls.go ir176 ck176 (Al4 _) fun KP Q hQ=>?_
 have hs0:=hs
 obtain⟨hq,ho,ho2,hne⟩:=hs
 have hul:=zdf x.u
 have hw0:=hw
 simp only[yp,Sd.w] at hw
 simp only[Lim] at hl
 simp(disch:=first|omega|assumption) only[ir176,go_sem]
 refine goK_pure (ZK s [117]) ?_
 cases s with
 | nil =>
  simp(disch:=first|omega|assumption) only[List.isPrefixOf,go_sem]
  exact hQ _ _ _ _ [_] nofun rfl (Low.refl _) (by simp[zeO,yJ,tupOf,envOf,AV.strip,AV.strip1])
 | cons c t =>
  simp only[Al2] at hl
  by_cases hc:c=117
  ·subst hc
   have hp:[117].isPrefixOf ((117:UInt8)::t)=true:=rfl
   have h1:((1:Int)≤((t.length+1:Nat):Int))=True:=eq_true (by omega)
   simp(disch:=first|omega|assumption) only[hp,h1,go_sem]
   refine goK_pure (zjC t (by simp only[Lim];omega)) ?_
   cases hu:yD t with
   | none =>
    simp(disch:=first|omega|assumption) only[Option.isSome_none,go_sem]
    exact hQ _ _ _ _ [_] nofun rfl (Low.refl _) (by simp[zeO,yJ,hu,tupOf,envOf,AV.strip,AV.strip1])
   | some u =>
    have h4:=Zr _ _ _ _ hu
    simp(disch:=first|omega|assumption) only[Option.isSome_some,Option.getD_some,hq,go_sem]
    refine goP_ownS (by rw[hul];exact ho2) (by simp[hul];omega) (by simp[maxLen,hul];omega) fun o' H1 hs1=>?_
    have h2:=zR ho2 hq hs1.kept
    simp(disch:=first|omega|assumption) only[h2,zgr,go_sem]
    refine hQ _ _ _ _ [_] nofun rfl (Low.refl _) ?_
    have hsp:=Sep.step (a:=[(o,x.b.length,1)]) (b:=[]) (n:=x.u.length) (n':=x.u.length+1) (sz:=1) ⟨by intro y hy;simp at hy;rcases hy with rfl|rfl<;>assumption,?_⟩ (by simpa[hul] using hs1)
    ·simp only[zeO,yJ,if_true,hu,zK]
     refine⟨?_,o,o',?_,?_,?_,?_⟩
     ·show AV.int .i64 5=_
      simp only[Al2,zI]
      congr 1;omega
     ·simp[upd_same,cU]
     ·exact yf (hsp.own (o,x.b.length,1) (by simp)) h2
     ·simp only[Al5,Al2,Al3]
      exact yf (hsp.own (o',x.u.length+1,1) (by simp)) h2
     ·intro b d d2 e1 e2
      have:=hsp.nd
      simp[e1,e2,Zx] at this
    ·cases h5:Zx o with
     | none=>cases h6:Zx o2<;>simp[h5,h6]
     | some b =>
      obtain⟨d,h7⟩:=Yj h5
      cases h6:Zx o2 with
      | none=>simp[h5,h6]
      | some b2 =>
       obtain⟨d2,h8⟩:=Yj h6
       simp only[Al6,Y2,List.filterMap_cons,List.filterMap_nil,h5,h6,List.nodup_cons,List.mem_singleton,List.not_mem_nil,not_false_eq_true,List.nodup_nil,and_true]
       rintro rfl
       exact hne b d d2 h7 h8
  ·have hp:[117].isPrefixOf (c::t)=false:=by
    simp only[List.isPrefixOf,Bool.and_true,beq_eq_false_iff_ne,ne_eq];exact fun e=>hc e.symm
   have hcl:¬ (c::t=[]):=by simp
   have h1:((0:Int)<((t.length+1:Nat):Int))=True:=eq_true (by omega)
   simp(disch:=first|omega|assumption) only[hp,hcl,h1,go_sem]
   refine goK_pure (zb6 ZG c) ?_
   have hidx:=zc8 ZG c
   by_cases hk:Lib.indexByte ZG c<0
   ·simp(disch:=first|omega|assumption) only[hk,go_sem]
    exact hQ _ _ _ _ [_] nofun rfl (Low.refl _) (by simp[zeO,yJ,hc,hk,tupOf,envOf,AV.strip,AV.strip1])
   ·obtain⟨k,hk2⟩:∃ k:Nat,Lib.indexByte ZG c=(k:Int):=⟨(Lib.indexByte ZG c).toNat,by omega⟩
    have hk8:k<8:=by simp[ZG] at hidx;rw[show Lib.indexByte [34,92,47,98,102,110,114,116] c=(k:Int) from hk2] at hidx;omega
    have hk0:¬ ((k:Int)<0):=by omega
    simp(disch:=first|omega|assumption) only[hk2,hk0,go_sem]
    refine goK_ret (zeC hs0 hw0) fun v H1 ⟨hv,o',hs1⟩=>?_
    subst hv
    obtain⟨hq1,ho1,_,_⟩:=hs1
    have hfw:=zau x
    have hbl:=zC (zF x).b
    simp only[Sd.w] at hfw
    have hk8':((k:Int)<8)=True:=eq_true (by omega)
    simp(disch:=first|omega|assumption) only[hq1,hk8',go_sem]
    refine goP_ownS (by rw[hbl];exact ho1) (by simp[hbl];omega) (by simp[maxLen,hbl];omega) fun o3 H2 hs3=>?_
    have hq2:=zR ho1 hq1 hs3.kept
    simp(disch:=first|omega|assumption) only[hq2,go_sem]
    refine hQ _ _ _ _ [_] nofun rfl (Low.refl _) ?_
    simp only[zeO,yJ,hc,if_false,hk2,hk0]
    refine⟨?_,o3,.nil,?_,?_,rfl,nofun⟩
    ·show AV.int .i64 1=_
     simp only[Al2]
     congr 1;omega
    ·simp only[upd_same,Sd.put,Int.toNat_natCast]
     rw[← ya];rfl
    ·simp only[Sd.put,Al5,Al2,Al3]
     exact yf (by simpa[hbl] using hs3.own) hq2
end Go.Proofs.YtaielcdfcgpbiaaGreatDoor
