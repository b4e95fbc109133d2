import Derived.Ground.Names2Prog
import Derived.Shelf.Lays2
import Derived.Test.YtbcocdloklbkjaaGreatDoorProg
import Derived.Shelf.Spec.SlicesInsert
import Derived.Shelf.Spec.SlicesInsertGrow
import Derived.Test.YtbcocdloklbkjaaGreatDoorM1
import Derived.Test.YtbcocdloklbkjaaGreatDoorM2
import Derived.Test.YtbcocdloklbkjaaGreatDoorM3
import Derived.Test.YtbcocdloklbkjaaGreatDoorM4
import Derived.Test.YtbcocdloklbkjaaGreatDoorM5
import Derived.Test.YtbcocdloklbkjaaGreatDoorM6
import Derived.Test.YtbcocdloklbkjaaGreatDoorM7
import Derived.Test.YtbcocdloklbkjaaGreatDoorM8
import Derived.Test.YtbcocdloklbkjaaGreatDoorM9
set_option maxRecDepth 100000
set_option linter.all false
namespace Go.Proofs.YtbcocdloklbkjaaGreatDoor
open Go.Ab
inductive ItD where
 | mk (no:Nat) (x:SelD) (typ:List UInt8) (sub:List ItD)
mutual
def cIt:ItD→List AV
 | .mk no (.mk k al nm args dirs on sels) typ sub=>[.int .i64 no,.int .i64 k,.str al,.str nm,.sl .no 6 (cMs args),.sl .no 2 (cDs dirs),.str on,.sl .no 7 (cSs sels),.str typ,.sl .no 10 (yK sub)]
def yK:List ItD→List (List AV)
 | []=>[]
 | x::r=>cIt x::yK r
end
theorem ZC (no:Nat) (k:Int) (al nm:List UInt8) (args:List Mem) (dirs:List DirD) (on:List UInt8) (sels:List SelD) (typ:List UInt8) (sub:List ItD) :
  cIt (.mk no (.mk k al nm args dirs on sels) typ sub)=[.int .i64 no,.int .i64 k,.str al,.str nm,.sl .no 6 (cMs args),.sl .no 2 (cDs dirs),.str on,.sl .no 7 (cSs sels),.str typ,.sl .no 10 (yK sub)]:=by rw[cIt]
theorem zaW:∀ l,yK l=l.map cIt
 | []=>by simp[yK]
 | v::r=>by rw[yK,zaW r];rfl
theorem Yj (l:List ItD):(yK l).length=l.length:=by rw[zaW];simp
theorem zbL {l a:List ItD} {x:ItD} {b:List ItD} (h:l=a++x::b):(yK l).getD a.length []=cIt x:=by rw[zaW,yQ h]
theorem zmZ (x:ItD):(cIt x).map AV.strip1=cIt x:=by obtain⟨no,⟨k,al,nm,args,dirs,on,sels⟩,typ,sub⟩:=x;rw[ZC];rfl
theorem zdA (l:List ItD):(yK l).map (·.map AV.strip1)=yK l:=by rw[zaW,List.map_map];exact List.map_congr_left fun v _=>zmZ v
theorem zcT (a b:List ItD):yK a++yK b=yK (a++b):=by simp only[zaW,List.map_append]
theorem zjq (x:ItD):yK [x]=[cIt x]:=by rw[zaW];rfl
def ItD.sub:ItD→List ItD|.mk _ _ _ s=>s
def ItD.x:ItD→SelD|.mk _ x _ _=>x
def ItD.args:ItD→List Mem|.mk _ (.mk _ _ _ a _ _ _) _ _=>a
def ItD.no:ItD→Nat|.mk n _ _ _=>n
def ItD.typ:ItD→List UInt8|.mk _ _ t _=>t
def SelD.k:SelD→Int|.mk k _ _ _ _ _ _=>k
def SelD.nm:SelD→List UInt8|.mk _ _ n _ _ _ _=>n
def SelD.sels:SelD→List SelD|.mk _ _ _ _ _ _ s=>s
mutual
def itS (s:SchD):SelD→List UInt8→Nat→ItD×Nat
 | .mk k al nm args dirs on sels,typ,no =>
  let r:=Zp s sels (yZ s typ (.mk k al nm args dirs on sels)) (no+1)
  (.mk (no+1) (.mk k al nm args dirs on sels) typ r.1,r.2)
def Zp (s:SchD):List SelD→List UInt8→Nat→List ItD×Nat
 | [],_,no=>([],no)
 | x::r,typ,no=>((itS s x typ no).1::(Zp s r typ (itS s x typ no).2).1,(Zp s r typ (itS s x typ no).2).2)
end
mutual
theorem zrU (s:SchD):∀(x:SelD) (typ:List UInt8) (no:Nat),(itS s x typ no).2≤no+bS x
 | .mk k al nm args dirs on sels,typ,no=>by
  have:=zdf s sels (yZ s typ (.mk k al nm args dirs on sels)) (no+1)
  simp only[itS,bS];omega
theorem zdf (s:SchD):∀(l:List SelD) (typ:List UInt8) (no:Nat),(Zp s l typ no).2≤no+bSs l
 | [],typ,no=>by simp[Zp]
 | x::r,typ,no=>by
  have h1:=zrU s x typ no
  have h2:=zdf s r typ (itS s x typ no).2
  simp only[Zp,bSs];omega
end
theorem zka (s:SchD):∀(l:List SelD) (typ:List UInt8) (no:Nat),(Zp s l typ no).1.length=l.length
 | [],_,_=>rfl
 | x::r,typ,no=>by simp only[Zp,Al2];rw[zka s r]
def frL (fr:List (List UInt8×List ItD)) (n:List UInt8):List ItD:=((fr.find? fun e=>decide (n=e.1)).map (·.2)).getD []
def za8 (g:List ItD→List (List UInt8)→List ItD×List (List UInt8)) (fr:List (List UInt8×List ItD)) (acc:List ItD×List (List UInt8)):ItD→List ItD×List (List UInt8)
 | .mk no (.mk k al nm args dirs on sels) typ sub =>
  if k=0 then (acc.1++[.mk no (.mk k al nm args dirs on sels) typ sub],acc.2)
  else if k=2 then (acc.1++(g sub acc.2).1,(g sub acc.2).2)
  else if k=1∧yu nm acc.2=false then (acc.1++(g (frL fr nm) (acc.2++[nm])).1,(g (frL fr nm) (acc.2++[nm])).2)
  else acc
def flF (fr:List (List UInt8×List ItD)):Nat→List ItD→List (List UInt8)→List ItD×List (List UInt8)
 | 0,_,seen=>([],seen)
 | n+1,l,seen=>l.foldl (za8 (flF fr n) fr) ([],seen)
inductive Ex (fr:List (List UInt8×List ItD)):Nat→List ItD→Prop
 | nil (n:Nat):Ex fr n []
 | cons {n i j m no:Nat} {k:Int} {al nm:List UInt8} {args:List Mem} {dirs:List DirD} {on:List UInt8} {sels:List SelD} {typ:List UInt8} {sub r:List ItD} (hle:i+j+m+1≤n)
  (h1:Ex fr i sub) (h2:k=1→Ex fr j (frL fr nm)) (h3:Ex fr m r) (ha:bMs args≤Lim):Ex fr n (.mk no (.mk k al nm args dirs on sels) typ sub::r)
theorem Ex.mono {fr:List (List UInt8×List ItD)} {n m:Nat} {l:List ItD} (h:Ex fr n l) (hm:n≤m):Ex fr m l:=by
 cases h with
 | nil=>exact .nil _
 | cons hle h1 h2 h3 ha=>exact .cons (by omega) h1 h2 h3 ha
theorem Ex.zero {fr:List (List UInt8×List ItD)} {l:List ItD} (h:Ex fr 0 l):l=[]:=by
 cases h with
 | nil=>rfl
 | cons hle h1 h2 h3 ha=>omega
theorem Ex.pre {fr:List (List UInt8×List ItD)} {b:List ItD}:∀ {a:List ItD} {n:Nat},Ex fr n (a++b)→Ex fr n a
 | [],_,_=>.nil _
 | x::a,n,h=>by
  cases h with
  | cons hle h1 h2 h3 ha=>exact .cons hle h1 h2 (Ex.pre h3) ha
theorem Ex.mid {fr:List (List UInt8×List ItD)} {no:Nat} {k:Int} {al nm:List UInt8} {args:List Mem} {dirs:List DirD} {on:List UInt8} {sels:List SelD} {typ:List UInt8} {sub b:List ItD}:∀ {a:List ItD} {n:Nat},
  Ex fr n (a++.mk no (.mk k al nm args dirs on sels) typ sub::b)→∃ i j,i+j+1≤n∧Ex fr i sub∧(k=1→Ex fr j (frL fr nm))
 | [],n,h=>by
  cases h with
  | cons hle h1 h2 h3 ha=>exact⟨_,_,by omega,h1,h2⟩
 | x::a,n,h=>by
  cases h with
  | cons hle h1 h2 h3 ha =>
   obtain⟨i,j,hij,g1,g2⟩:=Ex.mid h3
   exact⟨i,j,by omega,g1,g2⟩
theorem Ex.sub {fr:List (List UInt8×List ItD)} {n:Nat} {l:List ItD} (h:Ex fr (n+1) l) {y:ItD} (hy:y∈l):Ex fr n y.sub:=by
 obtain⟨a,b,e⟩:=List.append_of_mem hy
 obtain⟨no,⟨k,al,nm,args,dirs,on,sels⟩,typ,sub⟩:=y
 rw[e] at h
 obtain⟨i,j,hij,g1,_⟩:=Ex.mid h
 exact g1.mono (by omega)
theorem zeA {fr:List (List UInt8×List ItD)} {n f:Nat} {l:List ItD} {seen:List (List UInt8)} (h:Ex fr n l) (hf:n≤f):flF fr f l seen=l.foldl (za8 (flF fr (f-1)) fr) ([],seen):=by
 cases f with
 | zero =>
  obtain rfl:n=0:=by omega
  rw[h.zero];rfl
 | succ f=>rfl
theorem znB {fr:List (List UInt8×List ItD)}:∀ n:Nat,∀(l:List ItD),Ex fr n l→∀(f:Nat),n≤f→∀ acc:List ItD×List (List UInt8),
  (l.foldl (za8 (flF fr (f-1)) fr) acc).1.length≤acc.1.length+n∧∀ y∈(l.foldl (za8 (flF fr (f-1)) fr) acc).1,y∈acc.1∨∃ m,m<n∧Ex fr m y.sub∧bMs y.args≤Lim:=by
 intro n
 induction n using Nat.strongRecOn with
 | _ n ih =>
 intro l h f hf acc
 cases h with
 | nil=>exact⟨by simp,fun y hy=>.inl hy⟩
 | @cons _ i j m no k al nm args dirs on sels typ sub r hle h1 h2 h3 ha =>
  rw[List.foldl_cons]
  have hst:(za8 (flF fr (f-1)) fr acc (.mk no (.mk k al nm args dirs on sels) typ sub)).1.length≤acc.1.length+(i+j+1) ∧
    ∀ y∈(za8 (flF fr (f-1)) fr acc (.mk no (.mk k al nm args dirs on sels) typ sub)).1,y∈acc.1∨∃ m,m<n∧Ex fr m y.sub∧bMs y.args≤Lim:=by
   simp only[za8]
   split
   ·refine⟨by simp only[Al5,Al2,Al3];omega,fun y hy=>?_⟩
    rcases List.mem_append.1 hy with h|h
    ·exact .inl h
    ·simp only[List.mem_singleton] at h
     subst h
     exact .inr ⟨i,by omega,h1,ha⟩
   ·split
    ·rw[zeA h1 (by omega)]
     have:=ih i (by omega) sub h1 (f-1) (by omega) ([],acc.2)
     simp only[Al3,List.not_mem_nil,false_or] at this
     refine⟨by rw[Al5];omega,fun y hy=>?_⟩
     rcases List.mem_append.1 hy with h|h
     ·exact .inl h
     ·obtain⟨m',g1,g2⟩:=this.2 y h
      exact .inr ⟨m',by omega,g2⟩
    ·split
     ·rename_i hk
      have hj:=h2 hk.1
      rw[zeA hj (by omega)]
      have:=ih j (by omega) _ hj (f-1) (by omega) ([],acc.2++[nm])
      simp only[Al3,List.not_mem_nil,false_or] at this
      refine⟨by rw[Al5];omega,fun y hy=>?_⟩
      rcases List.mem_append.1 hy with h|h
      ·exact .inl h
      ·obtain⟨m',g1,g2⟩:=this.2 y h
       exact .inr ⟨m',by omega,g2⟩
     ·exact⟨by omega,fun y hy=>.inl hy⟩
  have hr:=ih m (by omega) r h3 f (by omega) (za8 (flF fr (f-1)) fr acc (.mk no (.mk k al nm args dirs on sels) typ sub))
  refine⟨by omega,fun y hy=>?_⟩
  rcases hr.2 y hy with h|⟨m',g1,g2⟩
  ·exact hst.2 y h
  ·exact .inr ⟨m',by omega,g2⟩
theorem zfE {fr:List (List UInt8×List ItD)} {n f:Nat} {l:List ItD} {seen:List (List UInt8)} (h:Ex fr n l) (hf:n≤f):(flF fr f l seen).1.length≤n:=by
 rw[zeA h hf]
 simpa using (znB n l h f hf ([],seen)).1
theorem zbc {fr:List (List UInt8×List ItD)} {n f:Nat} {l:List ItD} {seen:List (List UInt8)} (h:Ex fr n l) (hf:n≤f) {y:ItD} (hy:y∈(flF fr f l seen).1):∃ m,m<n∧Ex fr m y.sub∧bMs y.args≤Lim:=by
 rw[zeA h hf] at hy
 simpa using (znB n l h f hf ([],seen)).2 y hy
def zfy:SelD→List UInt8
 | .mk k al nm _ _ _ _=>if k=0 then (if al=[] then nm else al) else []
abbrev PrS:=List ((Nat×Nat)×Bool)
abbrev yT:=PrS×PrS
def zen (l:PrS) (k:Nat×Nat):Option Bool:=(l.find? fun e=>decide (k=e.1)).map (·.2)
def ZZ:PrS→Nat×Nat→Bool→PrS
 | [],k,v=>[(k,v)]
 | (a,u)::r,k,v=>if k=a then (k,v)::r else (a,u)::ZZ r k v
def zk5 (g:ItD→ItD→yT→Bool×yT) (x:ItD):List ItD→yT→Bool×yT
 | [],S=>(true,S)
 | y::r,S=>if zfy x.x=zfy y.x then (match g x y S with|(true,S')=>zk5 g x r S'|(false,S')=>(false,S')) else zk5 g x r S
def zaE (g:ItD→ItD→yT→Bool×yT):List ItD→List ItD→yT→Bool×yT
 | [],_,S=>(true,S)
 | x::r,lb,S=>match zk5 g x lb S with|(true,S')=>zaE g r lb S'|(false,S')=>(false,S')
def Zd (fr:List (List UInt8×List ItD)) (a:ItD):List ItD:=(flF fr 64 a.sub []).1
def zhH (s:SchD) (a b:TyD):Bool :=
 decide (a.lists=b.lists)&&decide (a.musts=b.musts)&&(if zao s a.nm||zao s b.nm then decide (a.nm=b.nm) else ZT s a.nm&&ZT s b.nm)
def shB (s:SchD) (fr:List (List UInt8×List ItD)) (g:ItD→ItD→yT→Bool×yT) (a b:ItD) (S:yT):Bool×yT :=
 match zen S.1 (a.no,b.no) with
 | some r=>(r,S)
 | none =>
  if zhH s ((yR s a.typ a.x.nm).getD zF).t ((yR s b.typ b.x.nm).getD zF).t=true then
   ((zaE g (Zd fr a) (Zd fr b) S).1,(ZZ (zaE g (Zd fr a) (Zd fr b) S).2.1 (a.no,b.no) (zaE g (Zd fr a) (Zd fr b) S).1,(zaE g (Zd fr a) (Zd fr b) S).2.2))
  else (false,(ZZ S.1 (a.no,b.no) false,S.2))
def shF (s:SchD) (fr:List (List UInt8×List ItD)):Nat→ItD→ItD→yT→Bool×yT
 | 0=>shB s fr fun _ _ S=>(true,S)
 | n+1=>shB s fr (shF s fr n)
def ziP (s:SchD) (a b:ItD):Bool:=!decide (a.typ=b.typ)&&y8 s a.typ [1]&&y8 s b.typ [1]
end Go.Proofs.YtbcocdloklbkjaaGreatDoor

namespace Go.Proofs.YtbcocdloklbkjaaGreatDoor
open Go.Ab
def lD (x:DirD):Nat:=2+x.nm.length+bMs x.args
def lDs (l:List DirD):Nat:=(l.map lD).sum
mutual
def lS:SelD→Nat
 | .mk _ al nm args dirs on sels=>2+nm.length+al.length+on.length+bMs args+lDs dirs+lSs sels
def lSs:List SelD→Nat
 | []=>0
 | x::r=>lS x+lSs r
end
def lW (x:VarD):Nat:=1+bV x.d+x.nm.length
def lWs (l:List VarD):Nat:=(l.map lW).sum
def lO (x:OpD):Nat:=1+lDs x.dirs+lSs x.sels+x.nm.length+lWs x.vars
def lF (x:FragD):Nat:=1+lDs x.dirs+lSs x.sels+x.nm.length
def lOs (l:List OpD):Nat:=(l.map lO).sum
def lFs (l:List FragD):Nat:=(l.map lF).sum
def ze2 (d:DocD):Bool:=decide (lOs d.ops+lFs d.frags≤3200)
theorem zdI {α:Type} {f g:α→Nat} {c:Nat} (h:∀ x,f x≤c*g x):∀ l:List α,(l.map f).sum≤c*(l.map g).sum
 | []=>Nat.zero_le _
 | x::r=>by have:=zdI h r;have:=h x;simp only[List.map_cons,List.sum_cons,Nat.mul_add];omega
theorem zaz (l:List DirD):lDs l≤2*bDs l:=zdI (fun x=>by simp only[lD,bD];omega) l
mutual
theorem ztY:∀ x,lS x≤2*bS x
 | .mk k al nm args dirs on sels=>by
  have h1:=zaz dirs
  have h2:=zcY sels
  simp only[lS,bS];omega
theorem zcY:∀ l,lSs l≤2*bSs l
 | []=>by simp[lSs]
 | x::r=>by
  have h1:=ztY x
  have h2:=zcY r
  simp only[lSs,bSs];omega
end
theorem zcy (l:List VarD):lWs l≤2*bWs l:=zdI (fun x=>by have:=YY x.d;simp only[lW,bW];omega) l
theorem ztx (x:OpD):lO x≤2*bO x:=by
 have h1:=zaz x.dirs
 have h2:=zcY x.sels
 have h3:=zcy x.vars
 simp only[lO,bO];omega
theorem zt8 (x:FragD):lF x≤2*bF x:=by
 have h1:=zaz x.dirs
 have h2:=zcY x.sels
 simp only[lF,bF];omega
theorem zsR (l:List OpD):lOs l≤2*bOs l:=zdI ztx l
theorem ztg (l:List FragD):lFs l≤2*bFs l:=zdI zt8 l
theorem zdz (l:List DirD) (hb:bDs l≤Lim):zi Tryz.prog 33 [.sl .no 2 (cDs l)] (.int .i64 (lDs l)):=by
 refine zi.go ir33 ck33 (Al4 _) fun KP Q hQ=>?_
 have h1:=YQ l
 have hl:=zai l
 have hle:=zaz l
 have hb':=hb
 simp only[Lim] at hb'
 simp(disch:=first|omega|assumption) only[ir33,h1,go_sem]
 refine zf l 4 (fun n:Int=>[(3,.int .i64 n)]) (fun done rest n H=>n+lDs rest=lDs l) 0 (by simp(disch:=first|omega|assumption) only[go_sem]) (by simp) ?_ ?_
 ·rintro n H J hn hlt
  simp only[lDs,List.map_nil,List.sum_nil] at hn
  simp(disch:=first|omega|assumption) only[h1,hlt,go_sem]
  have:n=((lDs l:Nat):Int):=by simp only[lDs];omega
  exact hQ _ _ _ _ nofun rfl (by simp[zd,ze,AV.strip,AV.strip1,this])
 ·rintro done x rest n H J hd hlt _ hn hJ
  have hg:=zal hd
  have hbm:=zbX done x rest
  rw[← hd] at hbm
  obtain⟨nm,args⟩:=x
  simp only[bD] at hbm
  have hn':n+(2+nm.length+bMs args+lDs rest:Nat)=lDs l:=by rw[← hn];simp[lDs,lD]
  have hsz:bV (.mk 0 0 [] [] args)=1+bMs args:=by simp[bV,bVs]
  have hp:(0:Int)≤n:=by
   have:=zaz rest
   have e:lDs l=lDs done+lDs (⟨nm,args⟩::rest):=by rw[hd];simp[lDs]
   omega
  simp(disch:=first|omega|assumption) only[h1,hlt,hg,cD,wrap64,go_sem]
  refine za (zi.low (zjn (.mk 0 0 [] [] args) (by rw[hsz];simp only[Lim];omega))) ?_
  rw[hsz]
  simp(disch:=first|omega|assumption) only[h1,hlt,hg,cD,wrap64,go_sem]
  exact goJ (hJ (n+1+nm.length+((1+bMs args:Nat):Int)) _ (by omega)) (by simp(disch:=first|omega|assumption) only[wrap64,go_sem])
theorem zkN:∀ c:Nat,∀ l:List SelD,bSs l≤c→c≤Lim→zi Tryz.prog 34 [.sl .no 7 (cSs l)] (.int .i64 (lSs l)):=by
 intro c
 induction c using Nat.strongRecOn with
 | _ c ih =>
 intro l hb hc
 refine zi.go ir34 ck34 (Al4 _) fun KP Q hQ=>?_
 have h1:=YJ l
 have hl:=YA l
 have hle:=zcY l
 have hb':=hc
 simp only[Lim] at hb'
 simp(disch:=first|omega|assumption) only[ir34,h1,go_sem]
 refine zf l 4 (fun n:Int=>[(3,.int .i64 n)]) (fun done rest n H=>n+lSs rest=lSs l∧0≤n) 0 (by simp(disch:=first|omega|assumption) only[go_sem]) (by simp) ?_ ?_
 ·rintro n H J ⟨hn,_⟩ hlt
  simp only[lSs] at hn
  simp(disch:=first|omega|assumption) only[h1,hlt,go_sem]
  have:n=((lSs l:Nat):Int):=by omega
  exact hQ _ _ _ _ nofun rfl (by simp[zd,ze,AV.strip,AV.strip1,this])
 ·rintro done x rest n H J hd hlt _ ⟨hn,hp⟩ hJ
  have hg:=zab hd
  have hbm:=zbf done x rest
  rw[← hd] at hbm
  obtain⟨k,al,nm,args,dirs,on,sels⟩:=x
  have hdl:=zaz dirs
  have hsl:=zcY sels
  simp only[bS] at hbm
  rw[y6] at hg
  simp only[lSs,lS] at hn
  have hsz:bV (.mk 0 0 [] [] args)=1+bMs args:=by simp[bV,bVs]
  simp(disch:=first|omega|assumption) only[h1,hlt,hg,wrap64,go_sem]
  refine za (zi.low (zjn (.mk 0 0 [] [] args) (by rw[hsz];simp only[Lim];omega))) ?_
  rw[hsz]
  simp(disch:=first|omega|assumption) only[h1,hlt,hg,wrap64,go_sem]
  refine za (zdz dirs (by simp only[Lim];omega)) ?_
  simp(disch:=first|omega|assumption) only[h1,hlt,hg,wrap64,go_sem]
  refine za (ih (bSs sels) (by omega) sels (Al4 _) (by omega)) ?_
  simp(disch:=first|omega|assumption) only[h1,hlt,hg,wrap64,go_sem]
  exact goJ (hJ (n+1+nm.length+al.length+on.length+((1+bMs args:Nat):Int)+lDs dirs+lSs sels) _ ⟨by omega,by omega⟩) (by simp(disch:=first|omega|assumption) only[wrap64,go_sem])
theorem zgm (l:List SelD) (hb:bSs l≤Lim):zi Tryz.prog 34 [.sl .no 7 (cSs l)] (.int .i64 (lSs l)):=zkN (bSs l) l (Al4 _) hb
theorem zsO (d:DocD) (hb:zy d≤Lim):zi Tryz.prog 14 [.agg (zX d)] (.bool (ze2 d)):=by
 refine zi.go ir14 ck14 (Al4 _) fun KP Q hQ=>?_
 obtain⟨ops,frags⟩:=d
 simp only[zy] at hb
 have h1:=Z4 ops
 have h2:=Y2 frags
 have hl1:=Zt ops
 have hl2:=yO frags
 have hle1:=zsR ops
 have hle2:=ztg frags
 have hb':=hb
 simp only[Lim] at hb'
 simp(disch:=first|omega|assumption) only[ir14,zX,go_sem]
 refine zf ops 4 (fun n:Int=>[(3,.int .i64 n)]) (fun done rest n H=>n+lOs rest=lOs ops∧0≤n) 0 (by simp(disch:=first|omega|assumption) only[go_sem]) (by simp) ?_ ?_
 ·rintro n H J ⟨hn,hp⟩ hlt
  simp only[lOs,List.map_nil,List.sum_nil] at hn
  have hn:n=((lOs ops:Nat):Int):=by simp only[lOs];omega
  subst hn
  simp(disch:=first|omega|assumption) only[h1,hlt,go_sem]
  refine zf frags 6 (fun n:Int=>[(3,.int .i64 n)]) (fun done rest n H=>n+lFs rest=(lOs ops+lFs frags:Nat)∧0≤n) (lOs ops:Nat) (by simp(disch:=first|omega|assumption) only[go_sem]) ⟨by omega,by omega⟩ ?_ ?_
  ·rintro n H J ⟨hn,_⟩ hlt
   simp only[lFs,List.map_nil,List.sum_nil] at hn
   have e:decide (n≤3200)=ze2 ⟨ops,frags⟩:=by simp only[ze2,lFs];exact decide_eq_decide.2 (by omega)
   simp(disch:=first|omega|assumption) only[h2,hlt,go_sem]
   exact hQ _ _ _ _ nofun rfl (by simp[zd,ze,AV.strip,AV.strip1,e])
  ·rintro done x rest n H J hd hlt _ ⟨hn,hp⟩ hJ
   have hg:=YX hd
   have hbm:=zie done x rest
   rw[← hd] at hbm
   obtain⟨nm,on,dirs,sels⟩:=x
   simp only[bF] at hbm
   have hdl:=zaz dirs
   have hsl:=zcY sels
   have hn':n+(1+lDs dirs+lSs sels+nm.length+lFs rest:Nat)=(lOs ops+lFs frags:Nat):=by rw[← hn];simp[lFs,lF]
   simp(disch:=first|omega|assumption) only[h2,hlt,hg,cF,wrap64,go_sem]
   refine za (zdz dirs (by simp only[Lim];omega)) ?_
   simp(disch:=first|omega|assumption) only[h2,hlt,hg,cF,wrap64,go_sem]
   refine za (zgm sels (by simp only[Lim];omega)) ?_
   simp(disch:=first|omega|assumption) only[h2,hlt,hg,cF,wrap64,go_sem]
   exact goJ (hJ (n+1+lDs dirs+lSs sels+nm.length) _ ⟨by omega,by omega⟩) (by simp(disch:=first|omega|assumption) only[wrap64,go_sem])
 ·rintro done x rest n H J hd hlt _ ⟨hn,hp⟩ hJ
  have hg:=Ym hd
  have hbm:=Y1 done x rest
  rw[← hd] at hbm
  obtain⟨k,nm,vars,dirs,sels⟩:=x
  simp only[bO] at hbm
  have hdl:=zaz dirs
  have hsl:=zcY sels
  have hwl:=zcy vars
  have h3:=Zs vars
  have h4:=yS vars
  have hn':n+(1+lDs dirs+lSs sels+nm.length+lWs vars+lOs rest:Nat)=lOs ops:=by rw[← hn];simp[lOs,lO]
  simp(disch:=first|omega|assumption) only[h1,hlt,hg,cO,wrap64,go_sem]
  refine za (zdz dirs (by simp only[Lim];omega)) ?_
  simp(disch:=first|omega|assumption) only[h1,hlt,hg,cO,wrap64,go_sem]
  refine za (zgm sels (by simp only[Lim];omega)) ?_
  simp(disch:=first|omega|assumption) only[h1,hlt,hg,cO,wrap64,go_sem]
  refine zf vars 5 (fun n:Int=>[(3,.int .i64 n)]) (fun done' rest' n' H=>n'+lWs rest'=n+1+lDs dirs+lSs sels+nm.length+lWs vars∧0≤n') (n+1+lDs dirs+lSs sels+nm.length) (by simp(disch:=first|omega|assumption) only[go_sem]) ⟨by omega,by omega⟩ ?_ ?_
  ·rintro n2 H J' ⟨hn2,hp2⟩ hlt2
   simp only[lWs,List.map_nil,List.sum_nil] at hn2
   simp(disch:=first|omega|assumption) only[h1,h3,hlt,hg,hlt2,cO,wrap64,go_sem]
   exact goJ (hJ n2 _ ⟨by simp only[lWs] at hn';omega,by omega⟩) (by simp(disch:=first|omega|assumption) only[wrap64,go_sem])
  ·rintro done2 y rest2 n2 H J' hd2 hlt2 _ ⟨hn2,hp2⟩ hJ'
   have hg2:=Zm hd2
   have hbm2:=zaP done2 y rest2
   rw[← hd2] at hbm2
   obtain⟨vn,⟨tn,tl,tm⟩,vh,⟨dk,dn,ds,dl,dm⟩⟩:=y
   rw[zco,yj] at hg2
   simp only[bW] at hbm2
   have hn2':n2+(1+bV (.mk dk dn ds dl dm)+vn.length+lWs rest2:Nat)=n+1+lDs dirs+lSs sels+nm.length+lWs vars:=by rw[← hn2];simp[lWs,lW]
   simp(disch:=first|omega|assumption) only[h1,h3,hlt,hg,hg2,hlt2,cO,wrap64,go_sem]
   refine za (zjn (.mk dk dn ds dl dm) (by simp only[Lim];omega)) ?_
   simp(disch:=first|omega|assumption) only[h1,h3,hlt,hg,hg2,hlt2,cO,wrap64,go_sem]
   exact goJ (hJ' (n2+1+bV (.mk dk dn ds dl dm)+vn.length) _ ⟨by omega,by omega⟩) (by simp(disch:=first|omega|assumption) only[wrap64,go_sem])
def l8L (x:FldD):Nat:=1+x.nm.length+lWs x.ps+lDs x.dirs
def zky (l:List FldD):Nat:=(l.map l8L).sum
def l8E (x:DefD):Nat:=1+x.nm.length+bT x.faces+bT x.parts+lWs x.ps+zky x.flds
def zfz (l:List DefD):Nat:=(l.map l8E).sum
def zeU (s:SchD):Bool:=decide (zfz s.defs≤4000)
theorem zsh (x:FldD):l8L x≤2*bL x:=by
 have h1:=zaz x.dirs
 have h2:=zcy x.ps
 simp only[l8L,bL];omega
theorem zla (l:List FldD):zky l≤2*bLs l:=zdI zsh l
theorem zpb (x:DefD):l8E x≤2*bE x:=by
 have h1:=zla x.flds
 have h2:=zcy x.ps
 simp only[l8E,bE];omega
theorem zlT (l:List DefD):zfz l≤2*bEs l:=zdI zpb l
theorem zkW (l:List DirD) (hb:bDs l≤Lim):zi Tryz.prog 32 [.sl .no 2 (cDs l)] (.int .i64 (lDs l)):=by
 refine zi.go ir32 ck32 (Al4 _) fun KP Q hQ=>?_
 have h1:=YQ l
 have hl:=zai l
 have hle:=zaz l
 have hb':=hb
 simp only[Lim] at hb'
 simp(disch:=omega) only[ir32,h1,go_sem]
 refine zf l 4 (fun n:Int=>[(3,.int .i64 n)]) (fun done rest n H=>n+lDs rest=lDs l) 0 (by simp(disch:=omega) only[go_sem]) (by simp) ?_ ?_
 ·rintro n H J hn hlt
  simp only[lDs,List.map_nil,List.sum_nil] at hn
  simp(disch:=omega) only[h1,hlt,go_sem]
  have:n=((lDs l:Nat):Int):=by simp only[lDs];omega
  exact hQ _ _ _ _ nofun rfl (by simp[zd,ze,AV.strip,AV.strip1,this])
 ·rintro done x rest n H J hd hlt _ hn hJ
  have hg:=zal hd
  have hbm:=zbX done x rest
  rw[← hd] at hbm
  obtain⟨nm,args⟩:=x
  simp only[bD] at hbm
  have hn':n+(2+nm.length+bMs args+lDs rest:Nat)=lDs l:=by rw[← hn];simp[lDs,lD]
  have hsz:bV (.mk 0 0 [] [] args)=1+bMs args:=by simp[bV,bVs]
  have hp:(0:Int)≤n:=by
   have:=zaz rest
   have e:lDs l=lDs done+lDs (⟨nm,args⟩::rest):=by rw[hd];simp[lDs]
   omega
  simp(disch:=omega) only[h1,hlt,hg,cD,wrap64,go_sem]
  refine za (zi.low (zjn (.mk 0 0 [] [] args) (by rw[hsz];simp only[Lim];omega))) ?_
  rw[hsz]
  simp(disch:=omega) only[h1,hlt,hg,cD,wrap64,go_sem]
  exact goJ (hJ (n+1+nm.length+((1+bMs args:Nat):Int)) _ (by omega)) (by simp(disch:=omega) only[wrap64,go_sem])
theorem zfl (l:List (List UInt8)) (hb:bT l≤Lim):zi Tryz.prog 30 [.sl .no 1 (cT l)] (.int .i64 (bT l)):=by
 refine zi.go ir30 ck30 (Al4 _) fun KP Q hQ=>?_
 have h1:=zM l
 have hl:=ZF l
 have hb':=hb
 simp only[Lim] at hb'
 simp(disch:=omega) only[ir30,h1,go_sem]
 refine zf l 4 (fun n:Int=>[(3,.int .i64 n)]) (fun done rest n H=>n=bT done) 0 (by simp(disch:=omega) only[go_sem]) (by simp[bT]) ?_ ?_
 ·rintro n H J hn hlt
  subst hn
  simp(disch:=omega) only[h1,hlt,go_sem]
  exact hQ _ _ _ _ nofun rfl (by simp[zd,ze,AV.strip,AV.strip1])
 ·rintro done x rest n H J hd hlt _ hn hJ
  subst hn
  have hg:=Z0 hd
  have hbm:=zgI done x rest
  rw[← hd] at hbm
  simp(disch:=omega) only[h1,hlt,hg,wrap64,go_sem]
  exact goJ (hJ ((bT done:Int)+1+x.length) _ (by simp[bT];omega)) (by simp(disch:=omega) only[wrap64,go_sem])
theorem zeu (l:List VarD) (hb:bWs l≤Lim):zi Tryz.prog 31 [.sl .no 10 (cWs l)] (.int .i64 (lWs l)):=by
 refine zi.go ir31 ck31 (Al4 _) fun KP Q hQ=>?_
 have h1:=Zs l
 have hl:=yS l
 have hle:=zcy l
 have hb':=hb
 simp only[Lim] at hb'
 simp(disch:=omega) only[ir31,h1,go_sem]
 refine zf l 4 (fun n:Int=>[(3,.int .i64 n)]) (fun done rest n H=>n=lWs done) 0 (by simp(disch:=omega) only[go_sem]) (by simp[lWs]) ?_ ?_
 ·rintro n H J hn hlt
  subst hn
  simp(disch:=omega) only[h1,hlt,go_sem]
  exact hQ _ _ _ _ nofun rfl (by simp[zd,ze,AV.strip,AV.strip1])
 ·rintro done x rest n H J hd hlt _ hn hJ
  subst hn
  have hg:=Zm hd
  have hbm:=zaP done x rest
  rw[← hd] at hbm
  have hld:=zcy done
  obtain⟨vn,⟨tn,tl,tm⟩,vh,vd⟩:=x
  have hbx:bW ⟨vn,⟨tn,tl,tm⟩,vh,vd⟩=vn.length+tn.length+bV vd:=rfl
  rw[zco] at hg
  simp only at hg
  simp(disch:=omega) only[zq,zl,zg,zp,zm,zh,zu,h1,hlt,hg,wrap64,go_sem]
  refine za (zjn vd (by simp only[Lim];omega)) ?_
  simp(disch:=omega) only[zq,zl,zg,zp,zm,zh,zu,h1,hlt,hg,wrap64,go_sem]
  exact goJ (hJ ((lWs done:Int)+1+vn.length+((bV vd:Nat):Int)) _ (by simp[lWs,lW];omega)) (by simp(disch:=omega) only[wrap64,go_sem])
theorem zqo (s:SchD) (hb:zN s≤Lim):zi Tryz.prog 13 [.agg (zr s)] (.bool (zeU s)):=by
 refine zi.go ir13 ck13 (Al4 _) fun KP Q hQ=>?_
 obtain⟨defs,q,m⟩:=s
 simp only[zN] at hb
 have h1:=zev defs
 have hl:=zeq defs
 have hle:=zlT defs
 have hb':=hb
 simp only[Lim] at hb'
 have ed:zr ⟨defs,q,m⟩=[.sl .no 6 (cEs defs),.str q,.str m]:=rfl
 simp(disch:=omega) only[ir13,ed,h1,go_sem]
 refine zf defs 4 (fun n:Int=>[(3,.int .i64 n)]) (fun done rest n H=>n=zfz done) 0 (by simp(disch:=omega) only[go_sem]) (by simp[zfz]) ?_ ?_
 ·rintro n H J hn hlt
  subst hn
  by_cases h4:zfz defs≤4000
  ·have h4':((zfz defs:Int)≤4000)=True:=eq_true (by omega)
   simp(disch:=omega) only[h1,hlt,h4',go_sem]
   exact hQ _ _ _ _ nofun rfl (by simp[zd,ze,AV.strip,AV.strip1,zeU,h4])
  ·have h4':¬ ((zfz defs:Int)≤4000):=by omega
   simp(disch:=omega) only[h1,hlt,h4',go_sem]
   exact hQ _ _ _ _ nofun rfl (by simp[zd,ze,AV.strip,AV.strip1,zeU,h4])
 ·rintro done x rest n H J hd hlt _ hn hJ
  subst hn
  have hg:=zc5 hd
  have hbm:=ziO done x rest
  rw[← hd] at hbm
  have hld:=zlT done
  have hxe:=zpb x
  obtain⟨k,nm,faces,flds,parts,ps⟩:=x
  simp only[bE] at hbm
  simp only[l8E,bE] at hxe
  have hfl:=zaN flds
  have hfb:=YW flds
  have hpl:=zcy ps
  rw[yg] at hg
  simp(disch:=omega) only[h1,hlt,hg,go_sem]
  refine zc fun b5 hb5=>?_
  obtain⟨cs,hcs⟩:∃ cs,cs=[AV.int .i64 k,.str nm,.sl .no 1 (cT faces),.sl .no 6 (cLs flds),.sl .no 1 (cT parts),.sl .no 10 (cWs ps)]:=⟨_,rfl⟩
  simp(disch:=omega) only[wrap64,go_sem]
  refine za (zfl faces (by simp only[Lim];omega)) ?_
  simp(disch:=omega) only[wrap64,go_sem]
  refine za (zfl parts (by simp only[Lim];omega)) ?_
  simp(disch:=omega) only[wrap64,go_sem]
  refine za (zeu ps (by simp only[Lim];omega)) ?_
  simp(disch:=omega) only[wrap64,hfl,go_sem]
  refine zf flds 6 (fun n:Int=>[(3,.int .i64 n)]) (fun dn rs n H'=>n=(zfz done:Int)+1+nm.length+bT faces+bT parts+lWs ps+zky dn∧H' b5=some (.cells [AV.int .i64 k,.str nm,.sl .no 1 (cT faces),.sl .no 6 (cLs flds),.sl .no 1 (cT parts),.sl .no 10 (cWs ps)])) ((zfz done:Int)+1+nm.length+bT faces+bT parts+lWs ps) (by simp(disch:=omega) only[wrap64,go_sem]) ⟨by simp[zky],upd_same ..⟩ ?_ ?_
  ·rintro n H4 J4 ⟨hn,g4⟩ hlt4
   subst hn
   simp(disch:=omega) only[hfl,hlt4,g4,wrap64,go_sem]
   exact goJ (hJ ((zfz done:Int)+1+nm.length+bT faces+bT parts+lWs ps+zky flds) _ (by simp[zfz,l8E];omega)) (by simp(disch:=omega) only[wrap64,go_sem])
  ·rintro dn y rs n H4 J4 hdn hlt4 _ ⟨hn,g4⟩ hJ4
   subst hn
   have hgy:=zdb hdn
   have hby:=zlN dn y rs
   rw[← hdn] at hby
   have hldn:=zla dn
   obtain⟨fn,fps,⟨tn,tl,tm⟩,dirs⟩:=y
   simp only[bL] at hby
   have hd1:=zaz dirs
   have hd2:=zcy fps
   rw[zaq] at hgy
   simp(disch:=omega) only[hfl,hlt4,g4,hgy,wrap64,go_sem]
   refine za (zeu fps (by simp only[Lim];omega)) ?_
   simp(disch:=omega) only[hfl,hlt4,g4,hgy,wrap64,go_sem]
   refine za (zkW dirs (by simp only[Lim];omega)) ?_
   simp(disch:=omega) only[hfl,hlt4,g4,hgy,wrap64,go_sem]
   exact goJ (hJ4 ((zfz done:Int)+1+nm.length+bT faces+bT parts+lWs ps+zky dn+1+fn.length+lWs fps+lDs dirs) _ ⟨by simp[zky,l8L];omega,g4⟩) (by simp(disch:=omega) only[wrap64,go_sem])
def frS (d:DocD) (n:List UInt8):List SelD:=((yD d n).getD zFr).sels
mutual
def zgo (d:DocD) (g:Nat→List SelD→Nat):SelD→Nat→Nat
 | .mk k _ nm _ _ _ sels,r=>if k=1∧1+Zo d g sels r 0≤r then 1+Zo d g sels r 0+g (r-(1+Zo d g sels r 0)) (frS d nm) else 1+Zo d g sels r 0
def Zo (d:DocD) (g:Nat→List SelD→Nat):List SelD→Nat→Nat→Nat
 | [],_,n=>n
 | x::xs,most,n=>if n≤most then Zo d g xs most (n+zgo d g x (most-n)) else n
end
def few (d:DocD):Nat→Nat→List SelD→Nat
 | 0=>fun most _=>most+1
 | k+1=>fun most l=>Zo d (few d k) l most 0
theorem zgz (d:DocD) (g:Nat→List SelD→Nat):∀(l:List SelD) (most n:Nat),n≤Zo d g l most n
 | [],_,_=>by simp[Zo]
 | x::xs,most,n=>by
  simp only[Zo]
  split
  ·exact Nat.le_trans (Nat.le_add_right _ _) (zgz d g xs most _)
  ·exact Al4 _
section
variable {d:DocD} {s:SchD} {fr:List (List UInt8×List ItD)}
mutual
theorem exS {g:Nat→List SelD→Nat} (hg:∀ m n,g m (frS d n)≤m→∃ e,e≤g m (frS d n)∧Ex fr e (frL fr n)):∀(x:SelD) (typ:List UInt8) (no r:Nat),bS x≤Lim→zgo d g x r≤r →
  ∃ i j,i+j+1≤zgo d g x r∧(∀ typ' no',Ex fr i (Zp s x.sels typ' no').1)∧(x.k=1→Ex fr j (frL fr x.nm))
 | .mk k al nm args dirs on sels,typ,no,r,hb,h=>by
  simp only[bS] at hb
  simp only[zgo] at h ⊢
  split at h
  ·rename_i hc
   rw[if_pos hc]
   obtain⟨e,he,hx⟩:=zpQ hg sels r 0 (by omega) (by omega)
   obtain⟨e2,he2,hx2⟩:=hg (r-(1+Zo d g sels r 0)) nm (by omega)
   exact⟨e,e2,by omega,hx,fun _=>hx2⟩
  ·rename_i hc
   rw[if_neg hc]
   obtain⟨e,he,hx⟩:=zpQ hg sels r 0 (by omega) (by omega)
   exact⟨e,0,by omega,hx,fun hk=>absurd ⟨hk,h⟩ hc⟩
theorem zpQ {g:Nat→List SelD→Nat} (hg:∀ m n,g m (frS d n)≤m→∃ e,e≤g m (frS d n)∧Ex fr e (frL fr n)):∀(l:List SelD) (most n:Nat),bSs l≤Lim→Zo d g l most n≤most →
  ∃ e,n+e≤Zo d g l most n∧∀ typ no,Ex fr e (Zp s l typ no).1
 | [],most,n,_,_=>⟨0,by simp[Zo],fun _ _=>.nil _⟩
 | x::xs,most,n,hb,h=>by
  simp only[bSs] at hb
  simp only[Zo] at h ⊢
  split at h
  ·rename_i hc
   rw[if_pos hc]
   have h0:=zgz d g xs most (n+zgo d g x (most-n))
   obtain⟨e,he,hx⟩:=zpQ hg xs most _ (by omega) h
   obtain⟨i,j,hij,hx1,hx2⟩:=exS hg x [] 0 (most-n) (by omega) (by omega)
   refine⟨i+j+e+1,by omega,fun typ no=>?_⟩
   obtain⟨k,al,nm,args,dirs,on,sels⟩:=x
   simp only[Zp,itS]
   exact .cons (Al4 _) (hx1 _ _) hx2 (hx _ _) (by simp only[bS] at hb;omega)
  ·omega
end
theorem zrI (hfr:∀ n,∃ typ no,frL fr n=(Zp s (frS d n) typ no).1) (hfb:∀ n,bSs (frS d n)≤Lim):∀(k most:Nat) (l:List SelD),bSs l≤Lim→few d k most l≤most→∃ e,e≤few d k most l∧∀ typ no,Ex fr e (Zp s l typ no).1
 | 0,most,l,_,h=>by simp only[few] at h;omega
 | k+1,most,l,hb,h=>by
  simp only[few] at h ⊢
  obtain⟨e,he,hx⟩:=zpQ (s:=s) (fr:=fr) (g:=few d k) (fun m n hm=>by
   obtain⟨typ,no,e0⟩:=hfr n
   obtain⟨e,h1,h2⟩:=zrI hfr hfb k m (frS d n) (hfb n) hm
   exact⟨e,h1,by rw[e0];exact h2 typ no⟩) l most 0 hb h
  exact⟨e,by omega,hx⟩
end
def ZP (d:DocD):List (List SelD)→Nat→Nat
 | [],n=>n
 | x::r,n=>if n≤40 then ZP d r (n+few d 41 40 x) else n
theorem zdd (d:DocD):∀(l:List (List SelD)) (n:Nat),n≤ZP d l n
 | [],_=>Al4 _
 | x::r,n=>by
  simp only[ZP]
  split
  ·exact Nat.le_trans (Nat.le_add_right _ _) (zdd d r _)
  ·exact Al4 _
theorem zdK {d:DocD}:∀(l:List (List SelD)) (n:Nat),ZP d l n≤40→∀ x∈l,few d 41 40 x≤40
 | y::r,n,h,x,hx=>by
  simp only[ZP] at h
  split at h
  ·have:=zdd d r (n+few d 41 40 y)
   rcases List.mem_cons.1 hx with rfl|hx
   ·omega
   ·exact zdK r _ h x hx
  ·omega
def zaK (s:SchD) (d:DocD):Bool:=zeU s&&ze2 d&&decide (ZP d (d.frags.map (·.sels)) (ZP d (d.ops.map (·.sels)) 0)≤40)
theorem zfg {s:SchD} {d:DocD} (h:zaK s d=true):∀ x∈Zb d,few d 41 40 x≤40:=by
 simp only[zaK,Al0,yw] at h
 intro x hx
 have h0:=zdd d (d.frags.map (·.sels)) (ZP d (d.ops.map (·.sels)) 0)
 rcases List.mem_append.1 hx with h1|h1
 ·exact zdK (d.ops.map (·.sels)) 0 (by omega) x h1
 ·exact zdK _ _ h.2 x h1
end Go.Proofs.YtbcocdloklbkjaaGreatDoor
namespace Go.Proofs
open Go.Shelf
def Tryz.laysNm222_ren:Go.Shelf.Ren:=⟨fun|22=>246|29=>257|30=>258|36=>268|17=>273|n=>n,fun|24=>40|9=>9|3=>3|4=>4|0=>0|n=>n,fun|n=>n⟩
theorem Tryz.laysNm222:Go.Proofs.Lays2.n22 Tryz.prog Tryz.laysNm222_ren:={
 mixed:=by kernel_rfl
 f17:=Tryz.func273.trans (congrArg some (by kernel_rfl))
 f22:=Tryz.func246.trans (congrArg some (by kernel_rfl))
 f29:=Tryz.func257.trans (congrArg some (by kernel_rfl))
 f30:=Tryz.func258.trans (congrArg some (by kernel_rfl))
 f36:=Tryz.func268.trans (congrArg some (by kernel_rfl))
 t0:=Tryz.underlying0
 a0:=Tryz.isAgg0
 z0:=Tryz.sizeOf0
 v0:=Tryz.zeroValue0
 t3:=Tryz.underlying3
 a3:=Tryz.isAgg3
 z3:=Tryz.sizeOf3
 v3:=Tryz.zeroValue3
 t4:=Tryz.underlying4
 a4:=Tryz.isAgg4
 z4:=Tryz.sizeOf4
 v4:=Tryz.zeroValue4
 t9:=Tryz.underlying9
 a9:=Tryz.isAgg9
 z9:=Tryz.sizeOf9
 v9:=Tryz.zeroValue9
 t24:=Tryz.underlying40
 a24:=Tryz.isAgg40
 z24:=Tryz.sizeOf40
 v24:=Tryz.zeroValue40
 i9:=by kernel_rfl }
end Go.Proofs
namespace Go.Proofs.YtbcocdloklbkjaaGreatDoor
open Go.Ab Go.Lib
theorem Z7 (b:Nat) (E:TypeId):∀(vs:List Value) (o:Nat) (cur:List Value) (w:World),w.heap[b]?=some (.cells cur.toArray E (0,0))→o+vs.length≤cur.length →
  w.setCells b o vs=w.setRow b (cur.take o++vs++cur.drop (o+vs.length)).toArray
 | [],o,cur,w,h,hl=>by
  rw[World.setCells,List.append_nil]
  simp only[Al3,Nat.add_zero,List.take_append_drop]
  exact(setRow_self w b _ E _ h).symm
 | v::r,o,cur,w,h,hl=>by
  simp only[Al2] at hl
  have e:(cur.toArray.setIfInBounds o v)=(cur.set o v).toArray:=by simp
  rw[World.setCells,setCell_eq_setRow w b o cur.toArray E (0,0) v h,e,Z7 b E r (o+1) (cur.set o v) _ (setRow_heap w b _ _ E _ h) (by rw[List.length_set];omega),setRow_setRow]
  congr 2
  have h1:(cur.set o v).take (o+1)=cur.take o++[v]:=by
   rw[List.take_add_one,List.take_set_of_le (Al4 _)]
   simp[show o<cur.length by omega]
  have h2:(cur.set o v).drop (o+1+r.length)=cur.drop (o+(r.length+1)):=by
   rw[List.drop_set_of_lt (by omega)]
   congr 1;omega
  rw[h1,h2]
  simp[zdn]
def yd (s:List UInt8):Value:=.string ⟨s.toArray⟩
theorem zet (γ:Gh) (w:World) (xs:List (List UInt8)):zt γ w (xs.map AV.str) (xs.map yd) :=
 ⟨by simp,fun i v h=>by
  rw[ZX] at h
  cases hx:xs[i]? with
  | none=>simp[hx] at h
  | some x=>simp only[hx,ZW,Al1] at h;subst h;rfl,fun i c v hc h=>by
  rw[ZX] at h hc
  cases hx:xs[i]? with
  | none=>simp[hx] at h
  | some x =>
   simp only[hx,ZW,Al1] at h hc
   subst h;subst hc;exact .str x⟩
theorem zd2 {γ:Gh} {w:World}:∀ {xs:List (List UInt8)} {sp:List AV} {vs:List Value},zt γ w (xs.map AV.str++sp) vs→∃ spv,vs=xs.map yd++spv∧zt γ w sp spv
 | [],sp,vs,h=>⟨vs,by simp,by simpa using h⟩
 | x::xs,sp,[],h=>by simp[zt] at h
 | x::xs,sp,v::vs,h=>by
  obtain⟨h1,h2,h3⟩:=h
  have hv:=h3 0 _ _ rfl rfl
  obtain⟨spv,e,hf⟩:=zd2 (xs:=xs) (sp:=sp) (vs:=vs) (γ:=γ) (w:=w) ⟨by simpa using h1,fun i u hu=>h2 (i+1) u (by simpa using hu),fun i c u hc hu=>h3 (i+1) c u (by simpa using hc) (by simpa using hu)⟩
  refine⟨spv,?_,hf⟩
  cases hv
  rw[e];rfl
theorem zdZ (k:Nat):Builtin.zeroCells (Value.string ⟨#[]⟩).cells k=(List.replicate k (yd [])).toArray:=by
 apply Array.ext
 ·simp[Builtin.zeroCells,Value.cells]
 ·intro i h1 h2
  simp[Builtin.zeroCells,Value.cells,Nat.mod_one,yd]
def zeL (H:zb) (lv:AV) (xs:List (List UInt8)):Prop :=
 (lv=.sl .nil 1 []∧xs=[])∨∃ b cap sp,lv=.ms b 0 xs.length cap∧H b=some (.cells (xs.map AV.str++sp))∧xs.length+sp.length=cap
structure InsS (H:zb) (lv:AV) (H':zb) (lv':AV) (xs':List (List UInt8)):Prop where
 own:zeL H' lv' xs'
 kept:∀ c x,H c=some x→(∀ n k,lv≠.ms c 0 n k)→H' c=some x
 new:∀ b n k,lv'=.ms b 0 n k→H b=none∨∃ n0 k0,lv=.ms b 0 n0 k0
theorem InsS.refl {H:zb} {lv:AV} {xs:List (List UInt8)} (h:zeL H lv xs):InsS H lv H lv xs:=⟨h,fun c x hc _=>hc,fun b n k e=>.inr ⟨n,k,e⟩⟩
theorem InsS.trans {H H1 H2:zb} {lv l1 l2:AV} {xs ys:List (List UInt8)} (h:InsS H lv H1 l1 xs) (h':InsS H1 l1 H2 l2 ys):InsS H lv H2 l2 ys:=by
 refine⟨h'.own,fun c x hc hn=>h'.kept c x (h.kept c x hc hn) fun n k e=>?_,fun b n k e=>?_⟩
 ·rcases h.new c n k e with h1|⟨n0,k0,h1⟩
  ·rw[hc] at h1;cases h1
  ·exact hn n0 k0 h1
 ·rcases h'.new b n k e with h1|⟨n0,k0,h1⟩
  ·cases hb:H b with
   | none=>exact .inl rfl
   | some x =>
    by_cases hx:∃ n k,lv=.ms b 0 n k
    ·exact .inr hx
    ·have:=h.kept b x hb (fun n k e=>hx ⟨n,k,e⟩);rw[h1] at this;cases this
  ·exact h.new b n0 k0 h1
theorem InsS.upd {H H1:zb} {lv l1:AV} {xs:List (List UInt8)} {b:Nat} {x:AObj} (h:InsS H lv H1 l1 xs) (hb:H1 b=none):InsS H lv (H1.upd b x) l1 xs:=by
 refine⟨?_,fun c y hc hn=>?_,h.new⟩
 ·rcases h.own with h1|⟨b0,cap,sp,e,hb0,hl⟩
  ·exact .inl h1
  ·refine .inr ⟨b0,cap,sp,e,?_,hl⟩
   have hne:b0≠b:=fun e=>by subst e;rw[hb] at hb0;cases hb0
   simp only[zb.upd,hne,if_false];exact hb0
 ·have:=h.kept c y hc hn
  have hne:c≠b:=fun e=>by subst e;rw[hb] at this;cases this
  simp only[zb.upd,hne,if_false];exact this
theorem zr8 {γ:Gh} {w W:World} {H:zb} {b:Nat} {cs newA:List AV} {vs new:List Value} {E:TypeId} (hs:zA γ w H) (hb:H b=some (.cells cs)) (hbb:w.heap[b]?=some (.cells vs.toArray E (0,0))) (hk:γ b=.own)
  (hf:zt γ w newA new) (hlen:new.length=vs.length) (hW:W=w.setRow b new.toArray∨W=w.drew.setRow b new.toArray) :
  Ext (fun b=>(H b).isSome=true) γ w γ W∧zA γ W (H.upd b (.cells newA))∧∀ c,((H.upd b (.cells newA)) c).isSome=true→(H c).isSome=true∨w.heap.size≤c:=by
 have hext:Ext (fun c=>c=b) γ w γ W:=by
  rcases hW with rfl|rfl
  ·exact Z1 hbb (by simpa using hlen) rfl (fun q hq=>by simp[Z5,hk] at hq) (fun _ _=>rfl)
  ·exact(ZR (fun c=>c=b) γ w).trans (Z1 (F:=fun c=>c=b) (w:=w.drew) hbb (by simpa using hlen) rfl (fun q hq=>by simp[Z5,hk] at hq) (fun _ _=>rfl)) (fun _ _ f=>f)
 have hWb:W.heap[b]?=some (.cells new.toArray E (0,0)):=by
  rcases hW with rfl|rfl
  ·exact Yn w b _ _ E _ hbb
  ·exact Yn w.drew b _ _ E _ hbb
 exact⟨hext.weaken fun c e=>by subst e;simp[hb],Yr hs hext (.cells _ _ E hk hWb hf.1 hf.2.1 fun i c v hc hv=>(hf.2.2 i c v hc hv).mono hext.mono),Z6 (by simp[hb])⟩
theorem zqU {γ:Gh} {w W:World} {H:zb} {newA:List AV} {new:List Value} {E:TypeId} (hs:zA γ w H)
  (hf:∀ γ w,zt γ w newA new) (hext:Ext (fun c=>c=w.heap.size) γ w (fun c=>if c=w.heap.size then .own else γ c) W) (hWb:W.heap[w.heap.size]?=some (.cells new.toArray E (0,0))) :
  Ext (fun b=>(H b).isSome=true) γ w (fun c=>if c=w.heap.size then .own else γ c) W∧zA (fun c=>if c=w.heap.size then .own else γ c) W (H.upd w.heap.size (.cells newA))∧∀ c,((H.upd w.heap.size (.cells newA)) c).isSome=true→(H c).isSome=true∨w.heap.size≤c:=by
 have hfr:∀ b,b<w.heap.size→¬ (b=w.heap.size):=fun b h e=>by omega
 have hF:=hf (fun c=>if c=w.heap.size then .own else γ c) W
 refine⟨⟨hext.mono,hext.os,hext.output,hext.frozen,fun b hb _=>hext.frame b hb (hfr b hb)⟩,Yr hs hext (.cells _ _ E (by simp) hWb hF.1 hF.2.1 hF.2.2),yV⟩
theorem zce (xs:List (List UInt8)):∀ v∈xs.map yd,v.oneCell'=true:=fun v hv=>by
 obtain⟨x,_,rfl⟩:=List.mem_map.1 hv;rfl
theorem zfH {w:World} {b o:Nat} {arr:Array Value} {E:TypeId} {fr:Nat×Nat} (h:w.heap[b]?=some (.cells arr E fr)):w.cell? ⟨b,o,none⟩=arr[o]?:=cell_of_row w b o arr E fr h
theorem zda {w:World} {b o:Nat} {arr:Array Value} {E:TypeId} (h:w.heap[b]?=some (.cells arr E (0,0))):w.frozen? ⟨b,o,none⟩=false:=by
 simp[World.frozen?,h]
def zb9 (H:zb) (γ:Gh) (w:World) (lv:AV) (xs':List (List UInt8)) (e:Ending) (W:World):Prop :=
 ∃ γ' H' r,Ext (fun b=>(H b).isSome=true) γ w γ' W∧zA γ' W H'∧(∀ b,(H' b).isSome=true→(H b).isSome=true∨w.heap.size≤b)∧zkK γ' W e r∧(match r with|.ret v=>InsS H lv H' v xs'|.pan _=>False)
theorem ziE (xs:List (List UInt8)) (nm:List UInt8) {i:Nat} (hi:i≤xs.length):(xs.take i++nm::xs.drop i).length=xs.length+1:=by
 simp only[Al5,Al2,List.length_take,zfx];omega
theorem zje {H:zb} {γ:Gh} {w W:World} {b cap i:Nat} {xs:List (List UInt8)} {nm:List UInt8} {a0:AV} {spa:List AV} {s0:Value} {spt:List Value} {E:TypeId} {e:Ending} (hs:zA γ w H) (hb:H b=some (.cells (xs.map AV.str++a0::spa)))
  (hbb:w.heap[b]?=some (.cells (xs.map yd++s0::spt).toArray E (0,0))) (hk:γ b=.own) (hspf:zt γ w spa spt) (hi:i≤xs.length) (hroom:xs.length+1≤cap) (hm:cap≤maxLen) (hsp:xs.length+1+spa.length=cap) (hlt:b<w.heap.size)
  (he:e=Ending.returned (.slice (some ⟨b,0,none⟩) (xs.length+1) cap)) (hW:W=w.setRow b ((xs.take i++nm::xs.drop i).map yd++spt).toArray∨W=w.drew.setRow b ((xs.take i++nm::xs.drop i).map yd++spt).toArray) :
  zb9 H γ w (.ms b 0 xs.length cap) (xs.take i++nm::xs.drop i) e W:=by
 have hnl:=ziE xs nm hi
 obtain⟨g1,g2,g3⟩:=zr8 hs hb hbb hk ((zet γ w (xs.take i++nm::xs.drop i)).append hspf) (by rw[Al5,List.length_map,hnl];simp only[Al5,List.length_map,Al2];omega) hW
 have hsz:W.heap.size=w.heap.size:=by
  rcases hW with h|h
  ·rw[h,setRow_size]
  ·rw[h,setRow_size];rfl
 refine⟨γ,_,.ret (.ms b 0 (xs.length+1) cap),g1,g2,g3,by rw[he];exact .ms _ _ _ _ (by omega) hroom hm,.inr ⟨b,cap,spa,by rw[hnl],upd_same ..,by rw[hnl];exact hsp⟩,fun c x hc hn=>?_,fun c n k e=>?_⟩
 ·have:c≠b:=fun e=>by subst e;exact hn _ _ rfl
  simp only[zb.upd,this,if_false];exact hc
 ·cases e;exact .inr ⟨_,_,rfl⟩
theorem zfT {H:zb} {γ:Gh} {w W:World} {G i:Nat} {xs:List (List UInt8)} {nm:List UInt8} {lv:AV} {E:TypeId} {e:Ending} (hs:zA γ w H) (hi:i≤xs.length) (hG:xs.length+1≤G) (hGm:G≤maxLen)
  (he:e=Ending.returned (.slice (some ⟨w.heap.size,0,none⟩) (xs.length+1) G)) (hext:Ext (fun c=>c=w.heap.size) γ w (fun c=>if c=w.heap.size then .own else γ c) W)
  (hWb:W.heap[w.heap.size]?=some (.cells ((xs.take i++nm::xs.drop i).map yd++(List.replicate (G-(xs.length+1)) []).map yd).toArray E (0,0))):zb9 H γ w lv (xs.take i++nm::xs.drop i) e W:=by
 obtain⟨g1,g2,g3⟩:=zqU (newA:=(xs.take i++nm::xs.drop i).map AV.str++(List.replicate (G-(xs.length+1)) []).map AV.str) hs (fun γ w=>(zet γ w _).append (zet γ w _)) hext hWb
 have hsz:w.heap.size<W.heap.size:=(zar.1 hWb).1
 have hnl:=ziE xs nm hi
 refine⟨_,_,.ret (.ms w.heap.size 0 (xs.length+1) G),g1,g2,g3,by rw[he];exact .ms _ _ _ _ hsz hG hGm,.inr ⟨w.heap.size,G,_,by rw[hnl],upd_same ..,by rw[hnl,List.length_map,List.length_replicate];omega⟩,fun c x hc _=>?_,fun b n k e=>?_⟩
 ·have:c≠w.heap.size:=fun e=>by have:=(hs c x hc).lt;omega
  simp only[zb.upd,this,if_false];exact hc
 ·cases e
  cases hx:H w.heap.size with
  | none=>exact .inl rfl
  | some x=>have:=(hs _ x hx).lt;omega
section
variable {H:zb} {γ:Gh} {w:World} {vb:Nat} {Ev:TypeId} {nm:List UInt8}
theorem zes (hvbb:w.heap[vb]?=some (.cells [yd nm].toArray Ev (0,0))):∀ j v,[yd nm][j]?=some v→w.cell? ⟨vb,0+j,none⟩=some v:=fun j v h=>by rw[Nat.zero_add,zfH hvbb];simpa using h
theorem zq0 (hs:zA γ w H) (hvbb:w.heap[vb]?=some (.cells [yd nm].toArray Ev (0,0))) :
  Calls Tryz.prog 246 #[.slice none 0 0,.int .i64 0,.slice (some ⟨vb,0,none⟩) 1 1] w fun e W=>zb9 H γ w (.sl .nil 1 []) [nm] e W:=by
 have h:=Any2.slices_Insert_string_end_grow Tryz.laysNm222 none 0 0 vb 0 1 1 [] [yd nm] w (by omega) (by omega) (by omega) (by omega) rfl rfl (fun _=>rfl) (fun a h=>by cases h) (zes hvbb) (zce [nm])
 refine Calls.mono h fun e w' ⟨he,hw⟩=>?_
 have hG:=grownCap_ge w (0+1) 0 (Tryz.laysNm222_ren.t 9)
 have hGm:=grownCap_le_maxLen w (0+1) 0 (Tryz.laysNm222_ren.t 9) (by simp only[maxLen];omega)
 generalize grownCap w (0+1) 0 (Tryz.laysNm222_ren.t 9)=G at *
 rw[zdZ] at hw
 have hw2:w'=w.drew.alloc (.cells (([]:List (List UInt8)).take 0++nm::([]:List (List UInt8)).drop 0 |>.map yd |>.append ((List.replicate (G-(0+1)) []).map yd)).toArray (Tryz.laysNm222_ren.t 9)):=by rw[hw,List.append_toArray,List.map_replicate];rfl
 refine zfT (xs:=[]) (i:=0) (E:=Tryz.laysNm222_ren.t 9) hs (Al4 _) hG hGm he ?_ (by rw[hw2];exact heap_alloc_new w.drew _)
 rw[hw2]
 exact(ZR (fun c=>c=w.heap.size) γ w).trans (Zh (fun c=>c=w.heap.size) γ w.drew .own _ _) (fun _ _ f=>f)
variable {b cap i:Nat} {xs:List (List UInt8)} {E:TypeId} {spv:List Value}
theorem zkT (hbb:w.heap[b]?=some (.cells (xs.map yd++spv).toArray E (0,0))):∀ j v,(xs.map yd)[j]?=some v→w.cell? ⟨b,0+j,none⟩=some v:=fun j v h=>by
 rw[Nat.zero_add,zfH hbb,List.getElem?_toArray,zcC (Yy.1 h).1];exact h
theorem zjI (hbb:w.heap[b]?=some (.cells (xs.map yd++spv).toArray E (0,0))) (hfull:(xs.map yd++spv).length=cap):∀ j,j<cap→(w.cell? ⟨b,0+j,none⟩).isSome=true:=fun j hj=>by
 rw[Nat.zero_add,zfH hbb,List.getElem?_toArray,Al9 (by omega)];rfl
theorem zm6 {a0:AV} {spa:List AV} {s0:Value} {spt:List Value} (hs:zA γ w H) (hvbb:w.heap[vb]?=some (.cells [yd nm].toArray Ev (0,0))) (hb:H b=some (.cells (xs.map AV.str++a0::spa)))
  (hbb:w.heap[b]?=some (.cells (xs.map yd++s0::spt).toArray E (0,0))) (hk:γ b=.own) (hspf:zt γ w spa spt) (hil:i<xs.length) (hm:cap≤maxLen) (hsp:xs.length+1+spa.length=cap) (hbv:b≠vb) :
  Calls Tryz.prog 246 #[.slice (some ⟨b,0,none⟩) xs.length cap,.int .i64 i,.slice (some ⟨vb,0,none⟩) 1 1] w fun e W=>zb9 H γ w (.ms b 0 xs.length cap) (xs.take i++nm::xs.drop i) e W:=by
 have hspl:=hspf.1
 have hfull:(xs.map yd++s0::spt).length=cap:=by simp only[Al5,List.length_map,Al2];omega
 have hlt:b<w.heap.size:=(zar.1 hbb).1
 have hxl:(xs.map yd).length=xs.length:=List.length_map ..
 have hin:=zjI hbb hfull
 have h:=Any2.slices_Insert_string_shift Tryz.laysNm222 b 0 xs.length cap i vb 0 1 1 (xs.map yd) [yd nm] w hil (by omega) (by omega) hm (Ne.symm hbv) hxl rfl (zkT hbb) (fun j hj=>hin j (by omega)) (fun j _=>zda hbb) (zes hvbb) (zce xs) (zce [nm]) Ev E 1 cap (by simp only[World.shape?,hvbb];rfl) (by simp only[World.shape?,hbb,List.size_toArray,hfull]) (by omega) (zda hvbb) (zda hvbb)
 refine Calls.mono h fun e w' ⟨he,hw⟩=>zje hs hb hbb hk hspf (by omega) (by omega) hm hsp hlt he (.inr ?_)
 have hbbd:w.drew.heap[b]?=some (.cells (xs.map yd++s0::spt).toArray E (0,0)):=hbb
 have hdl:((xs.map yd).drop i).length=xs.length-i:=by rw[zfx,hxl]
 have e2:(xs.map yd++s0::spt).drop (i+1+((xs.map yd).drop i).length)=spt:=by
  rw[hdl,show i+1+(xs.length-i)=(xs.map yd).length+1 by omega,← List.drop_drop,List.drop_left]
  rfl
 have e1:(xs.map yd++s0::spt).take (i+1)=(xs.map yd).take (i+1):=List.take_append_of_le_length (by omega)
 rw[Nat.zero_add,Nat.zero_add,Z7 b E _ _ _ _ hbbd (by rw[hdl,hfull];omega),e1,e2] at hw
 have hb3:=setRow_heap w.drew b _ ((xs.map yd).take (i+1)++(xs.map yd).drop i++spt).toArray E _ hbbd
 have e3:((xs.map yd).take (i+1)++(xs.map yd).drop i++spt).take i=(xs.map yd).take i:=by
  rw[zdn,List.take_append_of_le_length (by rw[List.length_take,hxl];omega),List.take_take,Nat.min_eq_left (by omega)]
 have e4:((xs.map yd).take (i+1)++(xs.map yd).drop i++spt).drop (i+[yd nm].length)=(xs.map yd).drop i++spt:=by
  rw[zdn,List.drop_left' (by rw[List.length_take,hxl,List.length_singleton];omega)]
 rw[Z7 b E _ _ _ _ hb3 (by simp only[Al5,List.length_take,hdl,hxl,List.length_singleton];omega),setRow_setRow,e3,e4] at hw
 rw[hw]
 congr 2
 rw[List.map_append,List.map_cons,List.map_take,List.map_drop]
 simp only[zdn,List.singleton_append,Al6,zdC]
theorem ziy {a0:AV} {spa:List AV} {s0:Value} {spt:List Value} (hs:zA γ w H) (hvbb:w.heap[vb]?=some (.cells [yd nm].toArray Ev (0,0))) (hb:H b=some (.cells (xs.map AV.str++a0::spa)))
  (hbb:w.heap[b]?=some (.cells (xs.map yd++s0::spt).toArray E (0,0))) (hk:γ b=.own) (hspf:zt γ w spa spt) (hm:cap≤maxLen) (hsp:xs.length+1+spa.length=cap) :
  Calls Tryz.prog 246 #[.slice (some ⟨b,0,none⟩) xs.length cap,.int .i64 xs.length,.slice (some ⟨vb,0,none⟩) 1 1] w fun e W=>zb9 H γ w (.ms b 0 xs.length cap) (xs.take xs.length++nm::xs.drop xs.length) e W:=by
 have hspl:=hspf.1
 have hfull:(xs.map yd++s0::spt).length=cap:=by simp only[Al5,List.length_map,Al2];omega
 have hlt:b<w.heap.size:=(zar.1 hbb).1
 have hxl:(xs.map yd).length=xs.length:=List.length_map ..
 have hin:=zjI hbb hfull
 have h:=Any2.slices_Insert_string_end_room Tryz.laysNm222 b 0 xs.length cap vb 0 1 1 [yd nm] w (by omega) (by omega) hm rfl (fun j hj=>by have:=hin (xs.length+j) (by omega);rwa [show 0+(xs.length+j)=0+xs.length+j by omega] at this) (fun j _=>zda hbb) (zes hvbb) (zce [nm])
 refine Calls.mono h fun e w' ⟨he,hw⟩=>zje hs hb hbb hk hspf (Al4 _) (by omega) hm hsp hlt he (.inl ?_)
 have e1:(xs.map yd++s0::spt).take xs.length=xs.map yd:=List.take_left' hxl
 have e2:(xs.map yd++s0::spt).drop (xs.length+[yd nm].length)=spt:=by
  rw[List.length_singleton,show xs.length+1=(xs.map yd).length+1 by omega,← List.drop_drop,List.drop_left]
  rfl
 rw[Nat.zero_add,Z7 b E _ _ _ _ hbb (by rw[hfull,List.length_singleton];omega),e1,e2] at hw
 rw[hw,List.take_length,List.drop_length]
 congr 2
 simp only[List.map_append,List.map_cons,List.map_nil]
theorem zh7 (hs:zA γ w H) (hvbb:w.heap[vb]?=some (.cells [yd nm].toArray Ev (0,0)))
  (hbb:w.heap[b]?=some (.cells (xs.map yd++spv).toArray E (0,0))) (hc:xs.length≤cap) (hcl:cap=xs.length) (hlen:xs.length≤1099511627776) :
  Calls Tryz.prog 246 #[.slice (some ⟨b,0,none⟩) xs.length cap,.int .i64 xs.length,.slice (some ⟨vb,0,none⟩) 1 1] w fun e W=>zb9 H γ w (.ms b 0 xs.length cap) (xs.take xs.length++nm::xs.drop xs.length) e W:=by
 have hxl:(xs.map yd).length=xs.length:=List.length_map ..
 have hG:=grownCap_ge w (xs.length+1) cap (Tryz.laysNm222_ren.t 9)
 have hGm:=grownCap_le_maxLen w (xs.length+1) cap (Tryz.laysNm222_ren.t 9) (by simp only[maxLen];omega)
 have h:=Any2.slices_Insert_string_end_grow Tryz.laysNm222 (some ⟨b,0,none⟩) xs.length cap vb 0 1 1 (xs.map yd) [yd nm] w (by omega) hc (by omega) (by omega) hxl rfl (fun h=>by cases h) (fun a ha j v hj=>by cases ha;rw[Lib.addr_add];exact zkT hbb j v hj) (zes hvbb) (zce [nm])
 generalize grownCap w (xs.length+1) cap (Tryz.laysNm222_ren.t 9)=G at *
 refine Calls.mono h fun e w' ⟨he,hw⟩=>?_
 rw[zdZ,List.append_toArray] at hw
 have hw2:w'=w.drew.alloc (.cells ((xs.take xs.length++nm::xs.drop xs.length).map yd++(List.replicate (G-(xs.length+1)) []).map yd).toArray (Tryz.laysNm222_ren.t 9)):=by
  rw[hw,List.take_length,List.drop_length,List.map_replicate,List.map_append,List.map_cons,List.map_nil]
 refine zfT (E:=Tryz.laysNm222_ren.t 9) hs (Al4 _) hG hGm he ?_ (by rw[hw2];exact heap_alloc_new w.drew _)
 rw[hw2]
 exact(ZR (fun c=>c=w.heap.size) γ w).trans (Zh (fun c=>c=w.heap.size) γ w.drew .own _ _) (fun _ _ f=>f)
theorem zkr {w W:World} {N:Nat} {E:TypeId} {γ:Gh} {A vs us C:List Value} {i j:Nat} (hN:N=w.heap.size) (hw:W=(((w.alloc (.cells A.toArray E)).drew.setCells N i vs).drew).setCells N j us) (h1:i+vs.length≤A.length) (h2:j+us.length≤A.length)
  (hC:(A.take i++vs++A.drop (i+vs.length)).take j++us++(A.take i++vs++A.drop (i+vs.length)).drop (j+us.length)=C) :
  Ext (fun c=>c=w.heap.size) γ w (fun c=>if c=w.heap.size then .own else γ c) W∧W.heap[w.heap.size]?=some (.cells C.toArray E (0,0)):=by
 subst hN
 have hb1:(w.alloc (.cells A.toArray E)).drew.heap[w.heap.size]?=some (.cells A.toArray E (0,0)):=heap_alloc_new w _
 have x1:Ext (fun c=>c=w.heap.size) γ w (fun c=>if c=w.heap.size then .own else γ c) (w.alloc (.cells A.toArray E)).drew:=(Zh (fun c=>c=w.heap.size) γ w .own A.toArray E).trans (ZR (fun c=>c=w.heap.size) _ _) (fun _ _ f=>f)
 rw[Z7 w.heap.size E _ _ A _ hb1 h1] at hw
 generalize hB:A.take i++vs++A.drop (i+vs.length)=B at *
 have hBl:B.length=A.length:=by rw[← hB];simp only[Al5,List.length_take,zfx];omega
 generalize hw1:(w.alloc (.cells A.toArray E)).drew=w1 at *
 have hb2:=setRow_heap w1 w.heap.size A.toArray B.toArray E (0,0) hb1
 have x2:Ext (fun c=>c=w.heap.size) (fun c=>if c=w.heap.size then .own else γ c) w1 (fun c=>if c=w.heap.size then .own else γ c) (w1.setRow w.heap.size B.toArray) :=
  Z1 (F:=fun c=>c=w.heap.size) hb1 (by simpa using hBl) rfl (fun q hq=>by simp[Z5] at hq) (fun _ _=>rfl)
 generalize w1.setRow w.heap.size B.toArray=w2 at *
 have hb3:w2.drew.heap[w.heap.size]?=some (.cells B.toArray E (0,0)):=hb2
 rw[Z7 w.heap.size E _ _ B _ hb3 (by omega),hC] at hw
 have hb4:=setRow_heap w2.drew w.heap.size B.toArray C.toArray E (0,0) hb3
 have hCl:C.length=B.length:=by rw[← hC];simp only[Al5,List.length_take,zfx];omega
 have x3:Ext (fun c=>c=w.heap.size) (fun c=>if c=w.heap.size then .own else γ c) w2.drew (fun c=>if c=w.heap.size then .own else γ c) (w2.drew.setRow w.heap.size C.toArray) :=
  Z1 (F:=fun c=>c=w.heap.size) hb3 (by simpa using hCl) rfl (fun q hq=>by simp[Z5] at hq) (fun _ _=>rfl)
 rw[← hw] at hb4 x3
 exact⟨((x1.trans x2 (fun _ _ f=>f)).trans (ZR (fun c=>c=w.heap.size) _ w2) (fun _ _ f=>f)).trans x3 (fun _ _ f=>f),hb4⟩
theorem zn5 (hs:zA γ w H) (hvbb:w.heap[vb]?=some (.cells [yd nm].toArray Ev (0,0)))
  (hbb:w.heap[b]?=some (.cells (xs.map yd++spv).toArray E (0,0))) (hc:xs.length≤cap) (hcl:cap=xs.length) (hil:i<xs.length) (hlen:xs.length≤1099511627776) :
  Calls Tryz.prog 246 #[.slice (some ⟨b,0,none⟩) xs.length cap,.int .i64 i,.slice (some ⟨vb,0,none⟩) 1 1] w fun e W=>zb9 H γ w (.ms b 0 xs.length cap) (xs.take i++nm::xs.drop i) e W:=by
 have hxl:(xs.map yd).length=xs.length:=List.length_map ..
 have hG:=grownCap_ge w (xs.length+1) cap (Tryz.laysNm222_ren.t 9)
 have hGm:=grownCap_le_maxLen w (xs.length+1) cap (Tryz.laysNm222_ren.t 9) (by simp only[maxLen];omega)
 have h:=Any2.slices_Insert_string_grow Tryz.laysNm222 b 0 xs.length cap i vb 0 1 1 (xs.map yd) [yd nm] w hil (by omega) hc (by omega) (by omega) hxl rfl (zkT hbb) (zes hvbb) (zce xs) (zce [nm])
 generalize grownCap w (xs.length+1) cap (Tryz.laysNm222_ren.t 9)=G at *
 refine Calls.mono h fun e w' ⟨he,hw⟩=>?_
 rw[zdZ,zdZ,List.append_toArray,List.append_toArray] at hw
 have hl1:((xs.map yd).take i).length=i:=by rw[List.length_take,hxl];omega
 have hdl:((xs.map yd).drop i).length=xs.length-i:=by rw[zfx,hxl]
 obtain⟨g1,g2⟩:=zkr (γ:=γ) (C:=(xs.take i++nm::xs.drop i).map yd++(List.replicate (G-(xs.length+1)) []).map yd) rfl hw (by simp only[Al5,hl1,List.length_replicate,List.length_singleton];omega) (by simp only[Al5,hl1,hdl,List.length_replicate];omega) (by
  have t1:((xs.map yd).take i++List.replicate (xs.length+1-i) (yd [])++List.replicate (G-(xs.length+1)) (yd [])).take i=(xs.map yd).take i:=by rw[zdn,List.take_left' hl1]
  rw[t1]
  have t2:((xs.map yd).take i++[yd nm]++((xs.map yd).take i++List.replicate (xs.length+1-i) (yd [])++List.replicate (G-(xs.length+1)) (yd [])).drop (i+[yd nm].length)).take (i+1)=(xs.map yd).take i++[yd nm]:=List.take_left' (by rw[Al5,hl1];rfl)
  rw[t2]
  have t3:((xs.map yd).take i++[yd nm]++((xs.map yd).take i++List.replicate (xs.length+1-i) (yd [])++List.replicate (G-(xs.length+1)) (yd [])).drop (i+[yd nm].length)).drop (i+1+((xs.map yd).drop i).length)=List.replicate (G-(xs.length+1)) (yd []):=by
   rw[← List.drop_drop,List.drop_left' (by rw[Al5,hl1];rfl),List.drop_drop,List.drop_left' (by simp only[Al5,hl1,hdl,List.length_replicate,List.length_singleton];omega)]
  rw[t3,List.map_append,List.map_cons,List.map_take,List.map_drop,List.map_replicate]
  simp only[zdn,List.singleton_append,Al6,zdC])
 exact zfT (E:=Tryz.laysNm222_ren.t 9) hs (by omega) hG hGm he g1 g2
end
theorem zuA (H:zb) (lv:AV) (xs:List (List UInt8)) (i:Nat) (nm:List UInt8) (vb:Nat) (hl:zeL H lv xs) (hi:i≤xs.length) (hvb:H vb=some (.cells [.str nm])) (hne:∀ b n c,lv=.ms b 0 n c→b≠vb) (hlen:xs.length≤1099511627776) :
  zj Tryz.prog 246 [lv,.int .i64 i,.ms vb 0 1 1] H (fun e H'=>match e with|.ret v=>InsS H lv H' v (xs.take i++nm::xs.drop i)|.pan _=>False):=by
 intro γ w vs ht hs hv
 obtain⟨hlv,hr⟩:=hv
 match vs,hlv with
 | [v0,v1,v2],_ =>
  have r0:=hr 0 _ _ rfl rfl
  cases hr 1 _ _ rfl rfl
  cases hr 2 _ _ rfl rfl
  have hvo:=hs vb _ hvb
  cases hvo with
  | cells _ vv Ev hkv hvbb hvl hv1 hvr =>
  obtain⟨z,ez,hz⟩:=zd2 (xs:=[nm]) (sp:=[]) (γ:=γ) (w:=w) (vs:=vv) ⟨by simpa using hvl,hv1,fun i c v hc hv=>hvr i c v (by simpa using hc) hv⟩
  obtain rfl:z=[]:=List.eq_nil_of_length_eq_zero (by simpa using hz.1.symm)
  obtain rfl:vv=[yd nm]:=by simpa using ez
  rcases hl with ⟨rfl,rfl⟩|⟨b,cap,sp,rfl,hb,hsp⟩
  ·obtain rfl:i=0:=by simpa using hi
   have e0:v0=.slice none 0 0:=by
    cases r0 with
    | slnil _ _ ho=>rfl
    | sl0 _ _ a ho=>rcases ho with h|h<;>cases h
    | sl _ _ _ b off cap cv hc hm hu hcell hrr ho=>exact False.elim ho
   subst e0
   exact zq0 hs hvbb
  ·have hbo:=hs b _ hb
   cases hbo with
   | cells _ bv E hk hbb hbl hb1 hbr =>
   have hbv:b≠vb:=hne _ _ _ rfl
   obtain⟨spv,rfl,hspf⟩:=zd2 (xs:=xs) (sp:=sp) (γ:=γ) (w:=w) ⟨hbl,hb1,hbr⟩
   have hspl:=hspf.1
   cases r0 with
   | ms _ _ _ _ hlt hc hm =>
   cases spv with
   | nil =>
    rw[Al3] at hspl
    by_cases hil:i<xs.length
    ·exact zn5 hs hvbb hbb hc (by omega) hil hlen
    ·obtain rfl:i=xs.length:=by omega
     exact zh7 hs hvbb hbb hc (by omega) hlen
   | cons s0 spt =>
    cases sp with
    | nil=>rw[Al3,Al2] at hspl;omega
    | cons a0 spa =>
     have hspf':zt γ w spa spt:=⟨by simpa using hspf.1,fun i v h=>hspf.2.1 (i+1) v (by simpa using h),fun i c v hc h=>hspf.2.2 (i+1) c v (by simpa using hc) (by simpa using h)⟩
     rw[Al2] at hsp
     by_cases hil:i<xs.length
     ·exact zm6 hs hvbb hb hbb hk hspf' hil hm (by omega) hbv
     ·obtain rfl:i=xs.length:=by omega
      exact ziy hs hvbb hb hbb hk hspf' hm (by omega)
end Go.Proofs.YtbcocdloklbkjaaGreatDoor
namespace Go.Proofs.YtbcocdloklbkjaaGreatDoor
open Go.Ab
theorem zmk:∀ xs:List (List UInt8),(cT xs).flatten=xs.map AV.str
 | []=>rfl
 | x::r=>by
  have:=zmk r
  simp only[cT,List.map_cons,List.flatten_cons] at this ⊢
  rw[this];rfl
theorem zeL.freeze {γ:Gh} {w:World} {H:zb} {lv:AV} {xs:List (List UInt8)} {v:Value} (hs:zA γ w H) (h:zeL H lv xs) (hr:Rep γ w lv v) :
  ∃ γ' H',(∀ c,γ' c=γ c∨(γ' c=.imm∧γ c=.own∧∃ n k,lv=.ms c 0 n k))∧zA γ' w H'∧(∀ c x,H c=some x→(∀ n k,lv≠.ms c 0 n k)→H' c=some x)∧(∀ c x,H' c=some x→H c=some x)∧Rep γ' w (.sl .no 1 (cT xs)) v:=by
 rcases h with ⟨rfl,rfl⟩|⟨b,cap,sp,rfl,hb,hsp⟩
 ·exact⟨γ,H,fun c=>.inl rfl,hs,fun c x hc _=>hc,fun c x hc=>hc,hr.strip1⟩
 ·cases hs b _ hb with
  | cells _ vs E hk hbb hl hone hrr =>
  cases hr with
  | ms _ _ _ _ hlt hc hm =>
  have m:Mono γ w (fun c=>if c=b then .imm else γ c) w:=⟨Al4 _,fun c q u hu hp=>⟨by by_cases e:c=b<;>simp[Z5,e] at hp ⊢;exact hp,hu⟩,fun c arr E fr hc=>⟨arr,hc,rfl⟩⟩
  obtain⟨spv,rfl,hspf⟩:=zd2 (xs:=xs) (sp:=sp) (γ:=γ) (w:=w) ⟨hl,hone,hrr⟩
  refine⟨fun c=>if c=b then .imm else γ c,H.del b,fun c=>?_,fun c x hc=>?_,fun c x hc hn=>?_,fun c x hc=>?_,?_⟩
  ·by_cases e:c=b
   ·subst e;exact .inr ⟨by simp,hk,_,_,rfl⟩
   ·exact .inl (by simp[e])
  ·unfold zb.del at hc
   split at hc
   ·cases hc
   ·rename_i e
    exact(hs c x hc).kept m (by simp[e]) rfl
  ·have:c≠b:=fun e=>by subst e;exact hn _ _ rfl
   simp only[zb.del,this,if_false];exact hc
  ·unfold zb.del at hc
   split at hc
   ·cases hc
   ·exact hc
  ·have e1:=zmk xs
   have hF:=zet (fun c=>if c=b then .imm else γ c) w xs
   have key:Rep (fun c=>if c=b then .imm else γ c) w (.sl .no 1 (cT xs)) (.slice (some ⟨b,0,none⟩) (cT xs).length cap):=by
    refine Rep.sl_flat (us:=xs.map yd) (fun x hx=>?_) (by rw[e1];simp) (fun j u hj=>?_) (fun j c u hc hj=>?_) (by rw[zM];exact hc) hm trivial
    ·rw[cT] at hx
     obtain⟨y,_,rfl⟩:=List.mem_map.1 hx;rfl
    ·refine⟨?_,by simp[Z5],hF.2.1 j u hj⟩
     rw[Nat.zero_add,zfH hbb,List.getElem?_toArray,zcC (Yy.1 hj).1];exact hj
    ·rw[e1] at hc
     exact hF.2.2 j c u hc hj
   rw[zM] at key
   exact key
theorem zj.frozen {P:Program} {f:FuncId} {args:List AV} {H:zb} {xs:List (List UInt8)} (h:zj P f args H (fun e H'=>match e with|.ret v=>InsS H (.sl .nil 1 []) H' v xs|.pan _=>False)) :
  zj P f args H (fun e H'=>match e with|.ret v=>v=.sl .no 1 (cT xs)∧∀ c x,H c=some x→H' c=some x|.pan _=>False):=by
 intro γ w vs ht hs hv
 refine(h γ w vs ht hs hv).mono fun e w' ⟨γ',H',r,hext,hst,hkeys,hend,hq⟩=>?_
 cases r with
 | pan v=>exact hq.elim
 | ret lv =>
  simp only at hq
  cases e with
  | panicked ch=>exact hend.elim
  | outgrown=>exact hend.elim
  | returned v =>
   have hr:Rep γ' w' lv v:=hend
   obtain⟨γ2,H2,g1,g2,g3,g4,g5⟩:=hq.own.freeze hst hr
   have hnew:∀ c n k,lv=.ms c 0 n k→w.heap.size≤c:=fun c n k e=>by
    rcases hq.new c n k e with h1|⟨n0,k0,h1⟩
    ·rcases hq.own with ⟨h2,_⟩|⟨b,cap,sp,h2,hb,_⟩
     ·rw[h2] at e;cases e
     ·rw[h2] at e
      cases e
      rcases hkeys _ (by rw[hb];rfl) with h3|h3
      ·rw[h1] at h3;cases h3
      ·exact h3
    ·cases h1
   have hsame:∀ c,c<w.heap.size→γ2 c=γ' c:=fun c hc=>by
    rcases g1 c with h1|⟨_,_,n,k,h1⟩
    ·exact h1
    ·have:=hnew c n k h1;omega
   have hprot:∀ c o,Z5 γ' c o→Z5 γ2 c o:=fun c o hp=>by
    rcases g1 c with h1|⟨h1,h2,_⟩
    ·simpa[Z5,h1] using hp
    ·simp[Z5,h2] at hp
   refine⟨γ2,H2,.ret (.sl .no 1 (cT xs)),⟨⟨hext.mono.size,fun c o v hc hp=>?_,hext.mono.shape⟩,hext.os,hext.output,hext.frozen,fun c hc hn=>?_⟩,g2,fun c hc=>?_,g5,rfl,fun c x hc=>?_⟩
   ·obtain⟨h1,h2⟩:=hext.mono.cell c o v hc hp
    exact⟨hprot c o h1,h2⟩
   ·obtain⟨h1,h2⟩:=hext.frame c hc hn
    exact⟨(hsame c hc).trans h1,h2⟩
   ·cases hx:H2 c with
    | none=>rw[hx] at hc;cases hc
    | some x=>exact hkeys c (by rw[g4 c x hx];rfl)
   ·exact g3 c x (hq.kept c x hc fun n k e=>by cases e) fun n k e=>by have:=hnew c n k e;have:=(hs c x hc).lt;omega
theorem zeL.ne {H:zb} {lv:AV} {xs:List (List UInt8)} {b:Nat} (h:zeL H lv xs) (hb:H b=none):∀ n k,lv≠.ms b 0 n k:=fun n k e=>by
 rcases h with ⟨h,_⟩|⟨b0,cap,sp,h,h2,_⟩
 ·rw[h] at e;cases e
 ·rw[h] at e;cases e
  rw[hb] at h2;cases h2
theorem zeL.upd {H:zb} {lv:AV} {xs:List (List UInt8)} {b:Nat} {x:AObj} (h:zeL H lv xs) (hb:H b=none):zeL (H.upd b x) lv xs:=((InsS.refl h).upd hb).own
def zcu (nm:List UInt8):List (List UInt8)→Nat→Option Nat
 | [],k=>some k
 | s::r,k=>if Op.bytesLess s nm=true then zcu nm r (k+1) else if s=nm then none else some k
theorem zf5 (nm:List UInt8):∀(l:List (List UInt8)) (k j:Nat),zcu nm l k=some j→j≤k+l.length
 | [],k,j,h=>by simp only[zcu,Al1] at h;simp;omega
 | s::r,k,j,h=>by
  simp only[zcu] at h
  split at h
  ·have:=zf5 nm r _ _ h;simp only[Al2];omega
  ·split at h
   ·cases h
   ·simp only[Al1] at h;omega
def zgq (l:List (List UInt8)) (nm:List UInt8):List (List UInt8):=match zcu nm l 0 with|none=>l|some k=>l.take k++nm::l.drop k
theorem zjU (l:List (List UInt8)) (nm:List UInt8):(zgq l nm).length≤l.length+1:=by
 unfold zgq
 split
 ·omega
 ·rename_i k hk
  have:=zf5 nm l 0 k hk
  rw[ziE l nm (by omega)];omega
abbrev zkS (H:zb) (lv:AV) (xs':List (List UInt8)):AEnd→zb→Prop:=fun e H'=>match e with|.ret v=>InsS H lv H' v xs'|.pan _=>False
theorem zaL {P:Program} {KP:AV→zb→Prop} {Q:AExit→Env→zb→Prop} {st:List Fr} {ρ:Env} {H:zb} {all l:List AItem} {d:Option Nat} {R:List Chk} {f:FuncId} {args:List AV} {lv:AV} {xs:List (List UInt8)}
  (h:zj P f args H (zkS H lv xs)) (hk:∀ v H',InsS H lv H' v xs→goR P KP Q all l st R (ρ.set d v) H'):goK P KP Q all l st d R ρ f args H :=
 yH (XP:=fun _ _=>False) h hk (fun _ _ h=>h.elim)
theorem zqI (H:zb) (lv:AV) (l:List (List UInt8)) (nm:List UInt8) (hl:zeL H lv l) (hlen:l.length≤1099511627776):zj Tryz.prog 227 [lv,.str nm] H (zkS H lv (zgq l nm)):=by
 have e0:zgq l nm=match zcu nm l 0 with|none=>l|some k=>l.take k++nm::l.drop k:=rfl
 have hle:=zf5 nm l 0
 have hI:=fun(k:Nat) (b:Nat) (hk:k≤l.length) (hb:H b=none)=>zuA (H.upd b (.cells [.str nm])) lv l k nm b (hl.upd hb) hk (upd_same ..) (fun b' n c e e2=>hl.ne hb n c (by rw[← e2];exact e)) hlen
 have fin2:∀ b k v H2,H b=none→zcu nm l 0=some k→InsS (H.upd b (.cells [.str nm])) lv H2 v (l.take k++nm::l.drop k)→InsS H lv H2 v (zgq l nm):=fun b k v H2 hb hk h=>by
  rw[e0,hk]
  exact((InsS.refl hl).upd hb).trans h
 unfold zkS
 rcases hl with ⟨rfl,rfl⟩|⟨b,cap,sp,rfl,hb,hsp⟩
 ·refine zj.goO ir227 ck227 (Al4 _) fun KP Q hQ hP=>?_
  simp(disch:=omega) only[ir227,go_sem]
  refine zf ([]:List Nat) 10 (fun _:Unit=>[(5,.int .i64 0)]) (fun _ _ _ H'=>H'=H) () (by simp(disch:=omega) only[go_sem]) rfl ?_ ?_
  ·rintro _ H1 J rfl hlt
   simp(disch:=omega) only[hlt,go_sem]
   refine zc fun bv hbv=>?_
   simp(disch:=omega) only[go_sem]
   refine zaL (hI 0 bv (Al4 _) hbv) fun v H2 hI2=>?_
   simp(disch:=omega) only[go_sem]
   exact hQ _ _ H2 H2 [v] nofun rfl (Low.refl _) (fin2 bv 0 v H2 hbv rfl hI2)
  ·rintro done x rest _ H1 J hd hlt _ _ _
   simp at hd
 ·refine zj.goO ir227 ck227 (Al4 _) fun KP Q hQ hP=>?_
  simp(disch:=omega) only[ir227,go_sem]
  refine zf l 10 (fun k:Nat=>[(5,.int .i64 k)]) (fun done rest k H'=>H'=H∧k=done.length∧zcu nm rest k=zcu nm l 0) 0 (by simp(disch:=omega) only[go_sem]) ⟨rfl,rfl,rfl⟩ ?_ ?_
  ·rintro k H1 J ⟨rfl,hk,hn⟩ hlt
   simp only[zcu] at hn
   simp(disch:=omega) only[hlt,go_sem]
   refine zc fun bv hbv=>?_
   simp(disch:=omega) only[go_sem]
   refine zaL (hI k bv (by omega) hbv) fun v H2 hI2=>?_
   simp(disch:=omega) only[go_sem]
   exact hQ _ _ H2 H2 [v] nofun rfl (Low.refl _) (fin2 bv k v H2 hbv hn.symm hI2)
  ·rintro done x rest k H1 J hd hlt hlt2 ⟨rfl,hk,hn⟩ hJ
   have hg:((l.map AV.str++sp).drop (0+done.length*1)).take 1=[.str x]:=by rw[hd];simp
   have hcl:0+done.length*1+1≤(l.map AV.str++sp).length:=by simp;omega
   simp only[zcu] at hn
   cases hx:Op.bytesLess x nm with
   | true =>
    rw[hx,if_pos rfl] at hn
    simp(disch:=omega) only[hlt,hb,hg,hcl,hx,go_sem]
    exact goJ (hJ (k+1) _ ⟨rfl,by simp[hk],hn⟩) (by simp(disch:=omega) only[wrap64,hk,go_sem];simp)
   | false =>
    rw[hx,if_neg (by simp)] at hn
    by_cases hxe:x=nm
    ·have hxe':=eq_true hxe
     rw[if_pos hxe] at hn
     simp(disch:=omega) only[hlt,hb,hg,hcl,hx,hxe',go_sem]
     refine hQ _ _ H1 H1 [.ms b 0 l.length cap] nofun rfl (Low.refl _) ?_
     rw[e0,← hn]
     exact InsS.refl (.inr ⟨b,cap,sp,rfl,hb,hsp⟩)
    ·rw[if_neg hxe] at hn
     simp(disch:=omega) only[hlt,hb,hg,hcl,hx,hxe,go_sem]
     refine zc fun bv hbv=>?_
     simp(disch:=omega) only[go_sem]
     refine zaL (hI k bv (by omega) hbv) fun v H2 hI2=>?_
     simp(disch:=omega) only[go_sem]
     exact hQ _ _ H2 H2 [v] nofun rfl (Low.refl _) (fin2 bv k v H2 hbv hn.symm hI2)
def vM:Mem→Val
 | .mk _ v=>v
def ofM (l:List (List UInt8)) (m:Mem):List (List UInt8):=(Zn (vM m) []).foldl zgq l
theorem zj3:∀(ns l:List (List UInt8)),(ns.foldl zgq l).length≤l.length+ns.length
 | [],l=>by simp
 | n::ns,l=>by
  have:=zj3 ns (zgq l n)
  have:=zjU l n
  simp only[List.foldl_cons,Al2];omega
theorem zma (l:List (List UInt8)) (m:Mem):(ofM l m).length≤l.length+bM m:=by
 obtain⟨n,v⟩:=m
 have h1:=zj3 (Zn v []) l
 have h2:=za4 v []
 simp only[Al3] at h2
 simp only[ofM,vM,bM];omega
theorem zd8:∀(ms:List Mem) (l:List (List UInt8)),(ms.foldl ofM l).length≤l.length+bMs ms
 | [],l=>by simp[bMs]
 | m::ms,l=>by
  have:=zd8 ms (ofM l m)
  have:=zma l m
  simp only[List.foldl_cons,bMs];omega
theorem zlG (a b:List Mem):bMs (a++b)=bMs a+bMs b:=by simp[zbE]
theorem ofC (H:zb) (lv:AV) (l:List (List UInt8)) (ms:List Mem) (hl:zeL H lv l) (hlen:l.length+bMs ms≤1099511627776):zj Tryz.prog 201 [lv,.sl .no 6 (cMs ms)] H (zkS H lv (ms.foldl ofM l)):=by
 have h1m:=y0 ms
 have hml:=y9 ms
 generalize hF:ms.foldl ofM l=F
 unfold zkS
 refine zj.goO ir201 ck201 (Al4 _) fun KP Q hQ hP=>?_
 simp(disch:=omega) only[ir201,h1m,go_sem]
 refine zf ms 11 (fun x:AV×List (List UInt8)=>[(0,x.1)]) (fun done rest x H'=>rest.foldl ofM x.2=F∧x.2.length≤l.length+bMs done∧InsS H lv H' x.1 x.2) (lv,l) (by simp(disch:=omega) only[go_sem]) ⟨hF,by simp,InsS.refl hl⟩ ?_ ?_
 ·rintro⟨l1,a⟩ H1 J ⟨hn,_,hs⟩ hlt
  simp only[List.foldl] at hn
  simp(disch:=omega) only[h1m,hlt,go_sem]
  exact hQ _ _ H1 H1 [l1] nofun rfl (Low.refl _) (by rw[← hn];exact hs)
 ·rintro done x rest ⟨l1,a⟩ H1 J hd hlt _ ⟨hn,hle,hs⟩ hJ
  have hg:=Zu hd
  have hbd:=zlR done rest x
  rw[← hd,zlG done [x]] at hbd
  have hb1:bMs [x]=bM x:=by simp[bMs]
  rw[List.foldl_cons] at hn
  have hol:=zma a x
  simp only at hle hn
  replace hs:InsS H lv H1 l1 a:=hs
  have eo:ofM a x=(Zn (vM x) []).foldl zgq a:=rfl
  have hvl:=za4 (vM x) []
  obtain⟨xn,v⟩:=x
  simp only[vM,bM,Al3] at eo hb1 hvl
  have hv:=zkt v (by simp only[Lim];omega)
  generalize Zn v []=ns at *
  have l2:=zM ns
  obtain⟨xk,xq,xs,xl,xml⟩:=v
  rw[zu,yj] at hg
  rw[yj] at hv
  simp(disch:=omega) only[h1m,hlt,hg,go_sem]
  refine zc fun b6 hb6=>?_
  have hu:=hs.upd (x:=.cells [.str xn,.int .i64 xk,.int .i64 xq,.str xs,.sl .no 5 (cVs xl),.sl .no 6 (cMs xml)]) hb6
  simp(disch:=omega) only[go_sem]
  refine za hv ?_
  simp(disch:=omega) only[l2,go_sem]
  refine zf ns 19 (fun x:AV×List (List UInt8)=>[(0,x.1)]) (fun done rest x H'=>rest.foldl zgq x.2=ofM a (.mk xn (.mk xk xq xs xl xml))∧x.2.length≤a.length+done.length∧InsS H lv H' x.1 x.2) (l1,a) (by simp(disch:=omega) only[go_sem]) ⟨eo.symm,by simp,hu⟩ ?_ ?_
  ·rintro⟨l3,a3⟩ H3 J2 ⟨hn3,hle3,hs3⟩ hlt2
   simp only[List.foldl] at hn3
   simp only at hle3
   simp(disch:=omega) only[l2,hlt2,go_sem]
   exact goJ (hJ (l3,a3) H3 ⟨by rw[hn3];exact hn,by simp only[zlG,hb1];omega,hs3⟩) (by simp(disch:=omega) only[wrap64,go_sem])
  ·rintro done3 x3 rest3 ⟨l3,a3⟩ H3 J2 hd3 hlt3 _ ⟨hn3,hle3,hs3⟩ hJ2
   have hg3:=Z0 hd3
   rw[List.foldl_cons] at hn3
   simp only at hle3 hn3
   have hil:=zjU a3 x3
   have hi:=zqI H3 l3 a3 x3 hs3.own (by omega)
   simp(disch:=omega) only[l2,hlt3,hg3,go_sem]
   refine zaL hi fun v H4 hs4=>?_
   simp(disch:=omega) only[go_sem]
   exact goJ (hJ2 (v,zgq a3 x3) H4 ⟨hn3,by simp only[Al5,Al2,Al3];omega,hs3.trans hs4⟩) (by simp(disch:=omega) only[wrap64,go_sem])
def ofD (l:List (List UInt8)) (d:DirD):List (List UInt8):=d.args.foldl ofM l
theorem zmp (ds:List DirD):∀ l:List (List UInt8),(ds.foldl ofD l).length≤l.length+bDs ds:=by
 induction ds with
 | nil=>intro l;simp[bDs]
 | cons d r ih =>
  intro l
  have h1:=ih (ofD l d)
  have h2:=zd8 d.args l
  have e:bDs (d::r)=bD d+bDs r:=by simp[bDs]
  have e2:bD d=1+d.nm.length+bMs d.args:=rfl
  rw[List.foldl_cons,e]
  simp only[ofD] at h1 h2 ⊢;omega
mutual
def wrS:SelD→List (List UInt8)→List (List UInt8)
 | .mk k al nm args dirs on sels,l=>zbv sels (dirs.foldl ofD (args.foldl ofM l))
def zbv:List SelD→List (List UInt8)→List (List UInt8)
 | [],l=>l
 | x::r,l=>zbv r (wrS x l)
end
mutual
theorem zlO:∀(x:SelD) (l:List (List UInt8)),(wrS x l).length≤l.length+bS x
 | .mk k al nm args dirs on sels,l=>by
  have h1:=zbM sels (dirs.foldl ofD (args.foldl ofM l))
  have h2:=zmp dirs (args.foldl ofM l)
  have h3:=zd8 args l
  simp only[wrS,bS];omega
theorem zbM:∀(r:List SelD) (l:List (List UInt8)),(zbv r l).length≤l.length+bSs r
 | [],l=>by simp[zbv]
 | x::r,l=>by
  have h1:=zlO x l
  have h2:=zbM r (wrS x l)
  simp only[zbv,bSs];omega
end
theorem zpD (a b:List DirD):bDs (a++b)=bDs a+bDs b:=by simp[bDs]
theorem zlV (a b:List SelD):bSs (a++b)=bSs a+bSs b:=by
 induction a with
 | nil=>simp[bSs]
 | cons x a ih=>simp only[Al6,bSs,ih];omega
theorem zkd:∀ c:Nat,∀(ss:List SelD) (H:zb) (lv:AV) (l:List (List UInt8)),bSs ss≤c→zeL H lv l→l.length+bSs ss≤1099511627776→zj Tryz.prog 146 [lv,.sl .no 7 (cSs ss)] H (zkS H lv (zbv ss l)):=by
 intro c
 induction c using Nat.strongRecOn with
 | _ c ih =>
 intro ss H lv l hc hl hlen
 have l1:=YJ ss
 have hll:=YA ss
 generalize hF:zbv ss l=F
 unfold zkS
 refine zj.goO ir146 ck146 (Al4 _) fun KP Q hQ hP=>?_
 simp(disch:=omega) only[ir146,l1,go_sem]
 refine zf ss 11 (fun x:AV×List (List UInt8)=>[(0,x.1)]) (fun done rest x H'=>zbv rest x.2=F∧x.2.length≤l.length+bSs done∧InsS H lv H' x.1 x.2) (lv,l) (by simp(disch:=omega) only[go_sem]) ⟨hF,by simp,InsS.refl hl⟩ ?_ ?_
 ·rintro⟨l1',a⟩ H1 J ⟨hn,_,hs⟩ hlt
  simp only[zbv] at hn
  simp(disch:=omega) only[l1,hlt,go_sem]
  exact hQ _ _ H1 H1 [l1'] nofun rfl (Low.refl _) (by rw[← hn];exact hs)
 ·rintro done x rest ⟨lv1,a⟩ H1 J hd hlt _ ⟨hn,hle,hs⟩ hJ
  have hg:=zab hd
  have hbd:=zbf done x rest
  rw[← hd] at hbd
  have hb1:bSs (done++[x])=bSs done+bS x:=by rw[zlV];simp[bSs]
  simp only[zbv] at hn
  have hxl:=zlO x a
  simp only at hle hn
  replace hs:InsS H lv H1 lv1 a:=hs
  obtain⟨k,al,nm,args,dirs,on,sels⟩:=x
  have ex:wrS (.mk k al nm args dirs on sels) a=zbv sels (dirs.foldl ofD (args.foldl ofM a)):=by simp only[wrS]
  simp only[bS] at hbd hb1 hxl
  have h2:=zd8 args a
  have h3:=zmp dirs (args.foldl ofM a)
  have hdl:=zai dirs
  have l2:=YQ dirs
  generalize hW:wrS (.mk k al nm args dirs on sels) a=W at *
  generalize hA:args.foldl ofM a=A at *
  rw[y6] at hg
  simp(disch:=omega) only[l1,hlt,hg,go_sem]
  refine zc fun b9 hb9=>?_
  have hu:=hs.upd (x:=.cells [.int .i64 k,.str al,.str nm,.sl .no 6 (cMs args),.sl .no 2 (cDs dirs),.str on,.sl .no 7 (cSs sels)]) hb9
  have hn9:=hs.own.ne hb9
  have c9:(H1.upd b9 (.cells [.int .i64 k,.str al,.str nm,.sl .no 6 (cMs args),.sl .no 2 (cDs dirs),.str on,.sl .no 7 (cSs sels)])) b9=some (.cells [.int .i64 k,.str al,.str nm,.sl .no 6 (cMs args),.sl .no 2 (cDs dirs),.str on,.sl .no 7 (cSs sels)]):=upd_same ..
  simp(disch:=omega) only[go_sem]
  generalize hH2:(H1.upd b9 (.cells [.int .i64 k,.str al,.str nm,.sl .no 6 (cMs args),.sl .no 2 (cDs dirs),.str on,.sl .no 7 (cSs sels)]))=H2 at *
  have hO:=ofC H2 lv1 a args hu.own (by omega)
  rw[hA] at hO
  refine zaL hO fun v3 H3 hs3=>?_
  have c93:=hs3.kept b9 _ c9 hn9
  simp(disch:=omega) only[c93,l2,go_sem]
  refine zf dirs 22 (fun x:AV×List (List UInt8)=>[(0,x.1)]) (fun done rest x H'=>H' b9=some (.cells [.int .i64 k,.str al,.str nm,.sl .no 6 (cMs args),.sl .no 2 (cDs dirs),.str on,.sl .no 7 (cSs sels)])∧rest.foldl ofD x.2=dirs.foldl ofD A∧x.2.length≤A.length+bDs done∧InsS H2 lv1 H' x.1 x.2) (v3,A) (by simp(disch:=omega) only[go_sem]) ⟨c93,rfl,by simp,hs3⟩ ?_ ?_
  ·rintro⟨l4,a4⟩ H4 J2 ⟨c94,hn4,hle4,hs4⟩ hlt2
   simp only[List.foldl] at hn4
   have hih:=ih (bSs sels) (by omega) sels H4 l4 a4 (Al4 _) hs4.own (by rw[hn4];omega)
   rw[hn4,← ex] at hih
   simp(disch:=omega) only[l2,hlt2,c94,go_sem]
   refine zaL hih fun v5 H5 hs5=>?_
   simp(disch:=omega) only[go_sem]
   exact goJ (hJ (v5,W) H5 ⟨hn,by simp only;omega,hu.trans (hs4.trans hs5)⟩) (by simp(disch:=omega) only[wrap64,go_sem])
  ·rintro done4 x4 rest4 ⟨l4,a4⟩ H4 J2 hd4 hlt4 _ ⟨c94,hn4,hle4,hs4⟩ hJ2
   have hg4:=zal hd4
   have hbd4:=zbX done4 x4 rest4
   rw[← hd4] at hbd4
   have hb4:bDs (done4++[x4])=bDs done4+bD x4:=by rw[zpD];simp[bDs]
   rw[List.foldl_cons] at hn4
   have e4:ofD a4 x4=x4.args.foldl ofM a4:=rfl
   have hl4:=zd8 x4.args a4
   simp only at hle4 hn4
   replace hs4:InsS H2 lv1 H4 l4 a4:=hs4
   obtain⟨dn,da⟩:=x4
   simp only[bD] at hbd4 hb4
   simp only at e4 hl4
   rw[e4] at hn4
   generalize hE:da.foldl ofM a4=E at *
   rw[zf3] at hg4
   simp(disch:=omega) only[l2,hlt4,hg4,go_sem]
   refine zc fun b8 hb8=>?_
   have hu4:=hs4.upd (x:=.cells [.str dn,.sl .no 6 (cMs da)]) hb8
   have hne:b9≠b8:=fun e=>by subst e;rw[c94] at hb8;cases hb8
   have hO4:=ofC (H4.upd b8 (.cells [.str dn,.sl .no 6 (cMs da)])) l4 a4 da hu4.own (by omega)
   rw[hE] at hO4
   have hn94:∀ n k,l4≠.ms b9 0 n k:=fun n k e=>by
    rcases hs4.new b9 n k e with h|⟨n0,k0,h⟩
    ·rw[c9] at h;cases h
    ·exact hn9 n0 k0 h
   simp(disch:=omega) only[go_sem]
   refine zaL hO4 fun v5 H5 hs5=>?_
   have c95:=hs5.kept b9 _ (by simp only[zb.upd,hne,if_false];exact c94) hn94
   simp(disch:=omega) only[go_sem]
   exact goJ (hJ2 (v5,E) H5 ⟨c95,hn4,by simp only[hb4];omega,hu4.trans hs5⟩) (by simp(disch:=omega) only[wrap64,go_sem])
def zaI (d:DocD) (sels:List SelD):List (List UInt8):=(ZN d sels).foldl (fun l n=>zbv ((yD d n).getD zFr).sels l) (zbv sels [])
theorem zls (d:DocD) (n:List UInt8):bSs ((yD d n).getD zFr).sels≤bFs d.frags:=by
 cases h:yD d n with
 | none=>simp[zFr,bSs]
 | some f=>exact Nat.le_trans (zag f) (zbw (List.mem_of_find?_eq_some h))
theorem zgN (d:DocD) (sels:List SelD):(ZN d sels).length≤d.frags.length:=by
 have h:∀(R:List (List UInt8)) (fs:List FragD) (a:List (List UInt8)),(fs.foldl (Zq R) a).length≤a.length+fs.length:=by
  intro R fs
  induction fs with
  | nil=>simp
  | cons f fs ih =>
   intro a
   have:=ih (Zq R a f)
   have h2:(Zq R a f).length≤a.length+1:=by unfold Zq;split<;>simp
   simp only[List.foldl_cons,Al2];omega
 have:=h (Zj d sels) d.frags []
 simpa[ZN] using this
theorem ztN (d:DocD) (sels:List SelD) (H:zb) (hb:Zc d≤Lim) (hb2:zy d*zy d+zy d≤1099511627776) (hso:bSs sels≤zy d):zj Tryz.prog 105 [.agg (zX d),.sl .no 7 (cSs sels)] H (fun e H'=>match e with|.ret v=>v=.sl .no 1 (cT (zaI d sels))∧∀ c x,H c=some x→H' c=some x|.pan _=>False):=by
 refine zj.frozen ?_
 have hb3:=hb
 simp only[Zc,Lim] at hb3
 have h0:bFs d.frags≤zy d:=by simp only[zy];omega
 have hfl:=yO d.frags
 have hfr:=fun n=>zjb d n (by simp only[Lim];omega)
 have hfs:=fun n=>zls d n
 have hrch:=fun H=>zoo d sels H hb hso
 have hrl:=zgN d sels
 have e0:zaI d sels=(ZN d sels).foldl (fun l n=>zbv ((yD d n).getD zFr).sels l) (zbv sels []):=rfl
 have hw0:=zbM sels []
 have hmul:(ZN d sels).length*zy d≤zy d*zy d:=Nat.mul_le_mul_right _ (by omega)
 have h1:=zkd (bSs sels) sels H (.sl .nil 1 []) [] (Al4 _) (.inl ⟨rfl,rfl⟩) (by simp;omega)
 simp only[Al3] at hw0
 generalize zaI d sels=F at *
 generalize ZN d sels=R at *
 generalize hW0:zbv sels []=W0 at *
 generalize hB:zy d=B at *
 have hcd:zX d=[.sl .no 5 (cOs d.ops),.sl .no 4 (cFs d.frags)]:=rfl
 simp only[hcd] at hfr hrch ⊢
 have l1:=zM R
 refine zj.goO ir105 ck105 (Al4 _) fun KP Q hQ hP=>?_
 simp(disch:=omega) only[ir105,go_sem]
 refine zaL h1 fun v1 H1 hs1=>?_
 simp(disch:=omega) only[go_sem]
 refine zG (hrch _) fun oR H2 hs2=>?_
 have hs12:InsS H (.sl .nil 1 []) H2 v1 W0:=by
  refine⟨?_,fun c x hc _=>hs2.kept c x (hs1.kept c x hc fun n k e=>by cases e) (fun d e=>by cases e),hs1.new⟩
  rcases hs1.own with h|⟨b,cap,sp,e,hb,hl⟩
  ·exact .inl h
  ·exact .inr ⟨b,cap,sp,e,hs2.kept b _ hb (fun d e=>by cases e),hl⟩
 simp(disch:=omega) only[l1,go_sem]
 refine zf R 16 (fun x:AV×List (List UInt8)=>[(5,x.1)]) (fun done rest x H'=>rest.foldl (fun l n=>zbv ((yD d n).getD zFr).sels l) x.2=F∧x.2.length≤B+done.length*B∧InsS H (.sl .nil 1 []) H' x.1 x.2) (v1,W0) (by simp(disch:=omega) only[go_sem]) ⟨e0.symm,by simp only;omega,hs12⟩ ?_ ?_
 ·rintro⟨l1',a⟩ H3 J ⟨hn,_,hs3⟩ hlt
  simp only[List.foldl] at hn
  simp(disch:=omega) only[l1,hlt,go_sem]
  exact hQ _ _ H3 H3 [l1'] nofun rfl (Low.refl _) (by rw[← hn];exact hs3)
 ·rintro done x rest ⟨lv3,a⟩ H3 J hd hlt hlt2 ⟨hn,hle,hs3⟩ hJ
  have hg:=Z0 hd
  have hfx:=hfr x
  have hfsx:=hfs x
  have hdl:(done.length+1)*B≤R.length*B:=Nat.mul_le_mul_right _ (by omega)
  rw[Nat.add_mul,Nat.one_mul] at hdl
  rw[List.foldl_cons] at hn
  simp only at hn hle
  replace hs3:InsS H (.sl .nil 1 []) H3 lv3 a:=hs3
  generalize (yD d x).isSome=fs at *
  generalize (yD d x).getD zFr=f at *
  obtain⟨fn,fo,fd,fss⟩:=f
  rw[Ya] at hfx
  simp only at hfsx hn
  have hwl:=zbM fss a
  simp(disch:=omega) only[l1,hlt,hg,go_sem]
  refine za hfx ?_
  simp(disch:=omega) only[go_sem]
  refine zc fun b8 hb8=>?_
  have hu:=hs3.upd (x:=.cells [.str fn,.str fo,.sl .no 2 (cDs fd),.sl .no 7 (cSs fss)]) hb8
  have hW:=zkd (bSs fss) fss _ lv3 a (Al4 _) hu.own (by omega)
  simp(disch:=omega) only[go_sem]
  refine zaL hW fun v4 H4 hs4=>?_
  simp(disch:=omega) only[go_sem]
  exact goJ (hJ (v4,zbv fss a) H4 ⟨hn,by simp only[Al5,Al2,Al3,Nat.add_mul,Nat.one_mul];omega,hu.trans hs4⟩) (by simp(disch:=omega) only[wrap64,go_sem])
theorem zqN (v:VarD) (s:SchD) (hl:s.defs.length≤Lim):zi Tryz.prog 103 [.agg (cW v),.view (zr s)] (.bool (!zbz s v.t.nm)):=by
 have he:=zox s v.t.nm hl
 obtain⟨nm,⟨t1,t2,t3⟩,h,⟨k,q,st,l,m⟩⟩:=v
 obtain⟨sd,sq,sm⟩:=s
 simp only[zr] at he ⊢
 refine zi.go ir103 ck103 (Al4 _) fun KP Q hQ=>?_
 simp(disch:=omega) only[ir103,z7,go_sem]
 refine za he ?_
 simp(disch:=omega) only[go_sem]
 exact hQ _ _ _ _ nofun rfl (by simp[zd,ze,AV.strip,AV.strip1])
theorem zpF (n:List UInt8) (o:OpD) (hl:o.vars.length≤Lim):zi Tryz.prog 106 [.str n,.view (cO o)] (.bool (!(z8 o.vars n).isSome)):=by
 have h1:=zlF o n hl
 generalize (z8 o.vars n).isSome=x1 at *
 generalize (z8 o.vars n).getD zW=w at *
 obtain⟨nm,⟨t1,t2,t3⟩,h,⟨k,q,st,l,m⟩⟩:=w
 obtain⟨ok,onm,vs,ds,ss⟩:=o
 rw[Y3] at h1 ⊢
 rw[z7] at h1
 refine zi.go ir106 ck106 (Al4 _) fun KP Q hQ=>?_
 simp(disch:=omega) only[ir106,go_sem]
 refine za h1 ?_
 simp(disch:=omega) only[go_sem]
 refine zc fun b4 hb4=>?_
 simp(disch:=omega) only[go_sem]
 exact hQ _ _ _ _ nofun rfl (by simp[zd,ze,AV.strip,AV.strip1])
theorem zpy (v:VarD) (us:List (List UInt8)) (b:Nat) (H:zb) (hb:H b=some (.cells [.sl .no 1 (cT us)])) (hl:us.length≤Lim):zj Tryz.prog 108 [.agg (cW v),.ptr b 0] H (At (.bool (!yu v.nm us)) H):=by
 have h1:=yP us v.nm hl
 obtain⟨nm,⟨t1,t2,t3⟩,h,⟨k,q,st,l,m⟩⟩:=v
 simp only at h1 ⊢
 generalize yu nm us=x1 at *
 refine zj.go ir108 ck108 (Al4 _) fun KP Q hQ=>?_
 simp(disch:=omega) only[ir108,z7,hb,go_sem]
 refine za h1 ?_
 simp(disch:=omega) only[go_sem]
 exact hQ _ _ _ _ _ nofun rfl (Low.refl _) ⟨by simp[zd,ze,AV.strip,AV.strip1],rfl⟩
def zcR (s:SchD) (d:DocD) (n:Int) (o:OpD):Bool :=
 if n=18 then zau [] o.vars else if n=19 then !o.vars.any fun v=>!zbz s v.t.nm
 else if n=20 then !(zaI d o.sels).any fun n=>!(z8 o.vars n).isSome
 else !o.vars.any fun v=>!yu v.nm (zaI d o.sels)
theorem znf (d:DocD) (sels:List SelD):(zaI d sels).length≤bSs sels+d.frags.length*zy d:=by
 have h0:bFs d.frags≤zy d:=by simp only[zy];omega
 have h1:=zgN d sels
 have h:∀(R l:List (List UInt8)),(R.foldl (fun l n=>zbv ((yD d n).getD zFr).sels l) l).length≤l.length+R.length*zy d:=by
  intro R
  induction R with
  | nil=>simp
  | cons n R ih =>
   intro l
   have h1:=ih (zbv ((yD d n).getD zFr).sels l)
   have h2:=zbM ((yD d n).getD zFr).sels l
   have h3:=zls d n
   rw[List.foldl_cons,Al2,Nat.add_mul,Nat.one_mul];omega
 have h2:=h (ZN d sels) (zbv sels [])
 have h3:=zbM sels []
 have h4:(ZN d sels).length*zy d≤d.frags.length*zy d:=Nat.mul_le_mul_right _ h1
 simp only[Al3] at h3
 simp only[zaI];omega
theorem zst (s:SchD) (d:DocD) (o:OpD) (n:Int) (hs:zN s≤Lim) (hb:Zc d≤Lim) (hb2:zy d*zy d+zy d≤1099511627776) (ho:bO o≤zy d):zi Tryz.prog 62 [.agg (zr s),.agg (zX d),.agg (cO o),.int .i64 n] (.bool (zcR s d n o)):=by
 have hb3:=hb
 simp only[Zc,Lim] at hb3
 have ho':=ho
 simp only[bO] at ho'
 have hvl:=yS o.vars
 have hfl:=yO d.frags
 have h0:bFs d.frags≤zy d:=by simp only[zy];omega
 have hmul:d.frags.length*zy d≤zy d*zy d:=Nat.mul_le_mul_right _ (by omega)
 have hul:=znf d o.sels
 have r1:=znX o (by simp only[Lim];omega)
 have r2:=zmL cW zat o.vars 103 [.view (zr s)] (fun v=>!zbz s v.t.nm) (by simp only[Lim];omega) (by kernel_rfl) fun v _=>zqN v s (yc hs)
 have r3:=fun H=>ztN d o.sels H hb hb2 (by omega)
 have r4:=zkX (fun n:List UInt8=>AV.str n) (zaI d o.sels) 106 [.view (cO o)] (fun n=>!(z8 o.vars n).isSome) (by simp only[Lim];omega) (by kernel_rfl) fun n _=>zpF n o (by simp only[Lim];omega)
 have r5:=fun b H (h:H b=some (.cells [.sl .no 1 (cT (zaI d o.sels))]))=>zgP cW zat o.vars 108 [.ptr b 0] (fun v=>!yu v.nm (zaI d o.sels)) H (by simp only[Lim];omega) (by kernel_rfl) fun v _=>zpy v (zaI d o.sels) b H h (by simp only[Lim];omega)
 have e0:zcR s d n o=if n=18 then zau [] o.vars else if n=19 then !o.vars.any fun v=>!zbz s v.t.nm
  else if n=20 then !(zaI d o.sels).any fun n=>!(z8 o.vars n).isSome else !o.vars.any fun v=>!yu v.nm (zaI d o.sels):=rfl
 generalize zcR s d n o=F at *
 generalize zau [] o.vars=x1 at *
 generalize (o.vars.any fun v=>!zbz s v.t.nm)=x2 at *
 generalize ((zaI d o.sels).any fun n=>!(z8 o.vars n).isSome)=x3 at *
 generalize (o.vars.any fun v=>!yu v.nm (zaI d o.sels))=x4 at *
 generalize zaI d o.sels=U at *
 obtain⟨ok,onm,vs,ds,ss⟩:=o
 obtain⟨sd,sq,sm⟩:=s
 have hcd:zX d=[.sl .no 5 (cOs d.ops),.sl .no 4 (cFs d.frags)]:=rfl
 simp only[zr,hcd,Y3] at r1 r2 r3 r4 r5 ⊢
 refine zi.go ir62 ck62 (Al4 _) fun KP Q hQ=>?_
 by_cases h1:n=18
 ·subst h1
  rw[if_pos rfl] at e0
  subst e0
  simp(disch:=omega) only[ir62,go_sem]
  refine za r1 ?_
  simp(disch:=omega) only[go_sem]
  exact hQ _ _ _ _ nofun rfl (by simp[zd,ze,AV.strip,AV.strip1])
 rw[if_neg h1] at e0
 by_cases h2:n=19
 ·subst h2
  rw[if_pos rfl] at e0
  subst e0
  simp(disch:=omega) only[ir62,go_sem]
  refine za r2 ?_
  simp(disch:=omega) only[go_sem]
  exact hQ _ _ _ _ nofun rfl (by simp[zd,ze,AV.strip,AV.strip1])
 rw[if_neg h2] at e0
 by_cases h3:n=20
 ·subst h3
  rw[if_pos rfl] at e0
  subst e0
  simp(disch:=omega) only[ir62,go_sem]
  refine yH (XP:=fun _ _=>False) (r3 _) (fun v H2 ⟨e,hk⟩=>?_) (fun _ _ h=>h.elim)
  subst e
  simp(disch:=omega) only[go_sem]
  refine za r4 ?_
  simp(disch:=omega) only[go_sem]
  exact hQ _ _ _ _ nofun rfl (by simp[zd,ze,AV.strip,AV.strip1])
 rw[if_neg h3] at e0
 subst e0
 simp(disch:=omega) only[ir62,h1,h2,h3,go_sem]
 refine yH (XP:=fun _ _=>False) (r3 _) (fun v H2 ⟨e,hk⟩=>?_) (fun _ _ h=>h.elim)
 subst e
 simp(disch:=omega) only[go_sem]
 refine zc fun b9 hb9=>?_
 simp(disch:=omega) only[go_sem]
 refine z6 (r5 b9 _ (upd_same ..)) ?_
 rintro _ _ ⟨_,rfl,rfl,rfl⟩
 simp(disch:=omega) only[ZL,go_sem]
 exact hQ _ _ _ _ nofun rfl (by simp[zd,ze,AV.strip,AV.strip1])
theorem zqi (o:OpD) (s:SchD) (d:DocD) (n:Int) (hs:zN s≤Lim) (hb:Zc d≤Lim) (hb2:zy d*zy d+zy d≤1099511627776) (ho:bO o≤zy d):zi Tryz.prog 61 [.agg (cO o),.view (zr s),.view (zX d),.view [.int .i64 n]] (.bool (!zcR s d n o)):=by
 have h1:=zst s d o n hs hb hb2 ho
 generalize zcR s d n o=x1 at *
 obtain⟨ok,onm,vs,ds,ss⟩:=o
 obtain⟨sd,sq,sm⟩:=s
 have hcd:zX d=[.sl .no 5 (cOs d.ops),.sl .no 4 (cFs d.frags)]:=rfl
 simp only[zr,hcd,Y3] at h1 ⊢
 refine zi.go ir61 ck61 (Al4 _) fun KP Q hQ=>?_
 simp(disch:=omega) only[ir61,go_sem]
 refine za h1 ?_
 simp(disch:=omega) only[go_sem]
 exact hQ _ _ _ _ nofun rfl (by simp[zd,ze,AV.strip,AV.strip1])
def zgw (s:SchD) (d:DocD) (n:Int):Bool:=decide (18≤n)&&decide (n≤21)&&!d.ops.any fun o=>!zcR s d n o
theorem zr0 (s:SchD) (d:DocD) (n:Int) (hs:zN s≤Lim) (hb:Zc d≤Lim) (hb2:zy d*zy d+zy d≤1099511627776):zi Tryz.prog 21 [.agg (zr s),.agg (zX d),.int .i64 n] (.bool (zgw s d n)):=by
 have hb3:=hb
 simp only[Zc,Lim] at hb3
 have hb0:bOs d.ops≤zy d:=by simp only[zy];omega
 have hol:=Zt d.ops
 have r1:=anyOp cO (fun _=>rfl) d.ops 61 [.view (zr s),.view (zX d),.view [.int .i64 n]] (fun o=>!zcR s d n o) (by simp only[Lim];omega) (by kernel_rfl) fun o ho=>zqi o s d n hs hb hb2 (by
  obtain⟨a,b,hd⟩:=List.append_of_mem ho
  have:=Y1 a o b
  rw[← hd] at this
  omega)
 unfold zgw
 generalize (d.ops.any fun o=>!zcR s d n o)=x1 at *
 obtain⟨sd,sq,sm⟩:=s
 have hcd:zX d=[.sl .no 5 (cOs d.ops),.sl .no 4 (cFs d.frags)]:=rfl
 simp only[zr,hcd] at r1 ⊢
 refine zi.go ir21 ck21 (Al4 _) fun KP Q hQ=>?_
 by_cases h1:18≤n
 case neg =>
  simp(disch:=omega) only[ir21,h1,go_sem]
  exact hQ _ _ _ _ nofun rfl (by simp[zd,ze,AV.strip,AV.strip1,h1])
 by_cases h2:n≤21
 case neg =>
  simp(disch:=omega) only[ir21,h1,h2,go_sem]
  exact hQ _ _ _ _ nofun rfl (by simp[zd,ze,AV.strip,AV.strip1,h1,h2])
 simp(disch:=omega) only[ir21,h1,h2,go_sem]
 refine za r1 ?_
 simp(disch:=omega) only[go_sem]
 exact hQ _ _ _ _ nofun rfl (by simp[zd,ze,AV.strip,AV.strip1,h1,h2])
theorem zpV (x:SelD):zi Tryz.prog 114 [.agg (cS x)] (.str (zfy x)):=by
 obtain⟨k,al,nm,args,dirs,on,sels⟩:=x
 rw[y6]
 refine zi.go ir114 ck114 (Al4 _) fun KP Q hQ=>?_
 by_cases h0:k=0
 case neg =>
  simp(disch:=omega) only[ir114,h0,go_sem]
  exact hQ _ _ _ _ nofun rfl (by simp[zd,ze,AV.strip,AV.strip1,zfy,h0])
 subst h0
 by_cases ha:al=[]
 ·have ha':=eq_true ha
  simp(disch:=omega) only[ir114,ha',go_sem]
  exact hQ _ _ _ _ nofun rfl (by simp[zd,ze,AV.strip,AV.strip1,zfy,ha])
 ·simp(disch:=omega) only[ir114,ha,go_sem]
  exact hQ _ _ _ _ nofun rfl (by simp[zd,ze,AV.strip,AV.strip1,zfy,ha])
theorem zty (s:SchD) (a b:TyD) (hl:s.defs.length≤Lim):zi Tryz.prog 207 [.agg (zr s),.agg (cTy a),.agg (cTy b)] (.bool (zhH s a b)):=by
 have h1:=ziV s a.nm hl
 have h2:=ziV s b.nm hl
 have h3:=zfU s a.nm hl
 have h4:=zfU s b.nm hl
 have e0:zhH s a b=(decide (a.lists=b.lists)&&decide (a.musts=b.musts)&&(if zao s a.nm||zao s b.nm then decide (a.nm=b.nm) else ZT s a.nm&&ZT s b.nm)):=rfl
 generalize zhH s a b=F at *
 generalize zao s a.nm=x1 at *
 generalize zao s b.nm=x2 at *
 generalize ZT s a.nm=x3 at *
 generalize ZT s b.nm=x4 at *
 obtain⟨a1,a2,a3⟩:=a
 obtain⟨b1,b2,b3⟩:=b
 obtain⟨sd,sq,sm⟩:=s
 simp only[zr,cTy] at h1 h2 h3 h4 e0 ⊢
 refine zi.go ir207 ck207 (Al4 _) fun KP Q hQ=>?_
 by_cases z2:a2=b2
 case neg =>
  simp(disch:=omega) only[ir207,z2,go_sem]
  exact hQ _ _ _ _ nofun rfl (by simp[zd,ze,AV.strip,AV.strip1,e0,z2])
 by_cases z3:a3=b3
 case neg =>
  simp(disch:=omega) only[ir207,z2,z3,go_sem]
  exact hQ _ _ _ _ nofun rfl (by simp[zd,ze,AV.strip,AV.strip1,e0,z3])
 have z2':=eq_true z2
 have z3':=eq_true z3
 simp only[z2,z3,decide_true,Bool.true_and] at e0
 simp(disch:=omega) only[ir207,z2',z3',go_sem]
 refine za h1 ?_
 cases x1 with
 | true =>
  simp(disch:=omega) only[go_sem]
  exact hQ _ _ _ _ nofun rfl (by simp[zd,ze,AV.strip,AV.strip1,e0])
 | false =>
 simp(disch:=omega) only[go_sem]
 refine za h2 ?_
 cases x2 with
 | true =>
  simp(disch:=omega) only[go_sem]
  exact hQ _ _ _ _ nofun rfl (by simp[zd,ze,AV.strip,AV.strip1,e0])
 | false =>
 simp(disch:=omega) only[go_sem]
 refine za h3 ?_
 cases x3 with
 | false =>
  simp(disch:=omega) only[go_sem]
  exact hQ _ _ _ _ nofun rfl (by simp[zd,ze,AV.strip,AV.strip1,e0])
 | true =>
 simp(disch:=omega) only[go_sem]
 refine za h4 ?_
 simp(disch:=omega) only[go_sem]
 exact hQ _ _ _ _ nofun rfl (by simp[zd,ze,AV.strip,AV.strip1,e0])
noncomputable def zoO (b:List Mem) (m:Mem):Bool:=(zbA (mN m) b).2&&eqd (vM m) (zbA (mN m) b).1
noncomputable def zdq (a b:List Mem):Bool:=a.all (zoO b)&&decide (a.length=b.length)
theorem ztv (a b:List Mem) (ha:bMs a≤Lim) (hb:bMs b≤Lim):zi Tryz.prog 154 [.sl .no 6 (cMs a),.sl .no 6 (cMs b)] (.bool (zdq a b)):=by
 have l1:=y0 a
 have l2:=y0 b
 have hal:=y9 a
 have hbl:=y9 b
 have ha':=ha
 have hb':=hb
 simp only[Lim] at ha' hb'
 have hG:=fun n=>zqR n b (by omega)
 have hS:∀ x∈a,∀ u,zi Tryz.prog 208 [.agg (cV (vM x)),.agg (cV u)] (.bool (eqd (vM x) u)):=fun x hx u=>by
  obtain⟨n,v⟩:=x
  have:=zdX hx
  exact znC v (by omega) u
 refine zi.go ir154 ck154 (Al4 _) fun KP Q hQ=>?_
 simp(disch:=omega) only[ir154,l1,go_sem]
 refine zf a 11 (fun _:Unit=>[]) (fun done rest _ H=>rest.all (zoO b)=a.all (zoO b)) () (by simp(disch:=omega) only[go_sem]) rfl ?_ ?_
 ·rintro _ H J hn hlt
  have e0:zdq a b=decide ((a.length:Int)=b.length):=by
   rw[zdq,← hn]
   simp only[List.all_nil,Bool.true_and]
   exact decide_eq_decide.2 (by omega)
  simp(disch:=omega) only[l1,hlt,l2,go_sem]
  exact hQ _ _ _ _ nofun rfl (by simp[zd,ze,AV.strip,AV.strip1,e0])
 ·rintro done x rest _ H J hd hlt _ hn hJ
  have hg:=Zu hd
  have hx:=hS x (by rw[hd];simp)
  rw[List.all_cons] at hn
  have e1:zoO b x=((zbA (mN x) b).2&&eqd (vM x) (zbA (mN x) b).1):=rfl
  generalize zoO b x=y at *
  obtain⟨xn,xv⟩:=x
  simp only[mN,vM] at e1 hx
  have hgx:=hG xn
  replace hx:=hx (zbA xn b).1
  generalize (zbA xn b).2=y2 at *
  generalize (zbA xn b).1=u at *
  generalize eqd xv u=y3 at *
  obtain⟨xk,xq,xs,xl,xml⟩:=xv
  obtain⟨uk,uq,us,ul,uml⟩:=u
  rw[zu,yj] at hg
  rw[yj,yj] at hx
  rw[yj] at hgx
  simp(disch:=omega) only[l1,hlt,hg,go_sem]
  refine zc fun b6 hb6=>?_
  simp(disch:=omega) only[go_sem]
  refine za hgx ?_
  cases y2 with
  | false =>
   have e0:zdq a b=false:=by rw[zdq,← hn,e1];rfl
   simp(disch:=omega) only[go_sem]
   refine zc fun b7 hb7=>?_
   simp(disch:=omega) only[go_sem]
   exact hQ _ _ _ _ nofun rfl (by simp[zd,ze,AV.strip,AV.strip1,e0])
  | true =>
   simp(disch:=omega) only[go_sem]
   refine zc fun b7 hb7=>?_
   have hne:b6≠b7:=fun e=>by subst e;simp[zb.upd] at hb7
   simp(disch:=omega) only[hne,Ne.symm hne,go_sem]
   refine za hx ?_
   cases y3 with
   | false =>
    have e0:zdq a b=false:=by rw[zdq,← hn,e1];rfl
    simp(disch:=omega) only[go_sem]
    exact hQ _ _ _ _ nofun rfl (by simp[zd,ze,AV.strip,AV.strip1,e0])
   | true =>
    rw[e1] at hn
    simp(disch:=omega) only[go_sem]
    exact goJ (hJ () _ (by simpa using hn)) (by simp(disch:=omega) only[wrap64,go_sem])
def cSn (l:List (List UInt8)):List (AV×AV):=l.map fun n=>(.str n,.bool true)
def cFr (fr:List (List UInt8×List ItD)):List (AV×AV):=fr.map fun e=>(.str e.1,.sl .no 10 (yK e.2))
def cPr (l:PrS):List (AV×AV):=l.map fun e=>(.agg [.int .i64 e.1.1,.int .i64 e.1.2],.bool e.2)
theorem zde {H H':zb} {o:Own} {n sz:Nat} (h:ya H o n sz) (hk:∀ c k z,H c=some (.tip k z)→H' c=some (.tip k z)):ya H' o n sz:=by
 cases o with
 | tip c d=>exact hk c _ _ h
 | no=>exact h
 | nil=>exact h
 | full=>exact h
structure ItK (H:zb) (b:Nat) (c0:List AV) (no':Nat) (tl:List AV) (H':zb) (o:Own) (n:Nat):Prop where
 own:ya H' o n 10
 look:H' b=some (.cells (c0++.int .i64 no'::tl))
 kept:∀ c x,H c=some x→c≠b→H' c=some x
 new:∀ c d,o=.tip c d→H c=none
theorem zsV (s:SchD) (hs:zN s≤Lim) (b:Nat) (m1 m2 m3:AV):∀ c:Nat,∀(l:List SelD) (typ:List UInt8) (no:Nat) (H:zb),bSs l≤c→no+c≤1073741824→H b=some (.cells (zr s++.int .i64 no::[m1,m2,m3])) →
  zj Tryz.prog 65 [.ptr b 0,.str typ,.sl .no 7 (cSs l)] H (fun e H'=>match e with|.ret v=>∃ o,v=.sl o 10 (yK (Zp s l typ no).1)∧ItK H b (zr s) (Zp s l typ no).2 [m1,m2,m3] H' o (Zp s l typ no).1.length|.pan _=>False):=by
 intro c
 induction c using Nat.strongRecOn with
 | _ c ih =>
 intro l typ no H hc hno hb
 have l1:=YJ l
 have hll:=YA l
 have hwith:=fun x=>zfP s typ x hs
 have hno1:=fun l no=>zdf s l typ no
 have hno2:=zdf s
 have eN:Zp s [] typ=fun no=>([],no):=by funext no;simp[Zp]
 have eC:∀ x r no,Zp s (x::r) typ no=((itS s x typ no).1::(Zp s r typ (itS s x typ no).2).1,(Zp s r typ (itS s x typ no).2).2):=fun x r no=>by simp only[Zp]
 have eX:∀ k al nm args dirs on sels no,itS s (.mk k al nm args dirs on sels) typ no=(.mk (no+1) (.mk k al nm args dirs on sels) typ (Zp s sels (yZ s typ (.mk k al nm args dirs on sels)) (no+1)).1,(Zp s sels (yZ s typ (.mk k al nm args dirs on sels)) (no+1)).2):=fun k al nm args dirs on sels no=>by simp only[itS]
 have hlen:=zka s l typ no
 generalize hF:Zp s l typ no=F at *
 obtain⟨sd,sq,sm⟩:=s
 generalize hS:(⟨sd,sq,sm⟩:SchD)=s at *
 have hcs:zr s=[.sl .no 6 (cEs sd),.str sq,.str sm]:=by rw[← hS];rfl
 simp only[hcs,Al6,zdC] at hwith ih hb ⊢
 refine zj.goO ir65 ck65 (Al4 _) fun KP Q hQ hP=>?_
 simp(disch:=omega) only[ir65,l1,go_sem]
 refine zf l 13 (fun x:Own×List ItD×Nat=>[(7,.sl x.1 10 (yK x.2.1))]) (fun done rest x H'=>(x.2.1++(Zp s rest typ x.2.2).1,(Zp s rest typ x.2.2).2)=F∧x.2.1.length=done.length∧x.2.2≤no+bSs done∧ItK H b [.sl .no 6 (cEs sd),.str sq,.str sm] x.2.2 [m1,m2,m3] H' x.1 x.2.1.length) (.nil,[],no) (by simp(disch:=omega) only[yK,go_sem]) ⟨by simpa using hF,rfl,by simp[bSs],rfl,hb,fun c x hc _=>hc,fun c d e=>by cases e⟩ ?_ ?_
 ·rintro⟨o1,a,n1⟩ H1 J ⟨hn,hal,hle,hk⟩ hlt
  simp only[eN,List.append_nil] at hn
  subst hn
  simp(disch:=omega) only[l1,hlt,go_sem]
  exact hQ _ _ H1 H1 [.sl o1 10 (yK a)] nofun rfl (Low.refl _) ⟨o1,rfl,hk⟩
 ·rintro done x rest ⟨o1,a,n1⟩ H1 J hd hlt hlt2 ⟨hn,hal,hle,hk⟩ hJ
  have hg:=zab hd
  have hbm:=zbf done x rest
  rw[← hd] at hbm
  have hb1:bSs (done++[x])=bSs done+bS x:=by rw[zlV];simp[bSs]
  have hdl:=YA done
  simp only[eC] at hn
  simp only at hal hle
  obtain⟨ko,kl,kk,kn⟩:=hk
  simp only at ko kl kk kn
  obtain⟨k,al,nm,args,dirs,on,sels⟩:=x
  simp only[eX] at hn
  have hw:=hwith (.mk k al nm args dirs on sels)
  simp only[bS] at hbm hb1
  rw[y6] at hg hw
  generalize hty:yZ s typ (.mk k al nm args dirs on sels)=ty2 at *
  have hih:=fun H' h=>ih (bSs sels) (by omega) sels ty2 (n1+1) H' (Al4 _) (by omega) h
  have hn2:=hno2 sels ty2 (n1+1)
  generalize hG:Zp s sels ty2 (n1+1)=G at *
  have hx1:(bS (.mk k al nm args dirs on sels))=1+al.length+nm.length+on.length+bMs args+bDs dirs+bSs sels:=rfl
  simp(disch:=omega) only[l1,hlt,hg,go_sem]
  refine zc fun b9 hb9=>?_
  have hne:b≠b9:=fun e=>by subst e;rw[kl] at hb9;cases hb9
  simp only[Al6,zdC] at kl
  simp(disch:=omega) only[kl,hne,Ne.symm hne,wrap64,go_sem]
  refine za hw ?_
  simp(disch:=omega) only[kl,hne,Ne.symm hne,go_sem]
  refine yH (XP:=fun _ _=>False) (hih _ (by simp[zb.upd,hne,splice])) (fun v H2 ⟨o2,e2,hk2⟩=>?_) (fun _ _ h=>h.elim)
  subst e2
  obtain⟨jo,jl,jk,jn⟩:=hk2
  simp only[Al6,zdC] at jl
  have j9:H2 b9=some (.cells [.int .i64 k,.str al,.str nm,.sl .no 6 (cMs args),.sl .no 2 (cDs dirs),.str on,.sl .no 7 (cSs sels)]):=jk b9 _ (by simp[zb.upd,hne,Ne.symm hne]) (Ne.symm hne)
  have jt:∀ c k z,H1 c=some (.tip k z)→H2 c=some (.tip k z):=fun c k z h=>by
   have n1:c≠b:=fun e=>by subst e;rw[kl] at h;cases h
   have n2:c≠b9:=fun e=>by subst e;rw[hb9] at h;cases h
   exact jk c _ (by simp only[zb.upd,n1,n2,if_false];exact h) n1
  have jow:=zde ko jt
  have h3:=Yj a
  simp(disch:=omega) only[jl,j9,hne,Ne.symm hne,go_sem]
  refine zw (by rw[h3];exact jow) ?_ ?_ fun o' H3 hs3=>?_
  ·simp only[h3,Al2,Al3];omega
  ·simp only[h3,Al2,Al3,maxLen];omega
  simp only[h3,Al2,Al3,Nat.zero_add] at hs3
  have e1:yK a++[[.int .i64 ((n1:Int)+1),.int .i64 k,.str al,.str nm,.sl .no 6 (cMs args),.sl .no 2 (cDs dirs),.str on,.sl .no 7 (cSs sels),.str typ,.sl .no 10 (yK G.1)]]=yK (a++[.mk (n1+1) (.mk k al nm args dirs on sels) typ G.1]):=by
   rw[← zcT,zjq,ZC];rfl
  have hk3:ItK H b [.sl .no 6 (cEs sd),.str sq,.str sm] G.2 [m1,m2,m3] H3 o' (a.length+1):=by
   refine⟨hs3.own,hs3.kept b _ jl (zeZ jow jl),fun c x hc hcb=>?_,fun c d e=>?_⟩
   ·have c1:=kk c x hc hcb
    have n2:c≠b9:=fun e=>by subst e;rw[hb9] at c1;cases c1
    have c2:=jk c x (by simp only[zb.upd,hcb,n2,if_false];exact c1) hcb
    exact hs3.kept c x c2 fun d e=>by rw[kn c d e] at hc;cases hc
   ·rcases hs3.new c d e with h|⟨d0,h⟩
    ·cases hx:H c with
     | none=>rfl
     | some x =>
      by_cases hcb:c=b
      ·subst hcb;rw[jl] at h;cases h
      ·have c1:=kk c x hx hcb
       have n2:c≠b9:=fun e=>by subst e;rw[hb9] at c1;cases c1
       rw[jk c x (by simp only[zb.upd,hcb,n2,if_false];exact c1) hcb] at h;cases h
    ·exact kn c d0 h
  simp(disch:=omega) only[wrap64,e1,go_sem]
  exact goJ (hJ (o',a++[.mk (n1+1) (.mk k al nm args dirs on sels) typ G.1],G.2) H3 ⟨by simpa[zdn] using hn,by simp[hal],by simp only;omega,by simpa using hk3⟩) (by simp(disch:=omega) only[wrap64,go_sem])
theorem zk8 (a b:List UInt8):(AV.str a).keq (.str b)=decide (a=b):=by
 show (a==b)=_
 by_cases h:a=b<;>simp[h]
theorem zln (n:List UInt8):∀ l,zaC (cSn l) (.str n)=if yu n l=true then some (.bool true) else none
 | []=>rfl
 | x::r=>by
  have:=zln n r
  simp only[cSn] at this
  simp only[cSn,List.map_cons,zaC,zk8,yu,this]
  by_cases h:n=x
  ·subst h;simp
  ·have h':¬ x=n:=fun e=>h e.symm
   simp[h,h']
theorem zlj (n:List UInt8):∀ l,yu n l=false→zba (cSn l) (.str n) (.bool true)=cSn (l++[n])
 | [],_=>rfl
 | x::r,h=>by
  simp only[yu] at h
  split at h
  ·cases h
  ·rename_i hx
   have hx':¬ n=x:=fun e=>hx e.symm
   have:=zlj n r h
   simp only[cSn] at this
   simp only[cSn,List.map_cons,zba,zk8,hx',decide_false,Al7,if_false,this,Al6]
theorem zlz (n:List UInt8):∀ fr:List (List UInt8×List ItD),(zaC (cFr fr) (.str n)=none∧frL fr n=[])∨zaC (cFr fr) (.str n)=some (.sl .no 10 (yK (frL fr n)))
 | []=>.inl ⟨rfl,rfl⟩
 | (a,u)::r=>by
  have:=zlz n r
  simp only[cFr,frL] at this
  simp only[cFr,frL,List.map_cons,zaC,zk8,List.find?_cons]
  by_cases h:n=a
  ·simp[h]
  ·simpa[h] using this
structure FlK (H:zb) (bm:Nat) (seen':List (List UInt8)) (H':zb) (o:Own) (n:Nat):Prop where
 own:ya H' o n 10
 seen:H' bm=some (.map (.one .s) (cSn seen'))
 kept:∀ c x,H c=some x→c≠bm→H' c=some x
 new:∀ c d,o=.tip c d→H c=none
theorem FlK.beside {H H1 H2:zb} {bm n n2:Nat} {s1 s2:List (List UInt8)} {o o2:Own} (h:FlK H bm s1 H1 o n) (h':FlK H1 bm s2 H2 o2 n2):FlK H bm s2 H2 o n:=by
 refine⟨zde h.own fun c k z hc=>h'.kept c _ hc fun e=>?_,h'.seen,fun c x hc hn=>h'.kept c x (h.kept c x hc hn) hn,h.new⟩
 subst e;rw[h.seen] at hc;cases hc
theorem FlK.upd {H H1:zb} {bm n b:Nat} {s1:List (List UInt8)} {o:Own} {x:AObj} (h:FlK H bm s1 H1 o n) (hb:H1 b=none):FlK H bm s1 (H1.upd b x) o n:=by
 have hne:∀ c y,H1 c=some y→c≠b:=fun c y h e=>by subst e;rw[hb] at h;cases h
 refine⟨h.own.upd hb,?_,fun c y hc hn=>?_,h.new⟩
 ·simp only[zb.upd,hne _ _ h.seen,if_false];exact h.seen
 ·have:=h.kept c y hc hn
  simp only[zb.upd,hne _ _ this,if_false];exact this
theorem FlK.app {H H1 H2:zb} {bm n n2:Nat} {s1:List (List UInt8)} {o o2:Own} (h:FlK H bm s1 H1 o n) (h':OwnS H1 o H2 o2 n2 10):FlK H bm s1 H2 o2 n2:=by
 have hmt:∀ d,o≠.tip bm d:=fun d e=>by
  have:=h.own;subst e
  have h2:H1 bm=some (.tip (d+n) 10):=this
  rw[h.seen] at h2;cases h2
 refine⟨h'.own,h'.kept bm _ h.seen hmt,fun c x hc hn=>h'.kept c x (h.kept c x hc hn) (fun d e=>by rw[h.new c d e] at hc;cases hc),fun c d e=>?_⟩
 rcases h'.new c d e with h3|⟨d0,h3⟩
 ·cases hx:H c with
  | none=>rfl
  | some x =>
   by_cases hcb:c=bm
   ·subst hcb;rw[h.seen] at h3;cases h3
   ·rw[h.kept c x hx hcb] at h3;cases h3
 ·exact h.new c d0 h3
theorem zrj (fr:List (List UInt8×List ItD)) (b bf:Nat) (x0 x1 x2 x3 x5 x6:AV):∀ n:Nat,∀(l:List ItD) (seen:List (List UInt8)) (H:zb) (bm f:Nat),Ex fr n l→n≤f→n≤1000→H b=some (.cells [x0,x1,x2,x3,.mp bf,x5,x6])→H bf=some (.map (.one .s) (cFr fr))→H bm=some (.map (.one .s) (cSn seen))→bf≠bm →
  zj Tryz.prog 113 [.ptr b 0,.sl .no 10 (yK l),.mp bm] H (fun e H'=>match e with|.ret v=>∃ o,v=.sl o 10 (yK (flF fr f l seen).1)∧FlK H bm (flF fr f l seen).2 H' o (flF fr f l seen).1.length|.pan _=>False):=by
 intro n
 induction n using Nat.strongRecOn with
 | _ n ih =>
 intro l seen H bm f hx hf hn hb hbf hbm hne
 have l1:=Yj l
 have hll:l.length≤n:=by
  have h:∀(l:List ItD) n,Ex fr n l→l.length≤n:=by
   intro l
   induction l with
   | nil=>intro n _;simp
   | cons x r ih =>
    intro n h
    cases h with
    | cons hle h1 h2 h3 ha=>have:=ih _ h3;simp only[Al2];omega
  exact h l n hx
 have hfe:=zeA (seen:=seen) hx hf
 have hpre:∀ done rest,l=done++rest→(done.foldl (za8 (flF fr (f-1)) fr) ([],seen)).1.length≤n:=fun done rest e=>by
  have h1:Ex fr n done:=Ex.pre (b:=rest) (by rw[← e];exact hx)
  rw[← zeA h1 hf]
  exact zfE h1 hf
 have hmid:∀ done no k al nm args dirs on sels typ sub rest,l=done++.mk no (.mk k al nm args dirs on sels) typ sub::rest→∃ i j,i+j+1≤n∧Ex fr i sub∧(k=1→Ex fr j (frL fr nm)):=fun done no k al nm args dirs on sels typ sub rest e=>by
  rw[e] at hx
  exact hx.mid
 have hst:∀ acc no k al nm args dirs on sels typ sub,za8 (flF fr (f-1)) fr acc (.mk no (.mk k al nm args dirs on sels) typ sub)=if k=0 then (acc.1++[.mk no (.mk k al nm args dirs on sels) typ sub],acc.2)
   else if k=2 then (acc.1++(flF fr (f-1) sub acc.2).1,(flF fr (f-1) sub acc.2).2)
   else if k=1∧yu nm acc.2=false then (acc.1++(flF fr (f-1) (frL fr nm) (acc.2++[nm])).1,(flF fr (f-1) (frL fr nm) (acc.2++[nm])).2) else acc:=fun _ _ _ _ _ _ _ _ _ _ _=>rfl
 generalize hF:flF fr f l seen=F at *
 generalize hg':za8 (flF fr (f-1)) fr=stp at *
 have hfit:∀ s,KT.fits (.one .s) (.str s)=true:=fun _=>rfl
 refine zj.goO ir113 ck113 (Al4 _) fun KP Q hQ hP=>?_
 simp(disch:=omega) only[ir113,l1,go_sem]
 refine zf l 12 (fun x:Own×(List ItD×List (List UInt8))=>[(7,.sl x.1 10 (yK x.2.1))]) (fun done rest x H'=>x.2=done.foldl stp ([],seen)∧rest.foldl stp x.2=F∧FlK H bm x.2.2 H' x.1 x.2.1.length) (.nil,([],seen)) (by simp(disch:=omega) only[yK,go_sem]) ⟨rfl,hfe.symm,rfl,hbm,fun c x hc _=>hc,fun c d e=>by cases e⟩ ?_ ?_
 ·rintro⟨o1,a,sn⟩ H1 J ⟨_,hn1,hk⟩ hlt
  simp only[List.foldl] at hn1
  subst hn1
  simp(disch:=omega) only[l1,hlt,go_sem]
  exact hQ _ _ H1 H1 [.sl o1 10 (yK a)] nofun rfl (Low.refl _) ⟨o1,rfl,hk⟩
 ·rintro done x rest ⟨o1,a,sn⟩ H1 J hd hlt hlt2 ⟨hd1,hn1,hk⟩ hJ
  have hg:=zbL hd
  rw[List.foldl_cons] at hn1
  simp only at hd1 hn1
  replace hk:FlK H bm sn H1 o1 a.length:=hk
  have hp1:=hpre (done++[x]) rest (by rw[hd];simp)
  rw[List.foldl_append,← hd1,List.foldl_cons,List.foldl_nil] at hp1
  have hd2:stp (a,sn) x=(done++[x]).foldl stp ([],seen):=by rw[List.foldl_append,← hd1];rfl
  obtain⟨no,⟨k,al,nm,args,dirs,on,sels⟩,typ,sub⟩:=x
  obtain⟨i,j,hij,hx1,hx2⟩:=hmid done no k al nm args dirs on sels typ sub rest hd
  have hstx:=hst (a,sn) no k al nm args dirs on sels typ sub
  have hbm1:=hk.seen
  have hb1:=hk.kept b _ hb fun e=>by subst e;rw[hbm] at hb;cases hb
  have hbf1:=hk.kept bf _ hbf hne
  have h3:=Yj a
  rw[ZC] at hg
  simp(disch:=omega) only[l1,hlt,hg,go_sem]
  refine zc fun b9 hb9=>?_
  have hu:=hk.upd (x:=.cells [.int .i64 no,.int .i64 k,.str al,.str nm,.sl .no 6 (cMs args),.sl .no 2 (cDs dirs),.str on,.sl .no 7 (cSs sels),.str typ,.sl .no 10 (yK sub)]) hb9
  have n1:b≠b9:=fun e=>by subst e;rw[hb1] at hb9;cases hb9
  have n2:bf≠b9:=fun e=>by subst e;rw[hbf1] at hb9;cases hb9
  have n3:bm≠b9:=fun e=>by subst e;rw[hbm1] at hb9;cases hb9
  have c9:(H1.upd b9 (.cells [.int .i64 no,.int .i64 k,.str al,.str nm,.sl .no 6 (cMs args),.sl .no 2 (cDs dirs),.str on,.sl .no 7 (cSs sels),.str typ,.sl .no 10 (yK sub)])) b9=some (.cells [.int .i64 no,.int .i64 k,.str al,.str nm,.sl .no 6 (cMs args),.sl .no 2 (cDs dirs),.str on,.sl .no 7 (cSs sels),.str typ,.sl .no 10 (yK sub)]):=upd_same ..
  have cb:(H1.upd b9 (.cells [.int .i64 no,.int .i64 k,.str al,.str nm,.sl .no 6 (cMs args),.sl .no 2 (cDs dirs),.str on,.sl .no 7 (cSs sels),.str typ,.sl .no 10 (yK sub)])) b=some (.cells [x0,x1,x2,x3,.mp bf,x5,x6]):=by simp only[zb.upd,n1,if_false];exact hb1
  have cf:(H1.upd b9 (.cells [.int .i64 no,.int .i64 k,.str al,.str nm,.sl .no 6 (cMs args),.sl .no 2 (cDs dirs),.str on,.sl .no 7 (cSs sels),.str typ,.sl .no 10 (yK sub)])) bf=some (.map (.one .s) (cFr fr)):=by simp only[zb.upd,n2,if_false];exact hbf1
  have cm:=hu.seen
  by_cases k0:k=0
  ·have k0':=eq_true k0
   rw[if_pos k0] at hstx
   rw[hstx] at hn1 hp1 hd2
   simp only[Al5,Al2,Al3] at hp1
   simp(disch:=omega) only[k0',go_sem]
   refine zw (by rw[h3];exact hu.own) ?_ ?_ fun o' H3 hs3=>?_
   ·simp only[h3,Al2,Al3];omega
   ·simp only[h3,Al2,Al3,maxLen];omega
   simp only[h3,Al2,Al3,Nat.zero_add] at hs3
   have e1:yK a++[[.int .i64 no,.int .i64 k,.str al,.str nm,.sl .no 6 (cMs args),.sl .no 2 (cDs dirs),.str on,.sl .no 7 (cSs sels),.str typ,.sl .no 10 (yK sub)]]=yK (a++[.mk no (.mk k al nm args dirs on sels) typ sub]):=by
    rw[← zcT,zjq,ZC]
   simp(disch:=omega) only[wrap64,e1,go_sem]
   exact goJ (hJ (o',(a++[.mk no (.mk k al nm args dirs on sels) typ sub],sn)) H3 ⟨hd2,hn1,by simpa using hu.app hs3⟩) (by simp(disch:=omega) only[wrap64,go_sem])
  rw[if_neg k0] at hstx
  by_cases k2:k=2
  ·have k2':=eq_true k2
   rw[if_pos k2] at hstx
   rw[hstx] at hn1 hp1 hd2
   have hih:=ih i (by omega) sub sn _ bm (f-1) hx1 (by omega) (by omega) cb cf cm hne
   simp only[Al5] at hp1
   generalize hG:flF fr (f-1) sub sn=G at *
   have h4:=Yj G.1
   simp(disch:=omega) only[k0,k2',go_sem]
   refine yH (XP:=fun _ _=>False) hih (fun v H2 ⟨o2,e2,hk2⟩=>?_) (fun _ _ h=>h.elim)
   subst e2
   have hu2:=hu.beside hk2
   simp(disch:=omega) only[go_sem]
   refine zw (by rw[h3];exact hu2.own) ?_ ?_ fun o' H3 hs3=>?_
   ·simp only[h3,h4];omega
   ·simp only[h3,h4,maxLen];omega
   simp only[h3,h4] at hs3
   simp(disch:=omega) only[wrap64,zdA,zcT,go_sem]
   exact goJ (hJ (o',(a++G.1,G.2)) H3 ⟨hd2,hn1,by simpa using hu2.app hs3⟩) (by simp(disch:=omega) only[wrap64,go_sem])
  rw[if_neg k2] at hstx
  by_cases k1:k=1
  case neg =>
   rw[if_neg (fun h=>k1 h.1)] at hstx
   rw[hstx] at hn1 hp1 hd2
   simp(disch:=omega) only[k0,k2,k1,go_sem]
   exact goJ (hJ (o1,(a,sn)) _ ⟨hd2,hn1,hu⟩) (by simp(disch:=omega) only[wrap64,go_sem])
  have k1':=eq_true k1
  have hmg:=zln nm sn
  cases hh:yu nm sn with
  | true =>
   rw[if_neg (fun h=>by rw[hh] at h;cases h.2)] at hstx
   rw[hstx] at hn1 hp1 hd2
   rw[if_pos hh] at hmg
   simp(disch:=omega) only[k0,k2,k1',cm,n3,Ne.symm n3,hbm1,hmg,hfit,Yu,Option.getD_some,go_sem]
   exact goJ (hJ (o1,(a,sn)) _ ⟨hd2,hn1,hu⟩) (by simp(disch:=omega) only[wrap64,go_sem])
  | false =>
   rw[if_pos ⟨k1,hh⟩] at hstx
   rw[hstx] at hn1 hp1 hd2
   rw[if_neg (by rw[hh];simp)] at hmg
   have hms:=zlj nm sn hh
   have hxj:=hx2 k1
   simp only[Al5] at hp1
   generalize hH2:H1.upd b9 (.cells [.int .i64 no,.int .i64 k,.str al,.str nm,.sl .no 6 (cMs args),.sl .no 2 (cDs dirs),.str on,.sl .no 7 (cSs sels),.str typ,.sl .no 10 (yK sub)])=H2 at *
   have nbm:b≠bm:=fun e=>by subst e;rw[cb] at cm;cases cm
   have nm9:b9≠bm:=Ne.symm n3
   have cb4:(H2.upd bm (.map (.one .s) (cSn (sn++[nm])))) b=some (.cells [x0,x1,x2,x3,.mp bf,x5,x6]):=by simp only[zb.upd,nbm,if_false];exact cb
   have cf4:(H2.upd bm (.map (.one .s) (cSn (sn++[nm])))) bf=some (.map (.one .s) (cFr fr)):=by simp only[zb.upd,hne,if_false];exact cf
   have c94:(H2.upd bm (.map (.one .s) (cSn (sn++[nm])))) b9=some (.cells [.int .i64 no,.int .i64 k,.str al,.str nm,.sl .no 6 (cMs args),.sl .no 2 (cDs dirs),.str on,.sl .no 7 (cSs sels),.str typ,.sl .no 10 (yK sub)]):=by simp only[zb.upd,nm9,if_false];exact c9
   have hu4:FlK H bm (sn++[nm]) (H2.upd bm (.map (.one .s) (cSn (sn++[nm])))) o1 a.length:=by
    refine⟨zde hu.own fun c k z hc=>?_,upd_same ..,fun c x hc hn=>?_,hu.new⟩
    ·have:c≠bm:=fun e=>by subst e;rw[cm] at hc;cases hc
     simp only[zb.upd,this,if_false];exact hc
    ·simp only[zb.upd,hn,if_false];exact hu.kept c x hc hn
   have hih:=ih j (by omega) (frL fr nm) (sn++[nm]) (H2.upd bm (.map (.one .s) (cSn (sn++[nm])))) bm (f-1) hxj (by omega) (by omega) cb4 cf4 (upd_same ..) hne
   generalize hG:flF fr (f-1) (frL fr nm) (sn++[nm])=G at *
   have h4:=Yj G.1
   generalize hH4:H2.upd bm (.map (.one .s) (cSn (sn++[nm])))=H4 at *
   have call:∀ w,w=AV.sl .no 10 (yK (frL fr nm))∨(w=.sl .nil 10 []∧frL fr nm=[])→zj Tryz.prog 113 [.ptr b 0,w,.mp bm] H4 (fun e H'=>match e with|.ret v=>∃ o,v=.sl o 10 (yK G.1)∧FlK H4 bm G.2 H' o G.1.length|.pan _=>False):=fun w hw=>by
    rcases hw with rfl|⟨rfl,e⟩
    ·exact hih
    ·rw[e] at hih
     exact zj.low hih
   have fin:∀ v H5,(∃ o,v=AV.sl o 10 (yK G.1)∧FlK H4 bm G.2 H5 o G.1.length)→∃ o2,v=AV.sl o2 10 (yK G.1)∧FlK H bm G.2 H5 o1 a.length:=fun v H5 ⟨o2,e2,hk2⟩=>⟨o2,e2,hu4.beside hk2⟩
   rcases zlz nm fr with ⟨hmf,hfe2⟩|hmf
   ·simp(disch:=omega) only[k0,k2,k1',hb1,hbf1,n1,n2,Ne.symm n1,Ne.symm n2,n3,Ne.symm n3,nbm,Ne.symm nbm,hne,Ne.symm hne,hbm1,hmg,hfit,Yu,Option.getD_none,Option.getD_some,hms,hmf,go_sem]
    rw[hH2,hH4]
    refine yH (XP:=fun _ _=>False) (call _ (.inr ⟨rfl,hfe2⟩)) (fun v H5 h5=>?_) (fun _ _ h=>h.elim)
    obtain⟨o2,rfl,hu2⟩:=fin v H5 h5
    simp(disch:=omega) only[go_sem]
    refine zw (by rw[h3];exact hu2.own) ?_ ?_ fun o' H3 hs3=>?_
    ·simp only[h3,h4];omega
    ·simp only[h3,h4,maxLen];omega
    simp only[h3,h4] at hs3
    simp(disch:=omega) only[wrap64,zdA,zcT,go_sem]
    exact goJ (hJ (o',(a++G.1,G.2)) H3 ⟨hd2,hn1,by simpa using hu2.app hs3⟩) (by simp(disch:=omega) only[wrap64,go_sem])
   ·simp(disch:=omega) only[k0,k2,k1',hb1,hbf1,n1,n2,Ne.symm n1,Ne.symm n2,n3,Ne.symm n3,nbm,Ne.symm nbm,hne,Ne.symm hne,hbm1,hmg,hfit,Yu,Option.getD_none,Option.getD_some,hms,hmf,go_sem]
    rw[hH2,hH4]
    refine yH (XP:=fun _ _=>False) (call _ (.inl rfl)) (fun v H5 h5=>?_) (fun _ _ h=>h.elim)
    obtain⟨o2,rfl,hu2⟩:=fin v H5 h5
    simp(disch:=omega) only[go_sem]
    refine zw (by rw[h3];exact hu2.own) ?_ ?_ fun o' H3 hs3=>?_
    ·simp only[h3,h4];omega
    ·simp only[h3,h4,maxLen];omega
    simp only[h3,h4] at hs3
    simp(disch:=omega) only[wrap64,zdA,zcT,go_sem]
    exact goJ (hJ (o',(a++G.1,G.2)) H3 ⟨hd2,hn1,by simpa using hu2.app hs3⟩) (by simp(disch:=omega) only[wrap64,go_sem])
theorem znj (fr:List (List UInt8×List ItD)) (b bf:Nat) (x0 x1 x2 x3 x5 x6:AV) (y:ItD) (H:zb) (n:Nat) (hx:Ex fr n y.sub) (hn:n≤64) (hb:H b=some (.cells [x0,x1,x2,x3,.mp bf,x5,x6])) (hbf:H bf=some (.map (.one .s) (cFr fr))) :
  zj Tryz.prog 209 [.ptr b 0,.agg (cIt y)] H (fun e H'=>match e with|.ret v=>∃ o,v=.sl o 10 (yK (Zd fr y))∧∀ c x,H c=some x→H' c=some x|.pan _=>False):=by
 have hfl:=fun H bm hb hbf hbm hne=>zrj fr b bf x0 x1 x2 x3 x5 x6 n y.sub [] H bm 64 hx hn (by omega) hb hbf hbm hne
 have e0:Zd fr y=(flF fr 64 y.sub []).1:=rfl
 generalize flF fr 64 y.sub []=G at *
 rw[e0]
 obtain⟨no,⟨k,al,nm,args,dirs,on,sels⟩,typ,sub⟩:=y
 simp only[ItD.sub] at hfl
 rw[ZC]
 refine zj.goO ir209 ck209 (Al4 _) fun KP Q hQ hP=>?_
 simp(disch:=omega) only[ir209,go_sem]
 refine zc fun bm hbm=>?_
 have n1:b≠bm:=fun e=>by subst e;rw[hb] at hbm;cases hbm
 have n2:bf≠bm:=fun e=>by subst e;rw[hbf] at hbm;cases hbm
 simp(disch:=omega) only[go_sem]
 refine yH (XP:=fun _ _=>False) (hfl _ bm (by simp only[zb.upd,n1,if_false];exact hb) (by simp only[zb.upd,n2,if_false];exact hbf) (upd_same ..) n2) (fun v H2 ⟨o2,e2,hk⟩=>?_) (fun _ _ h=>h.elim)
 subst e2
 simp(disch:=omega) only[go_sem]
 exact hQ _ _ H2 H2 [.sl o2 10 (yK G.1)] nofun rfl (Low.refl _) ⟨o2,rfl,fun c x hc=>by
  have hn:c≠bm:=fun e=>by subst e;rw[hbm] at hc;cases hc
  exact hk.kept c x (by simp only[zb.upd,hn,if_false];exact hc) hn⟩
theorem zuf (i j k l:Nat):(AV.agg [.int .i64 i,.int .i64 j]).keq (.agg [.int .i64 k,.int .i64 l])=decide ((i,j)=(k,l)):=by
 show (((i:Int)==k)&&(((j:Int)==l)&&true))=_
 by_cases h1:i=k<;>by_cases h2:j=l<;>simp[h1,h2]
 all_goals omega
theorem zik (i j:Nat):∀ l:PrS,zaC (cPr l) (.agg [.int .i64 i,.int .i64 j])=(zen l (i,j)).map AV.bool
 | []=>rfl
 | ((a,c),u)::r=>by
  have:=zik i j r
  simp only[cPr,zen] at this
  simp only[cPr,zen,List.map_cons,zaC,zuf,this,List.find?_cons]
  by_cases h:(i,j)=(a,c)
  ·simp[h]
  ·simp[h]
theorem ziA (i j:Nat) (v:Bool):∀ l:PrS,zba (cPr l) (.agg [.int .i64 i,.int .i64 j]) (.bool v)=cPr (ZZ l (i,j) v)
 | []=>rfl
 | ((a,c),u)::r=>by
  have:=ziA i j v r
  simp only[cPr] at this
  simp only[cPr,ZZ,List.map_cons,zba,zuf,this]
  by_cases h:(i,j)=(a,c)
  ·obtain⟨rfl,rfl⟩:=Prod.mk.inj h
   simp
  ·simp[h]
abbrev kPr:KT:=.agg [.i .i64,.i .i64]
structure LkH (s:SchD) (fr:List (List UInt8×List ItD)) (b bf bs bp no:Nat) (S:yT) (H:zb):Prop where
 look:H b=some (.cells (zr s++[.int .i64 no,.mp bf,.mp bs,.mp bp]))
 frs:H bf=some (.map (.one .s) (cFr fr))
 sh:H bs=some (.map kPr (cPr S.1))
 pr:H bp=some (.map kPr (cPr S.2))
 ne:bs≠bp
def LkK (bs bp:Nat) (H H':zb):Prop:=∀ c x,H c=some x→c≠bs→c≠bp→H' c=some x
theorem LkH.keep {s:SchD} {fr:List (List UInt8×List ItD)} {b bf bs bp no:Nat} {S:yT} {H H':zb} (h:LkH s fr b bf bs bp no S H) (hk:∀ c x,H c=some x→H' c=some x):LkH s fr b bf bs bp no S H' :=
 ⟨hk _ _ h.look,hk _ _ h.frs,hk _ _ h.sh,hk _ _ h.pr,h.ne⟩
theorem LkK.trans {bs bp:Nat} {H H1 H2:zb} (h:LkK bs bp H H1) (h':LkK bs bp H1 H2):LkK bs bp H H2:=fun c x hc n1 n2=>h' c x (h c x hc n1 n2) n1 n2
theorem LkK.upd {bs bp:Nat} {H H1:zb} (h:LkK bs bp H H1) {c:Nat} {x:AObj} (hc:H1 c=none):LkK bs bp H (H1.upd c x):=fun d y hd n1 n2=>by
 have:=h d y hd n1 n2
 have hne:d≠c:=fun e=>by subst e;rw[hc] at this;cases this
 simp only[zb.upd,hne,if_false];exact this
theorem ZA {H:zb} {c:Nat} {x:AObj} (hc:H c=none):∀ d y,H d=some y→(H.upd c x) d=some y:=fun d y hd=>by
 have hne:d≠c:=fun e=>by subst e;rw[hc] at hd;cases hd
 simp only[zb.upd,hne,if_false];exact hd
def ze6 (s:SchD) (fr:List (List UInt8×List ItD)) (b bf bs bp no:Nat) (gf:FuncId) (g:ItD→ItD→yT→Bool×yT) (x y:ItD):Prop :=
 ∀ S H,LkH s fr b bf bs bp no S H→zj Tryz.prog gf [.ptr b 0,.agg (cIt x),.agg (cIt y)] H (fun e H'=>match e with|.ret v=>v=.bool (g x y S).1∧LkH s fr b bf bs bp no (g x y S).2 H'∧LkK bs bp H H'|.pan _=>False)
theorem zcV (x:ItD):∃ no k al nm args dirs on sels typ sub,x=.mk no (.mk k al nm args dirs on sels) typ sub:=by
 obtain⟨no,⟨k,al,nm,args,dirs,on,sels⟩,typ,sub⟩:=x
 exact⟨_,_,_,_,_,_,_,_,_,_,rfl⟩
theorem zlH (s:SchD) (fr:List (List UInt8×List ItD)) (b bf bs bp no:Nat) (gf:FuncId) (g:ItD→ItD→yT→Bool×yT) (x y:ItD) (n m:Nat) (hcl:Program.callable Tryz.prog gf=true) (hx:Ex fr n x.sub) (hn:n≤64) (hy:Ex fr m y.sub) (hm:m≤64)
  (hg:∀ u∈Zd fr x,∀ v∈Zd fr y,ze6 s fr b bf bs bp no gf g u v) (S:yT) (H:zb) (hH:LkH s fr b bf bs bp no S H) :
  zj Tryz.prog 155 [.ptr b 0,.agg (cIt x),.agg (cIt y),.clo gf [.ptr b 0] []] H (fun e H'=>match e with|.ret v=>v=.bool (zaE g (Zd fr x) (Zd fr y) S).1∧LkH s fr b bf bs bp no (zaE g (Zd fr x) (Zd fr y) S).2 H'∧LkK bs bp H H'|.pan _=>False):=by
 obtain⟨sd,sq,sm⟩:=s
 have hbx:=fun H hb hbf=>znj fr b bf (.sl .no 6 (cEs sd)) (.str sq) (.str sm) (.int .i64 no) (.mp bs) (.mp bp) x H n hx hn hb hbf
 have hby:=fun H hb hbf=>znj fr b bf (.sl .no 6 (cEs sd)) (.str sq) (.str sm) (.int .i64 no) (.mp bs) (.mp bp) y H m hy hm hb hbf
 have lx:=zfE (seen:=[]) hx hn
 have ly:=zfE (seen:=[]) hy hm
 rw[show (flF fr 64 x.sub []).1=Zd fr x from rfl] at lx
 rw[show (flF fr 64 y.sub []).1=Zd fr y from rfl] at ly
 generalize Zd fr x=la at *
 generalize Zd fr y=lb at *
 have l1:=Yj la
 have l2:=Yj lb
 generalize hF:zaE g la lb S=F at *
 obtain⟨xno,xk,xal,xnm,xargs,xdirs,xon,xsels,xtyp,xsub,rfl⟩:=zcV x
 obtain⟨yno,yk,yal,ynm,yargs,ydirs,yon,ysels,ytyp,ysub,rfl⟩:=zcV y
 rw[ZC] at hbx hby
 rw[ZC,ZC]
 have fin:∀ r S' H',F=(r,S')→LkH ⟨sd,sq,sm⟩ fr b bf bs bp no S' H'→LkK bs bp H H'→(AV.bool r=.bool F.1∧LkH ⟨sd,sq,sm⟩ fr b bf bs bp no F.2 H'∧LkK bs bp H H'):=fun r S' H' e h1 h2=>by rw[e];exact⟨rfl,h1,h2⟩
 refine zj.goO ir155 ck155 (Al4 _) fun KP Q hQ hP=>?_
 simp(disch:=omega) only[ir155,go_sem]
 refine yH (XP:=fun _ _=>False) (hby _ hH.look hH.frs) (fun v H1 ⟨o1,e1,hk1⟩=>?_) (fun _ _ h=>h.elim)
 subst e1
 have hH1:=hH.keep hk1
 simp(disch:=omega) only[go_sem]
 refine yH (XP:=fun _ _=>False) (hbx _ hH1.look hH1.frs) (fun v H2 ⟨o2,e2,hk2⟩=>?_) (fun _ _ h=>h.elim)
 subst e2
 have hH2:=hH1.keep hk2
 simp(disch:=omega) only[l1,go_sem]
 refine zf la 21 (fun _:yT=>[]) (fun done rest S' H'=>zaE g rest lb S'=F∧LkH ⟨sd,sq,sm⟩ fr b bf bs bp no S' H'∧LkK bs bp H H') S (by simp(disch:=omega) only[go_sem]) ⟨hF,hH2,fun c x hc _ _=>hk2 c x (hk1 c x hc)⟩ ?_ ?_
 ·rintro S3 H3 J ⟨hn3,hH3,hK3⟩ hlt
  simp only[zaE] at hn3
  simp(disch:=omega) only[l1,hlt,go_sem]
  exact hQ _ _ H3 H3 [.bool true] nofun rfl (Low.refl _) (fin _ _ _ hn3.symm hH3 hK3)
 ·rintro done x rest S3 H3 J hd hlt _ ⟨hn3,hH3,hK3⟩ hJ
  have hg1:=zbL hd
  have hxm:x∈la:=by rw[hd];simp
  simp only[zaE] at hn3
  have hkx:=zpV x.x
  have hgx:=hg x hxm
  generalize hR:zk5 g x lb S3=R at *
  obtain⟨xno,xk,xal,xnm,xargs,xdirs,xon,xsels,xtyp,xsub,rfl⟩:=zcV x
  simp only[ItD.x] at hkx
  rw[ZC] at hg1
  rw[y6] at hkx
  simp(disch:=omega) only[l1,hlt,hg1,go_sem]
  refine zc fun b11 hb11=>?_
  have hH4:=hH3.keep (ZA (x:=.cells [.int .i64 xno,.int .i64 xk,.str xal,.str xnm,.sl .no 6 (cMs xargs),.sl .no 2 (cDs xdirs),.str xon,.sl .no 7 (cSs xsels),.str xtyp,.sl .no 10 (yK xsub)]) hb11)
  have hK4:=hK3.upd (x:=.cells [.int .i64 xno,.int .i64 xk,.str xal,.str xnm,.sl .no 6 (cMs xargs),.sl .no 2 (cDs xdirs),.str xon,.sl .no 7 (cSs xsels),.str xtyp,.sl .no 10 (yK xsub)]) hb11
  have ns:b11≠bs:=fun e=>by subst e;rw[hH3.sh] at hb11;cases hb11
  have np:b11≠bp:=fun e=>by subst e;rw[hH3.pr] at hb11;cases hb11
  simp(disch:=omega) only[l2,go_sem]
  refine zf lb 27 (fun _:yT=>[]) (fun done rest S' H'=>zk5 g (.mk xno (.mk xk xal xnm xargs xdirs xon xsels) xtyp xsub) rest S'=R∧LkH ⟨sd,sq,sm⟩ fr b bf bs bp no S' H'∧LkK bs bp H H'∧H' b11=some (.cells [.int .i64 xno,.int .i64 xk,.str xal,.str xnm,.sl .no 6 (cMs xargs),.sl .no 2 (cDs xdirs),.str xon,.sl .no 7 (cSs xsels),.str xtyp,.sl .no 10 (yK xsub)])) S3 (by simp(disch:=omega) only[go_sem]) ⟨hR,hH4,hK4,upd_same ..⟩ ?_ ?_
  ·rintro S5 H5 J2 ⟨hn5,hH5,hK5,_⟩ hlt2
   simp only[zk5] at hn5
   rw[← hn5] at hn3
   simp only at hn3
   simp(disch:=omega) only[l2,hlt2,go_sem]
   exact goJ (hJ S5 H5 ⟨hn3,hH5,hK5⟩) (by simp(disch:=omega) only[wrap64,go_sem])
  ·rintro done2 y rest2 S5 H5 J2 hd2 hlt2 _ ⟨hn5,hH5,hK5,c11⟩ hJ2
   have hg2:=zbL hd2
   have hym:y∈lb:=by rw[hd2];simp
   have hgy:=hgx y hym
   have hky:=zpV y.x
   simp only[zk5] at hn5
   generalize hG:g (.mk xno (.mk xk xal xnm xargs xdirs xon xsels) xtyp xsub) y S5=G at *
   obtain⟨yno,yk,yal,ynm,yargs,ydirs,yon,ysels,ytyp,ysub,rfl⟩:=zcV y
   simp only[ItD.x] at hky hn5
   rw[ZC] at hg2
   rw[y6] at hky
   simp(disch:=omega) only[l2,hlt2,hg2,go_sem]
   refine zc fun b13 hb13=>?_
   have hne:b11≠b13:=fun e=>by subst e;rw[c11] at hb13;cases hb13
   have hH6:=hH5.keep (ZA (x:=.cells [.int .i64 yno,.int .i64 yk,.str yal,.str ynm,.sl .no 6 (cMs yargs),.sl .no 2 (cDs ydirs),.str yon,.sl .no 7 (cSs ysels),.str ytyp,.sl .no 10 (yK ysub)]) hb13)
   have hK6:=hK5.upd (x:=.cells [.int .i64 yno,.int .i64 yk,.str yal,.str ynm,.sl .no 6 (cMs yargs),.sl .no 2 (cDs ydirs),.str yon,.sl .no 7 (cSs ysels),.str ytyp,.sl .no 10 (yK ysub)]) hb13
   have c11':=ZA (x:=.cells [.int .i64 yno,.int .i64 yk,.str yal,.str ynm,.sl .no 6 (cMs yargs),.sl .no 2 (cDs ydirs),.str yon,.sl .no 7 (cSs ysels),.str ytyp,.sl .no 10 (yK ysub)]) hb13 _ _ c11
   simp(disch:=omega) only[c11,hne,Ne.symm hne,go_sem]
   refine za hkx ?_
   simp(disch:=omega) only[c11,hne,Ne.symm hne,go_sem]
   refine za hky ?_
   by_cases hkk:zfy (.mk xk xal xnm xargs xdirs xon xsels)=zfy (.mk yk yal ynm yargs ydirs yon ysels)
   case neg =>
    simp only[hkk,if_false] at hn5
    simp(disch:=omega) only[c11,hne,Ne.symm hne,hkk,go_sem]
    exact goJ (hJ2 S5 _ ⟨hn5,hH6,hK6,c11'⟩) (by simp(disch:=omega) only[wrap64,go_sem])
   simp only[hkk,if_true] at hn5
   have hkk':=eq_true hkk
   have hcall:=hgy S5 _ hH6
   rw[ZC,ZC,hG] at hcall
   obtain⟨gr,gS⟩:=G
   simp(disch:=omega) only[c11,hne,Ne.symm hne,hkk',go_sem]
   refine⟨hcl,yH (XP:=fun _ _=>False) hcall (fun v H7 ⟨e7,hH7,hK7⟩=>?_) (fun _ _ h=>h.elim)⟩
   subst e7
   have c117:=hK7 b11 _ c11' ns np
   cases gr with
   | true =>
    simp only at hn5
    simp(disch:=omega) only[go_sem]
    exact goJ (hJ2 gS H7 ⟨hn5,hH7,hK6.trans hK7,c117⟩) (by simp(disch:=omega) only[wrap64,go_sem])
   | false =>
    simp only at hn5
    rw[← hn5] at hn3
    simp only at hn3
    simp(disch:=omega) only[go_sem]
    exact hQ _ _ H7 H7 [.bool false] nofun rfl (Low.refl _) (fin _ _ _ hn3.symm hH7 (hK6.trans hK7))
theorem shG (s:SchD) (fr:List (List UInt8×List ItD)) (b bf bs bp no:Nat) (hs:zN s≤Lim) (n m:Nat) (g:ItD→ItD→yT→Bool×yT) (x y:ItD) (hx:Ex fr n x.sub) (hn:n≤64) (hy:Ex fr m y.sub) (hm:m≤64)
  (hg:∀ u∈Zd fr x,∀ v∈Zd fr y,ze6 s fr b bf bs bp no 153 g u v):ze6 s fr b bf bs bp no 153 (shB s fr g) x y:=by
 intro S H hH
 have hac:=zlH s fr b bf bs bp no 153 g x y n m (by kernel_rfl) hx hn hy hm hg S
 have hfx:=zeQ s x.typ x.x.nm hs
 have hfy:=zeQ s y.typ y.x.nm hs
 have hsh:=fun a c=>zty s a c (yc hs)
 have hgx:=zik x.no y.no S.1
 have hst:=fun v l=>ziA x.no y.no v l
 have e0:shB s fr g x y S=match zen S.1 (x.no,y.no) with
  | some r=>(r,S)
  | none =>
   if zhH s ((yR s x.typ x.x.nm).getD zF).t ((yR s y.typ y.x.nm).getD zF).t=true then
    ((zaE g (Zd fr x) (Zd fr y) S).1,(ZZ (zaE g (Zd fr x) (Zd fr y) S).2.1 (x.no,y.no) (zaE g (Zd fr x) (Zd fr y) S).1,(zaE g (Zd fr x) (Zd fr y) S).2.2))
   else (false,(ZZ S.1 (x.no,y.no) false,S.2)):=rfl
 generalize hF:shB s fr g x y S=F at *
 generalize zaE g (Zd fr x) (Zd fr y) S=A at *
 have hb:=hH.look
 have hbs:=hH.sh
 have hfit:∀ i j:Nat,KT.fits kPr (.agg [.int .i64 i,.int .i64 j])=true:=fun _ _=>rfl
 have fin:∀ r S' H',F=(r,S')→LkH s fr b bf bs bp no S' H'→LkK bs bp H H'→(AV.bool r=.bool F.1∧LkH s fr b bf bs bp no F.2 H'∧LkK bs bp H H'):=fun r S' H' e h1 h2=>by rw[e];exact⟨rfl,h1,h2⟩
 have setS:∀ S' H' v,LkH s fr b bf bs bp no S' H'→LkK bs bp H H'→LkH s fr b bf bs bp no (ZZ S'.1 (x.no,y.no) v,S'.2) (H'.upd bs (.map kPr (cPr (ZZ S'.1 (x.no,y.no) v))))∧LkK bs bp H (H'.upd bs (.map kPr (cPr (ZZ S'.1 (x.no,y.no) v)))):=fun S' H' v h hk=>by
  have n1:b≠bs:=fun e=>by have:=h.look;rw[e,h.sh] at this;cases this
  have n2:bf≠bs:=fun e=>by have:=h.frs;rw[e,h.sh] at this;cases this
  refine⟨⟨by simp only[zb.upd,n1,if_false];exact h.look,by simp only[zb.upd,n2,if_false];exact h.frs,upd_same ..,by simp only[zb.upd,Ne.symm h.ne,if_false];exact h.pr,h.ne⟩,fun c z hc h1 h2=>?_⟩
  simp only[zb.upd,h1,if_false];exact hk c z hc h1 h2
 generalize (yR s x.typ x.x.nm).isSome=fsx at *
 generalize (yR s x.typ x.x.nm).getD zF=wx at *
 generalize (yR s y.typ y.x.nm).isSome=fsy at *
 generalize (yR s y.typ y.x.nm).getD zF=wy at *
 replace hsh:=hsh wx.t wy.t
 generalize zhH s wx.t wy.t=sx at *
 obtain⟨fn,fp,⟨f1,f2,f3⟩,fd⟩:=wx
 obtain⟨gn,gp,⟨g1,g2,g3⟩,gd⟩:=wy
 obtain⟨xno,xk,xal,xnm,xargs,xdirs,xon,xsels,xtyp,xsub,rfl⟩:=zcV x
 obtain⟨yno,yk,yal,ynm,yargs,ydirs,yon,ysels,ytyp,ysub,rfl⟩:=zcV y
 simp only[ItD.no,ItD.x,ItD.typ,SelD.nm] at hfx hfy hgx hst e0 setS
 obtain⟨sd,sq,sm⟩:=s
 have hcs:zr ⟨sd,sq,sm⟩=[.sl .no 6 (cEs sd),.str sq,.str sm]:=rfl
 simp only[hcs,Al6,zdC] at hfx hfy hsh hb
 simp only[cTy] at hsh
 rw[zaq] at hfx hfy
 rw[ZC,ZC] at hac ⊢
 have nbs:b≠bs:=fun e=>by subst e;rw[hb] at hbs;cases hbs
 refine zj.goO ir153 ck153 (Al4 _) fun KP Q hQ hP=>?_
 simp(disch:=omega) only[ir153,go_sem]
 refine zc fun b7 hb7=>?_
 have n7:b≠b7:=fun e=>by subst e;rw[hb] at hb7;cases hb7
 have n7s:bs≠b7:=fun e=>by subst e;rw[hbs] at hb7;cases hb7
 have hH7:=hH.keep (ZA (x:=.cells [.int .i64 xno,.int .i64 yno]) hb7)
 have hK7:LkK bs bp H (H.upd b7 (.cells [.int .i64 xno,.int .i64 yno])):=LkK.upd (fun c z hc _ _=>hc) hb7
 cases hpg:zen S.1 (xno,yno) with
 | some r =>
  rw[hpg] at hgx e0
  simp only[ZW] at hgx
  simp(disch:=omega) only[n7,Ne.symm n7,n7s,Ne.symm n7s,nbs,Ne.symm nbs,hb,hbs,hgx,hfit,Yu,Option.getD_some,Option.isSome_some,go_sem]
  exact hQ _ _ _ _ [.bool r] nofun rfl (Low.refl _) (fin r S _ e0 hH7 hK7)
 | none =>
  rw[hpg] at hgx e0
  simp only[Option.map_none] at hgx
  simp(disch:=omega) only[n7,Ne.symm n7,n7s,Ne.symm n7s,nbs,Ne.symm nbs,hb,hbs,hgx,hfit,Yu,Option.getD_none,Option.isSome_none,go_sem]
  refine za hfx ?_
  simp(disch:=omega) only[go_sem]
  refine zc fun b10 hb10=>?_
  have m1:b7≠b10:=fun e=>by subst e;simp[zb.upd] at hb10
  have m2:b≠b10:=fun e=>by subst e;simp[zb.upd,n7,hb] at hb10
  have m3:bs≠b10:=fun e=>by subst e;simp[zb.upd,n7s,hbs] at hb10
  have hH10:=hH7.keep (ZA (x:=.cells [.str fn,.sl .no 10 (cWs fp),.str f1,.int .i64 f2,.int .i64 f3,.sl .no 2 (cDs fd)]) hb10)
  have hK10:=hK7.upd (x:=.cells [.str fn,.sl .no 10 (cWs fp),.str f1,.int .i64 f2,.int .i64 f3,.sl .no 2 (cDs fd)]) hb10
  simp(disch:=omega) only[n7,Ne.symm n7,n7s,Ne.symm n7s,nbs,Ne.symm nbs,m1,m2,m3,Ne.symm m1,Ne.symm m2,Ne.symm m3,hb,go_sem]
  refine za hfy ?_
  simp(disch:=omega) only[go_sem]
  refine zc fun b12 hb12=>?_
  have k1:b7≠b12:=fun e=>by subst e;simp[zb.upd,m1] at hb12
  have k2:b≠b12:=fun e=>by subst e;simp[zb.upd,n7,m2,hb] at hb12
  have k3:bs≠b12:=fun e=>by subst e;simp[zb.upd,n7s,m3,hbs] at hb12
  have k4:b10≠b12:=fun e=>by subst e;simp[zb.upd] at hb12
  have hH12:=hH10.keep (ZA (x:=.cells [.str gn,.sl .no 10 (cWs gp),.str g1,.int .i64 g2,.int .i64 g3,.sl .no 2 (cDs gd)]) hb12)
  have hK12:=hK10.upd (x:=.cells [.str gn,.sl .no 10 (cWs gp),.str g1,.int .i64 g2,.int .i64 g3,.sl .no 2 (cDs gd)]) hb12
  simp(disch:=omega) only[n7,Ne.symm n7,n7s,Ne.symm n7s,nbs,Ne.symm nbs,m1,m2,m3,Ne.symm m1,Ne.symm m2,Ne.symm m3,k1,k2,k3,k4,Ne.symm k1,Ne.symm k2,Ne.symm k3,Ne.symm k4,hb,go_sem]
  refine za hsh ?_
  cases sx with
  | false =>
   have hst1:=hst false S.1
   obtain⟨q1,q2⟩:=setS S _ false hH12 hK12
   simp(disch:=omega) only[n7,Ne.symm n7,n7s,Ne.symm n7s,nbs,Ne.symm nbs,m1,m2,m3,Ne.symm m1,Ne.symm m2,Ne.symm m3,k1,k2,k3,k4,Ne.symm k1,Ne.symm k2,Ne.symm k3,Ne.symm k4,hb,hbs,hfit,hst1,go_sem]
   exact hQ _ _ _ _ [.bool false] nofun rfl (Low.refl _) (fin false _ _ e0 q1 q2)
  | true =>
   have hac2:=hac _ hH12
   have c7:(((H.upd b7 (.cells [.int .i64 xno,.int .i64 yno])).upd b10 (.cells [.str fn,.sl .no 10 (cWs fp),.str f1,.int .i64 f2,.int .i64 f3,.sl .no 2 (cDs fd)])).upd b12 (.cells [.str gn,.sl .no 10 (cWs gp),.str g1,.int .i64 g2,.int .i64 g3,.sl .no 2 (cDs gd)])) b7=some (.cells [.int .i64 xno,.int .i64 yno]):=by simp[zb.upd,m1,k1]
   have np7:b7≠bp:=fun e=>by have:=hH12.pr;rw[← e,c7] at this;cases this
   simp(disch:=omega) only[n7,Ne.symm n7,n7s,Ne.symm n7s,nbs,Ne.symm nbs,m1,m2,m3,Ne.symm m1,Ne.symm m2,Ne.symm m3,k1,k2,k3,k4,Ne.symm k1,Ne.symm k2,Ne.symm k3,Ne.symm k4,hb,go_sem]
   refine yH (XP:=fun _ _=>False) hac2 (fun v H3 ⟨e3,hH3,hK3⟩=>?_) (fun _ _ h=>h.elim)
   subst e3
   have hK4:=hK12.trans hK3
   have c73:=hK3 b7 _ c7 (Ne.symm n7s) np7
   have hb3:=hH3.look
   simp only[hcs,Al6,zdC] at hb3
   have hbs3:=hH3.sh
   have hst1:=hst A.1 A.2.1
   obtain⟨q1,q2⟩:=setS A.2 H3 A.1 hH3 hK4
   simp(disch:=omega) only[hb3,hbs3,c73,hfit,hst1,go_sem]
   exact hQ _ _ _ _ [.bool A.1] nofun rfl (Low.refl _) (fin A.1 _ _ e0 q1 q2)
theorem shC (s:SchD) (fr:List (List UInt8×List ItD)) (b bf bs bp no:Nat) (hs:zN s≤Lim):∀(f m:Nat) (x y:ItD),f≤64→m≤64→Ex fr f x.sub→Ex fr m y.sub→ze6 s fr b bf bs bp no 153 (shF s fr f) x y
 | 0,m,x,y,hf,hm,hx,hy=>shG s fr b bf bs bp no hs 0 m _ x y hx hf hy hm fun u hu v hv=>by
  obtain⟨i,hi,_⟩:=zbc (seen:=[]) (f:=64) hx hf hu
  omega
 | f+1,m,x,y,hf,hm,hx,hy=>shG s fr b bf bs bp no hs (f+1) m (shF s fr f) x y hx hf hy hm fun u hu v hv=>by
  obtain⟨i,hi,h1,_⟩:=zbc (seen:=[]) (f:=64) hx hf hu
  obtain⟨j,hj,h2,_⟩:=zbc (seen:=[]) (f:=64) hy hm hv
  exact shC s fr b bf bs bp no hs f j u v (by omega) (by omega) (h1.mono (by omega)) h2
noncomputable def tgB (s:SchD) (fr:List (List UInt8×List ItD)) (g:ItD→ItD→yT→Bool×yT) (x y:ItD) (S:yT):Bool×yT :=
 match zen S.2 (x.no,y.no) with
 | some r=>(r,S)
 | none =>
  if (shF s fr 64 x y S).1=true then
   if ziP s x y=true then (true,((shF s fr 64 x y S).2.1,ZZ (shF s fr 64 x y S).2.2 (x.no,y.no) true))
   else if (decide (x.x.nm=y.x.nm)&&zdq x.args y.args)=true then
    ((zaE g (Zd fr x) (Zd fr y) (shF s fr 64 x y S).2).1,((zaE g (Zd fr x) (Zd fr y) (shF s fr 64 x y S).2).2.1,ZZ (zaE g (Zd fr x) (Zd fr y) (shF s fr 64 x y S).2).2.2 (x.no,y.no) (zaE g (Zd fr x) (Zd fr y) (shF s fr 64 x y S).2).1))
   else (false,((shF s fr 64 x y S).2.1,ZZ (shF s fr 64 x y S).2.2 (x.no,y.no) false))
  else (false,((shF s fr 64 x y S).2.1,ZZ (shF s fr 64 x y S).2.2 (x.no,y.no) false))
noncomputable def tgF (s:SchD) (fr:List (List UInt8×List ItD)):Nat→ItD→ItD→yT→Bool×yT
 | 0=>tgB s fr fun _ _ S=>(true,S)
 | n+1=>tgB s fr (tgF s fr n)
theorem tgG (s : SchD) (fr : List (List UInt8 × List ItD)) (b bf bs bp no : Nat) (hs : zN s ≤ Lim) (n m : Nat) (g : ItD → ItD → yT → Bool × yT) (x y : ItD) (hx : Ex fr n x.sub) (hn : n ≤ 64) (hy : Ex fr m y.sub) (hm : m ≤ 64) (hxa : bMs x.args ≤ Lim) (hya : bMs y.args ≤ Lim)
    (hg : ∀ u ∈ Zd fr x, ∀ v ∈ Zd fr y, ze6 s fr b bf bs bp no 115 g u v) : ze6 s fr b bf bs bp no 115 (tgB s fr g) x y := by
  intro S H hH
  have hac := zlH s fr b bf bs bp no 115 g x y n m (by kernel_rfl) hx hn hy hm hg
  have hkx := zcj s x.typ [1] (yc hs) (by simp [Lim])
  have hky := zcj s y.typ [1] (yc hs) (by simp [Lim])
  have hsh := shC s fr b bf bs bp no hs 64 m x y (Al4 _) hm (hx.mono hn) hy S
  have hal := ztv x.args y.args hxa hya
  have hgx := zik x.no y.no S.2
  have hst := fun v l => ziA x.no y.no v l
  have eap : ziP s x y = (!decide (x.typ = y.typ) && y8 s x.typ [1] && y8 s y.typ [1]) := rfl
  have e0 : tgB s fr g x y S = match zen S.2 (x.no, y.no) with
    | some r => (r, S)
    | none =>
      if (shF s fr 64 x y S).1 = true then
        if ziP s x y = true then (true, ((shF s fr 64 x y S).2.1, ZZ (shF s fr 64 x y S).2.2 (x.no, y.no) true))
        else if (decide (x.x.nm = y.x.nm) && zdq x.args y.args) = true then
          ((zaE g (Zd fr x) (Zd fr y) (shF s fr 64 x y S).2).1, ((zaE g (Zd fr x) (Zd fr y) (shF s fr 64 x y S).2).2.1, ZZ (zaE g (Zd fr x) (Zd fr y) (shF s fr 64 x y S).2).2.2 (x.no, y.no) (zaE g (Zd fr x) (Zd fr y) (shF s fr 64 x y S).2).1))
        else (false, ((shF s fr 64 x y S).2.1, ZZ (shF s fr 64 x y S).2.2 (x.no, y.no) false))
      else (false, ((shF s fr 64 x y S).2.1, ZZ (shF s fr 64 x y S).2.2 (x.no, y.no) false)) := rfl
  generalize hF : tgB s fr g x y S = F at *
  generalize shF s fr 64 x y S = A at *
  replace hac := hac A.2
  generalize zaE g (Zd fr x) (Zd fr y) A.2 = B at *
  have hb := hH.look
  have hbp := hH.pr
  have hfit : ∀ i j : Nat, KT.fits kPr (.agg [.int .i64 i, .int .i64 j]) = true := fun _ _ => rfl
  have fin : ∀ r S' H', F = (r, S') → LkH s fr b bf bs bp no S' H' → LkK bs bp H H' → (AV.bool r = .bool F.1 ∧ LkH s fr b bf bs bp no F.2 H' ∧ LkK bs bp H H') := fun r S' H' e h1 h2 => by rw [e]; exact ⟨rfl, h1, h2⟩
  have setS : ∀ S' H' v, LkH s fr b bf bs bp no S' H' → LkK bs bp H H' → LkH s fr b bf bs bp no (S'.1, ZZ S'.2 (x.no, y.no) v) (H'.upd bp (.map kPr (cPr (ZZ S'.2 (x.no, y.no) v)))) ∧ LkK bs bp H (H'.upd bp (.map kPr (cPr (ZZ S'.2 (x.no, y.no) v)))) := fun S' H' v h hk => by
    have n1 : b ≠ bp := fun e => by have := h.look; rw [e, h.pr] at this; cases this
    have n2 : bf ≠ bp := fun e => by have := h.frs; rw [e, h.pr] at this; cases this
    refine ⟨⟨by simp only [zb.upd, n1, if_false]; exact h.look, by simp only [zb.upd, n2, if_false]; exact h.frs, by simp only [zb.upd, h.ne, if_false]; exact h.sh, upd_same .., h.ne⟩, fun c z hc h1 h2 => ?_⟩
    simp only [zb.upd, h2, if_false]; exact hk c z hc h1 h2
  generalize ziP s x y = ap at *
  generalize y8 s x.typ [1] = kx at *
  generalize y8 s y.typ [1] = ky at *
  generalize zdq x.args y.args = lk at *
  obtain ⟨xno, xk, xal, xnm, xargs, xdirs, xon, xsels, xtyp, xsub, rfl⟩ := zcV x
  obtain ⟨yno, yk, yal, ynm, yargs, ydirs, yon, ysels, ytyp, ysub, rfl⟩ := zcV y
  simp only [ItD.no, ItD.x, ItD.typ, SelD.nm, ItD.args] at hkx hky hgx hst e0 setS hal eap
  obtain ⟨sd, sq, sm⟩ := s
  have hcs : zr ⟨sd, sq, sm⟩ = [.sl .no 6 (cEs sd), .str sq, .str sm] := rfl
  simp only [hcs, Al6, zdC] at hkx hky hb
  rw [ZC, ZC] at hac hsh ⊢
  have nbp : b ≠ bp := fun e => by subst e; rw [hb] at hbp; cases hbp
  refine zj.goO ir115 ck115 (Al4 _) fun KP Q hQ hP => ?_
  simp (disch := omega) only [ir115, go_sem]
  refine zc fun b7 hb7 => ?_
  have n7 : b ≠ b7 := fun e => by subst e; rw [hb] at hb7; cases hb7
  have n7p : bp ≠ b7 := fun e => by subst e; rw [hbp] at hb7; cases hb7
  have n7s : b7 ≠ bs := fun e => by subst e; rw [hH.sh] at hb7; cases hb7
  have hH7 := hH.keep (ZA (x := .cells [.int .i64 xno, .int .i64 yno]) hb7)
  have hK7 : LkK bs bp H (H.upd b7 (.cells [.int .i64 xno, .int .i64 yno])) := LkK.upd (fun c z hc _ _ => hc) hb7
  cases hpg : zen S.2 (xno, yno) with
  | some r =>
    rw [hpg] at hgx e0
    simp only [ZW] at hgx
    simp (disch := omega) only [n7, Ne.symm n7, n7p, Ne.symm n7p, nbp, Ne.symm nbp, hb, hbp, hgx, hfit, Yu, Option.getD_some, Option.isSome_some, go_sem]
    exact hQ _ _ _ _ [.bool r] nofun rfl (Low.refl _) (fin r S _ e0 hH7 hK7)
  | none =>
    rw [hpg] at hgx e0
    simp only [Option.map_none] at hgx
    replace hsh := hsh _ hH7
    have tail : ∀ (v : Bool) H3, LkH ⟨sd, sq, sm⟩ fr b bf bs bp no A.2 H3 → LkK bs bp H H3 → F = (v, (A.2.1, ZZ A.2.2 (xno, yno) v)) → (AV.bool v = .bool F.1 ∧ LkH ⟨sd, sq, sm⟩ fr b bf bs bp no F.2 (H3.upd bp (.map kPr (cPr (ZZ A.2.2 (xno, yno) v)))) ∧ LkK bs bp H (H3.upd bp (.map kPr (cPr (ZZ A.2.2 (xno, yno) v))))) := fun v H3 h1 h2 e => by
      obtain ⟨q1, q2⟩ := setS A.2 H3 v h1 h2
      exact fin v _ _ e q1 q2
    have after : ∀ (v : AV) H3, (v = .bool A.1 ∧ LkH ⟨sd, sq, sm⟩ fr b bf bs bp no A.2 H3 ∧ LkK bs bp (H.upd b7 (.cells [.int .i64 xno, .int .i64 yno])) H3) → v = .bool A.1 ∧ LkH ⟨sd, sq, sm⟩ fr b bf bs bp no A.2 H3 ∧ LkK bs bp H H3 ∧ H3 b7 = some (.cells [.int .i64 xno, .int .i64 yno]) ∧ H3 b = some (.cells [.sl .no 6 (cEs sd), .str sq, .str sm, .int .i64 no, .mp bf, .mp bs, .mp bp]) ∧ H3 bp = some (.map kPr (cPr A.2.2)) := fun v H3 ⟨h1, h2, h3⟩ =>
      ⟨h1, h2, hK7.trans h3, h3 b7 _ (upd_same ..) n7s (Ne.symm n7p), h2.look, h2.pr⟩
    obtain ⟨Ar, A1, A2⟩ := A
    simp only at after tail e0 hac
    have hst1 := fun v => hst v A2
    have pre : (xtyp = ytyp ∧ ap = false) ∨ (xtyp ≠ ytyp ∧ kx = false ∧ ap = false) ∨ (xtyp ≠ ytyp ∧ kx = true ∧ ky = ap) := by
      by_cases h : xtyp = ytyp
      · exact .inl ⟨h, by rw [eap]; simp [h]⟩
      · cases kx with
        | false => exact .inr (.inl ⟨h, rfl, by rw [eap]; simp⟩)
        | true => exact .inr (.inr ⟨h, rfl, by rw [eap]; simp [h]⟩)
    rcases pre with ⟨ht, hap⟩ | ⟨ht, hk1, hap⟩ | ⟨ht, hk1, hap⟩
    case' inl =>
      have ht' := eq_true ht
      simp (disch := omega) only [n7, Ne.symm n7, n7p, Ne.symm n7p, nbp, Ne.symm nbp, hb, hbp, hgx, hfit, Yu, Option.getD_none, Option.isSome_none, ht', go_sem]
      refine yH (XP := fun _ _ => False) hsh (fun v H3 h => ?_) (fun _ _ h => h.elim)
    case' inr.inl =>
      rw [hk1] at hkx
      simp (disch := omega) only [n7, Ne.symm n7, n7p, Ne.symm n7p, nbp, Ne.symm nbp, hb, hbp, hgx, hfit, Yu, Option.getD_none, Option.isSome_none, ht, go_sem]
      refine za (zi.low hkx) ?_
      simp (disch := omega) only [n7, Ne.symm n7, n7p, Ne.symm n7p, nbp, Ne.symm nbp, hb, go_sem]
      refine yH (XP := fun _ _ => False) hsh (fun v H3 h => ?_) (fun _ _ h => h.elim)
    case' inr.inr =>
      rw [hk1] at hkx
      rw [hap] at hky
      simp (disch := omega) only [n7, Ne.symm n7, n7p, Ne.symm n7p, nbp, Ne.symm nbp, hb, hbp, hgx, hfit, Yu, Option.getD_none, Option.isSome_none, ht, go_sem]
      refine za (zi.low hkx) ?_
      simp (disch := omega) only [n7, Ne.symm n7, n7p, Ne.symm n7p, nbp, Ne.symm nbp, hb, go_sem]
      refine za (zi.low hky) ?_
      simp (disch := omega) only [n7, Ne.symm n7, n7p, Ne.symm n7p, nbp, Ne.symm nbp, hb, go_sem]
      refine yH (XP := fun _ _ => False) hsh (fun v H3 h => ?_) (fun _ _ h => h.elim)
    all_goals
      obtain ⟨rfl, hH3, hK3, c73, hb3, hbp3⟩ := after v H3 h
      have hac3 := hac H3 hH3
      cases Ar with
      | false =>
        simp only [Al7, if_false] at e0
        simp (disch := omega) only [hb3, c73, hbp3, hfit, hst1, go_sem]
        exact hQ _ _ _ _ [.bool false] nofun rfl (Low.refl _) (tail false H3 hH3 hK3 e0)
      | true =>
        simp only [if_true] at e0
        cases ap with
        | true =>
          first
          | (cases hap; done)
          | (simp only [if_true] at e0
             simp (disch := omega) only [hb3, c73, hbp3, hfit, hst1, go_sem]
             exact hQ _ _ _ _ [.bool true] nofun rfl (Low.refl _) (tail true H3 hH3 hK3 e0))
        | false =>
          simp only [Al7, if_false] at e0
          by_cases hnm : xnm = ynm
          case neg =>
            simp only [hnm, decide_false, Bool.false_and, Al7, if_false] at e0
            simp (disch := omega) only [hb3, c73, hbp3, hfit, hst1, hnm, go_sem]
            exact hQ _ _ _ _ [.bool false] nofun rfl (Low.refl _) (tail false H3 hH3 hK3 e0)
          have hnm' := eq_true hnm
          simp only [hnm, decide_true, Bool.true_and] at e0
          simp (disch := omega) only [hb3, c73, hbp3, hfit, hst1, hnm', go_sem]
          refine za hal ?_
          cases lk with
          | false =>
            simp only [Al7, if_false] at e0
            simp (disch := omega) only [hb3, c73, hbp3, hfit, hst1, go_sem]
            exact hQ _ _ _ _ [.bool false] nofun rfl (Low.refl _) (tail false H3 hH3 hK3 e0)
          | true =>
            simp only [if_true] at e0
            simp (disch := omega) only [hb3, c73, hbp3, hfit, hst1, go_sem]
            refine yH (XP := fun _ _ => False) hac3 (fun v H4 ⟨e4, hH4, hK4⟩ => ?_) (fun _ _ h => h.elim)
            subst e4
            have c74 := hK4 b7 _ c73 n7s (Ne.symm n7p)
            have hb4 : H4 b = some (.cells [.sl .no 6 (cEs sd), .str sq, .str sm, .int .i64 no, .mp bf, .mp bs, .mp bp]) := hH4.look
            have hbp4 := hH4.pr
            have hst4 := hst B.1 B.2.2
            obtain ⟨q1, q2⟩ := setS B.2 H4 B.1 hH4 (hK3.trans hK4)
            simp (disch := omega) only [hb4, c74, hbp4, hfit, hst4, go_sem]
            exact hQ _ _ _ _ [.bool B.1] nofun rfl (Low.refl _) (fin B.1 _ _ e0 q1 q2)
theorem tgC (s:SchD) (fr:List (List UInt8×List ItD)) (b bf bs bp no:Nat) (hs:zN s≤Lim):∀(f m:Nat) (x y:ItD),f≤64→m≤64→Ex fr f x.sub→Ex fr m y.sub→bMs x.args≤Lim→bMs y.args≤Lim→ze6 s fr b bf bs bp no 115 (tgF s fr f) x y
 | 0,m,x,y,hf,hm,hx,hy,hxa,hya=>tgG s fr b bf bs bp no hs 0 m _ x y hx hf hy hm hxa hya fun u hu v hv=>by
  obtain⟨i,hi,_⟩:=zbc (seen:=[]) (f:=64) hx hf hu
  omega
 | f+1,m,x,y,hf,hm,hx,hy,hxa,hya=>tgG s fr b bf bs bp no hs (f+1) m (tgF s fr f) x y hx hf hy hm hxa hya fun u hu v hv=>by
  obtain⟨i,hi,h1,h3⟩:=zbc (seen:=[]) (f:=64) hx hf hu
  obtain⟨j,hj,h2,h4⟩:=zbc (seen:=[]) (f:=64) hy hm hv
  exact tgC s fr b bf bs bp no hs f j u v (by omega) (by omega) (h1.mono (by omega)) h2 h3 h4
def rowB (g:ItD→ItD→yT→Bool×yT) (x:ItD):List ItD→yT→Bool×yT
 | [],S=>(true,S)
 | y::r,S=>if zfy x.x=zfy y.x then (match g y x S with|(true,S')=>rowB g x r S'|(false,S')=>(false,S')) else rowB g x r S
def zbO (g:ItD→ItD→yT→Bool×yT):List ItD→List ItD→yT→Bool×yT
 | _,[],S=>(true,S)
 | a,x::r,S=>match rowB g x a S with|(true,S')=>zbO g (a++[x]) r S'|(false,S')=>(false,S')
def zho (h:List ItD→yT→Bool×yT):List ItD→yT→Bool×yT
 | [],S=>(true,S)
 | x::r,S=>match h x.sub S with|(true,S')=>zho h r S'|(false,S')=>(false,S')
noncomputable def lsB (s:SchD) (fr:List (List UInt8×List ItD)) (h:List ItD→yT→Bool×yT) (l:List ItD) (S:yT):Bool×yT :=
 match zbO (tgF s fr 64) [] (flF fr 64 l []).1 S with|(true,S')=>zho h l S'|(false,S')=>(false,S')
noncomputable def lsF (s:SchD) (fr:List (List UInt8×List ItD)):Nat→List ItD→yT→Bool×yT
 | 0=>lsB s fr fun _ S=>(true,S)
 | n+1=>lsB s fr (lsF s fr n)
def zn7 (s:SchD) (fr:List (List UInt8×List ItD)) (b bf bs bp no:Nat) (h:List ItD→yT→Bool×yT) (l:List ItD):Prop :=
 ∀ S H,LkH s fr b bf bs bp no S H→zj Tryz.prog 67 [.ptr b 0,.sl .no 10 (yK l)] H (fun e H'=>match e with|.ret v=>v=.bool (h l S).1∧LkH s fr b bf bs bp no (h l S).2 H'∧LkK bs bp H H'|.pan _=>False)
theorem lsG (s:SchD) (fr:List (List UInt8×List ItD)) (b bf bs bp no:Nat) (hs:zN s≤Lim) (n:Nat) (h:List ItD→yT→Bool×yT) (l:List ItD) (hx:Ex fr n l) (hn:n≤64) (hsub:∀ x∈l,zn7 s fr b bf bs bp no h x.sub):zn7 s fr b bf bs bp no (lsB s fr h) l:=by
 intro S H hH
 have hpair:∀ x∈(flF fr 64 l []).1,∀ y∈(flF fr 64 l []).1,ze6 s fr b bf bs bp no 115 (tgF s fr 64) x y:=fun x hx1 y hy1=>by
  obtain⟨i,hi,h1,h3⟩:=zbc hx hn hx1
  obtain⟨j,hj,h2,h4⟩:=zbc hx hn hy1
  exact tgC s fr b bf bs bp no hs 64 j x y (Al4 _) (by omega) (h1.mono (by omega)) h2 h3 h4
 have hal:=zfE (seen:=[]) hx hn
 have hll:l.length≤n:=by
  have h:∀(l:List ItD) n,Ex fr n l→l.length≤n:=by
   intro l
   induction l with
   | nil=>intro n _;simp
   | cons x r ih =>
    intro n h
    cases h with
    | cons hle h1 h2 h3 ha=>have:=ih _ h3;simp only[Al2];omega
  exact h l n hx
 have e0:lsB s fr h l S=match zbO (tgF s fr 64) [] (flF fr 64 l []).1 S with|(true,S')=>zho h l S'|(false,S')=>(false,S'):=rfl
 obtain⟨sd,sq,sm⟩:=s
 have hflat:=fun H bm hb hbf hbm hne=>zrj fr b bf (.sl .no 6 (cEs sd)) (.str sq) (.str sm) (.int .i64 no) (.mp bs) (.mp bp) n l [] H bm 64 hx hn (by omega) hb hbf hbm hne
 generalize hF:lsB ⟨sd,sq,sm⟩ fr h l S=F at *
 generalize flF fr 64 l []=fl at *
 obtain⟨all,sn⟩:=fl
 simp only at hpair hal e0 hflat
 generalize tgF ⟨sd,sq,sm⟩ fr 64=g at *
 have l1:=Yj all
 have l2:=Yj l
 generalize hPr:zbO g [] all S=Pr at *
 have fin:∀ r S' H',F=(r,S')→LkH ⟨sd,sq,sm⟩ fr b bf bs bp no S' H'→LkK bs bp H H'→(AV.bool r=.bool F.1∧LkH ⟨sd,sq,sm⟩ fr b bf bs bp no F.2 H'∧LkK bs bp H H'):=fun r S' H' e h1 h2=>by rw[e];exact⟨rfl,h1,h2⟩
 refine zj.goO ir67 ck67 (Al4 _) fun KP Q hQ hP=>?_
 simp(disch:=omega) only[ir67,go_sem]
 refine zc fun bm hbm=>?_
 have hk0:=ZA (x:=.map (.one .s) (cSn [])) hbm
 have n2:bf≠bm:=fun e=>by subst e;rw[hH.frs] at hbm;cases hbm
 simp(disch:=omega) only[go_sem]
 refine yH (XP:=fun _ _=>False) (hflat _ bm (hk0 _ _ hH.look) (hk0 _ _ hH.frs) (upd_same ..) n2) (fun v H1 ⟨o1,e1,hk1⟩=>?_) (fun _ _ h=>h.elim)
 subst e1
 have hkeep:∀ c x,H c=some x→H1 c=some x:=fun c x hc=>hk1.kept c x (hk0 c x hc) fun e=>by subst e;rw[hbm] at hc;cases hc
 have hH1:=hH.keep hkeep
 simp(disch:=omega) only[l1,go_sem]
 refine zf all 18 (fun _:yT=>[]) (fun done rest S' H'=>zbO g done rest S'=Pr∧LkH ⟨sd,sq,sm⟩ fr b bf bs bp no S' H'∧LkK bs bp H H') S (by simp(disch:=omega) only[go_sem]) ⟨hPr,hH1,fun c x hc _ _=>hkeep c x hc⟩ ?_ ?_
 ·rintro S3 H3 J ⟨hn3,hH3,hK3⟩ hlt
  simp only[zbO] at hn3
  rw[← hn3] at e0
  simp only at e0
  simp(disch:=omega) only[l1,hlt,l2,go_sem]
  refine zf l 47 (fun _:yT=>[]) (fun done rest S' H'=>zho h rest S'=F∧LkH ⟨sd,sq,sm⟩ fr b bf bs bp no S' H'∧LkK bs bp H H') S3 (by simp(disch:=omega) only[go_sem]) ⟨e0.symm,hH3,hK3⟩ ?_ ?_
  ·rintro S4 H4 J2 ⟨hn4,hH4,hK4⟩ hlt2
   simp only[zho] at hn4
   simp(disch:=omega) only[l2,hlt2,go_sem]
   exact hQ _ _ H4 H4 [.bool true] nofun rfl (Low.refl _) (fin _ _ _ hn4.symm hH4 hK4)
  ·rintro done x rest S4 H4 J2 hd hlt2 _ ⟨hn4,hH4,hK4⟩ hJ2
   have hg2:=zbL hd
   have hxs:=hsub x (by rw[hd];simp)
   simp only[zho] at hn4
   generalize hG:h x.sub S4=G at *
   obtain⟨xno,xk,xal,xnm,xargs,xdirs,xon,xsels,xtyp,xsub,rfl⟩:=zcV x
   simp only[ItD.sub] at hxs hG
   rw[ZC] at hg2
   simp(disch:=omega) only[l2,hlt2,hg2,go_sem]
   refine zc fun b11 hb11=>?_
   have hH5:=hH4.keep (ZA (x:=.cells [.int .i64 xno,.int .i64 xk,.str xal,.str xnm,.sl .no 6 (cMs xargs),.sl .no 2 (cDs xdirs),.str xon,.sl .no 7 (cSs xsels),.str xtyp,.sl .no 10 (yK xsub)]) hb11)
   have hK5:=hK4.upd (x:=.cells [.int .i64 xno,.int .i64 xk,.str xal,.str xnm,.sl .no 6 (cMs xargs),.sl .no 2 (cDs xdirs),.str xon,.sl .no 7 (cSs xsels),.str xtyp,.sl .no 10 (yK xsub)]) hb11
   have hcall:=hxs S4 _ hH5
   rw[hG] at hcall
   obtain⟨gr,gS⟩:=G
   simp(disch:=omega) only[go_sem]
   refine yH (XP:=fun _ _=>False) hcall (fun v H7 ⟨e7,hH7,hK7⟩=>?_) (fun _ _ h=>h.elim)
   subst e7
   cases gr with
   | true =>
    simp only at hn4
    simp(disch:=omega) only[go_sem]
    exact goJ (hJ2 gS H7 ⟨hn4,hH7,hK5.trans hK7⟩) (by simp(disch:=omega) only[wrap64,go_sem])
   | false =>
    simp only at hn4
    simp(disch:=omega) only[go_sem]
    exact hQ _ _ H7 H7 [.bool false] nofun rfl (Low.refl _) (fin _ _ _ hn4.symm hH7 (hK5.trans hK7))
 ·rintro done x rest S3 H3 J hd hlt hlt' ⟨hn3,hH3,hK3⟩ hJ
  have hg1:=zbL hd
  have hxm:x∈all:=by rw[hd];simp
  have htk:(yK all).take done.length=yK done:=by rw[hd];simp[zaW]
  have hle:(done.length:Int)≤all.length:=by omega
  have l3:=Yj done
  simp only[zbO] at hn3
  have hkx:=zpV x.x
  have hgx:=fun y hy=>hpair y hy x hxm
  generalize hR:rowB g x done S3=R at *
  obtain⟨xno,xk,xal,xnm,xargs,xdirs,xon,xsels,xtyp,xsub,rfl⟩:=zcV x
  simp only[ItD.x] at hkx
  rw[ZC] at hg1
  rw[y6] at hkx
  simp(disch:=omega) only[l1,hlt,hg1,go_sem]
  refine zc fun b7 hb7=>?_
  have hH4:=hH3.keep (ZA (x:=.cells [.int .i64 xno,.int .i64 xk,.str xal,.str xnm,.sl .no 6 (cMs xargs),.sl .no 2 (cDs xdirs),.str xon,.sl .no 7 (cSs xsels),.str xtyp,.sl .no 10 (yK xsub)]) hb7)
  have hK4:=hK3.upd (x:=.cells [.int .i64 xno,.int .i64 xk,.str xal,.str xnm,.sl .no 6 (cMs xargs),.sl .no 2 (cDs xdirs),.str xon,.sl .no 7 (cSs xsels),.str xtyp,.sl .no 10 (yK xsub)]) hb7
  have ns:b7≠bs:=fun e=>by subst e;rw[hH3.sh] at hb7;cases hb7
  have np:b7≠bp:=fun e=>by subst e;rw[hH3.pr] at hb7;cases hb7
  simp(disch:=omega) only[l1,hle,htk,l3,go_sem]
  refine zf done 27 (fun _:yT=>[]) (fun done rest S' H'=>rowB g (.mk xno (.mk xk xal xnm xargs xdirs xon xsels) xtyp xsub) rest S'=R∧LkH ⟨sd,sq,sm⟩ fr b bf bs bp no S' H'∧LkK bs bp H H'∧H' b7=some (.cells [.int .i64 xno,.int .i64 xk,.str xal,.str xnm,.sl .no 6 (cMs xargs),.sl .no 2 (cDs xdirs),.str xon,.sl .no 7 (cSs xsels),.str xtyp,.sl .no 10 (yK xsub)])) S3 (by simp(disch:=omega) only[go_sem]) ⟨hR,hH4,hK4,upd_same ..⟩ ?_ ?_
  ·rintro S5 H5 J2 ⟨hn5,hH5,hK5,_⟩ hlt2
   simp only[rowB] at hn5
   rw[← hn5] at hn3
   simp only at hn3
   simp(disch:=omega) only[l3,hlt2,go_sem]
   exact goJ (hJ S5 H5 ⟨hn3,hH5,hK5⟩) (by simp(disch:=omega) only[wrap64,go_sem])
  ·rintro done2 y rest2 S5 H5 J2 hd2 hlt2 _ ⟨hn5,hH5,hK5,c7⟩ hJ2
   have hg2:=zbL hd2
   have hym:y∈all:=by rw[hd,hd2];simp
   have hgy:=hgx y hym
   have hky:=zpV y.x
   simp only[rowB] at hn5
   generalize hG:g y (.mk xno (.mk xk xal xnm xargs xdirs xon xsels) xtyp xsub) S5=G at *
   obtain⟨yno,yk,yal,ynm,yargs,ydirs,yon,ysels,ytyp,ysub,rfl⟩:=zcV y
   simp only[ItD.x] at hky hn5
   rw[ZC] at hg2
   rw[y6] at hky
   simp(disch:=omega) only[l3,hlt2,hg2,go_sem]
   refine zc fun b9 hb9=>?_
   have hne:b7≠b9:=fun e=>by subst e;rw[c7] at hb9;cases hb9
   have hH6:=hH5.keep (ZA (x:=.cells [.int .i64 yno,.int .i64 yk,.str yal,.str ynm,.sl .no 6 (cMs yargs),.sl .no 2 (cDs ydirs),.str yon,.sl .no 7 (cSs ysels),.str ytyp,.sl .no 10 (yK ysub)]) hb9)
   have hK6:=hK5.upd (x:=.cells [.int .i64 yno,.int .i64 yk,.str yal,.str ynm,.sl .no 6 (cMs yargs),.sl .no 2 (cDs ydirs),.str yon,.sl .no 7 (cSs ysels),.str ytyp,.sl .no 10 (yK ysub)]) hb9
   have c7':=ZA (x:=.cells [.int .i64 yno,.int .i64 yk,.str yal,.str ynm,.sl .no 6 (cMs yargs),.sl .no 2 (cDs ydirs),.str yon,.sl .no 7 (cSs ysels),.str ytyp,.sl .no 10 (yK ysub)]) hb9 _ _ c7
   simp(disch:=omega) only[c7,hne,Ne.symm hne,go_sem]
   refine za hkx ?_
   simp(disch:=omega) only[c7,hne,Ne.symm hne,go_sem]
   refine za hky ?_
   by_cases hkk:zfy (.mk xk xal xnm xargs xdirs xon xsels)=zfy (.mk yk yal ynm yargs ydirs yon ysels)
   case neg =>
    simp only[hkk,if_false] at hn5
    simp(disch:=omega) only[c7,hne,Ne.symm hne,hkk,go_sem]
    exact goJ (hJ2 S5 _ ⟨hn5,hH6,hK6,c7'⟩) (by simp(disch:=omega) only[wrap64,go_sem])
   simp only[hkk,if_true] at hn5
   have hkk':=eq_true hkk
   have hcall:=hgy S5 _ hH6
   rw[ZC,ZC,hG] at hcall
   obtain⟨gr,gS⟩:=G
   simp(disch:=omega) only[c7,hne,Ne.symm hne,hkk',go_sem]
   refine yH (XP:=fun _ _=>False) hcall (fun v H7 ⟨e7,hH7,hK7⟩=>?_) (fun _ _ h=>h.elim)
   subst e7
   have c77:=hK7 b7 _ c7' ns np
   cases gr with
   | true =>
    simp only at hn5
    simp(disch:=omega) only[go_sem]
    exact goJ (hJ2 gS H7 ⟨hn5,hH7,hK6.trans hK7,c77⟩) (by simp(disch:=omega) only[wrap64,go_sem])
   | false =>
    simp only at hn5
    rw[← hn5] at hn3
    simp only at hn3
    rw[← hn3] at e0
    simp only at e0
    simp(disch:=omega) only[go_sem]
    exact hQ _ _ H7 H7 [.bool false] nofun rfl (Low.refl _) (fin _ _ _ e0 hH7 (hK6.trans hK7))
theorem lsC (s:SchD) (fr:List (List UInt8×List ItD)) (b bf bs bp no:Nat) (hs:zN s≤Lim):∀(f:Nat) (l:List ItD),f≤64→Ex fr f l→zn7 s fr b bf bs bp no (lsF s fr f) l
 | 0,l,hf,hx=>lsG s fr b bf bs bp no hs 0 _ l hx hf fun x hm=>by
  rw[hx.zero] at hm;cases hm
 | f+1,l,hf,hx=>lsG s fr b bf bs bp no hs (f+1) (lsF s fr f) l hx hf fun x hm=>lsC s fr b bf bs bp no hs f x.sub (by omega) (hx.sub hm)
theorem zj.lowH {P:Program} {f:FuncId} {args:List AV} {A B:zb} {Q:AEnd→zb→Prop} (hl:Low B A) (h:zj P f args B Q):zj P f args A Q:=fun γ w vs ht hs hv =>
 (h γ w vs ht (hl.st γ w hs) hv).mono fun _ _ ⟨γ',H',r,a,b,c,d,e⟩=>⟨γ',H',r,a.weaken fun x hx=>hl.keys x hx,b,fun x hx=>(c x hx).imp (hl.keys x) id,d,e⟩
def Y7 (es:List (AV×AV)):List (AV×AV):=es.map fun x=>(x.1,x.2.strip1)
theorem Low.map {A:zb} {b:Nat} {kt:KT} {es:List (AV×AV)} (hb:A b=some (.map kt es)):Low (A.upd b (.map kt (Y7 es))) A:=by
 refine⟨fun c hc=>?_,fun γ w hs c o hc=>?_⟩
 ·by_cases e:c=b
  ·subst e;rw[hb];rfl
  ·simpa[zb.upd,e] using hc
 ·by_cases e:c=b
  ·subst e
   simp only[zb.upd,if_true,Al1] at hc
   subst hc
   cases hs c _ hb with
   | map _ _ cs clock hf hk hbb hl hr =>
    refine .map kt (Y7 es) cs clock (fun x hx=>?_) hk hbb (by simpa[Y7] using hl) (fun i x e hx he=>?_)
    ·obtain⟨y,hy,rfl⟩:=List.mem_map.1 hx
     exact hf y hy
    ·simp only[Y7,ZX] at hx
     cases hy:es[i]? with
     | none=>simp[hy] at hx
     | some y =>
      simp only[hy,ZW,Al1] at hx
      subst hx
      have:=hr i y e hy he
      exact⟨this.key,this.val.strip1⟩
  ·exact hs c o (by simpa[zb.upd,e] using hc)
theorem zgG (k:AV):∀ es:List (AV×AV),zaC (Y7 es) k=(zaC es k).map AV.strip1
 | []=>rfl
 | (a,u)::r=>by
  have:=zgG k r
  simp only[Y7] at this
  simp only[Y7,List.map_cons,zaC,this]
  split<;>rfl
theorem zgs (k v:AV):∀ es:List (AV×AV),Y7 (zba es k v)=zba (Y7 es) k v.strip1
 | []=>rfl
 | (a,u)::r=>by
  have:=zgs k v r
  simp only[Y7] at this
  simp only[Y7,List.map_cons,zba]
  split
  ·rfl
  ·simp only[List.map_cons,this]
theorem zi9 (n:List UInt8) (v:AV):∀ es:List (AV×AV),zaC (zba es (.str n) v) (.str n)=some v
 | []=>by simp[zba,zaC,zk8]
 | (a,u)::r=>by
  have:=zi9 n v r
  simp only[zba]
  split
  ·simp[zaC,zk8]
  ·rename_i h
   simp only[zaC,h,this]
   simp
def Zz (fr:List (List UInt8×List ItD)) (n:List UInt8):Option (List UInt8×List ItD):=fr.find? fun e=>decide (n=e.1)
theorem zi3 (n:List UInt8):∀ fr:List (List UInt8×List ItD),zaC (cFr fr) (.str n)=(Zz fr n).map fun e=>.sl .no 10 (yK e.2)
 | []=>rfl
 | (a,u)::r=>by
  have:=zi3 n r
  simp only[cFr,Zz] at this
  simp only[cFr,Zz,List.map_cons,zaC,zk8,List.find?_cons]
  by_cases h:n=a
  ·simp[h]
  ·simpa[h] using this
theorem zme (n:List UInt8) (it:List ItD):∀ fr:List (List UInt8×List ItD),Zz fr n=none→zba (cFr fr) (.str n) (.sl .no 10 (yK it))=cFr (fr++[(n,it)])
 | [],_=>rfl
 | (a,u)::r,h=>by
  simp only[Zz,List.find?_cons] at h
  by_cases e:n=a
  ·simp[e] at h
  ·have:=zme n it r (by simpa[e,Zz] using h)
   simp only[cFr] at this
   simp only[cFr,List.map_cons,zba,zk8,e,decide_false,Al7,if_false,this,Al6]
def cIL (l:List (List ItD)):List (List AV):=l.map fun x=>[.sl .no 10 (yK x)]
theorem zix (l:List (List ItD)):(cIL l).length=l.length:=by simp[cIL]
theorem zpu {l a:List (List ItD)} {x:List ItD} {b:List (List ItD)} (h:l=a++x::b):(cIL l).getD a.length []=[.sl .no 10 (yK x)]:=yQ h
abbrev RSt:=List (List UInt8×List ItD)×List (List ItD)×Nat
def rFr (s:SchD) (st:RSt) (f:FragD):RSt:=match Zz st.1 f.nm with
 | some _=>st
 | none=>(st.1++[(f.nm,(Zp s f.sels f.on st.2.2).1)],st.2.1++[(Zp s f.sels f.on st.2.2).1],(Zp s f.sels f.on st.2.2).2)
def rOp (s:SchD) (st:RSt) (o:OpD):RSt:=(st.1,st.2.1++[(Zp s o.sels (Yx s o) st.2.2).1],(Zp s o.sels (Yx s o) st.2.2).2)
def zfr (s:SchD) (d:DocD):RSt:=d.ops.foldl (rOp s) (d.frags.foldl (rFr s) ([],[],0))
def zgR (h:List ItD→yT→Bool×yT):List (List ItD)→yT→Bool×yT
 | [],S=>(true,S)
 | x::r,S=>match h x S with|(true,S')=>zgR h r S'|(false,S')=>(false,S')
noncomputable def mgM (s:SchD) (d:DocD):Bool:=!zdy d&&(zgR (lsF s (zfr s d).1 64) (zfr s d).2.1 ([],[])).1
noncomputable def zcc (s:SchD) (d:DocD) (n:Int):Bool:=decide (n=24)&&mgM s d
theorem zor (fr:List (List UInt8×List ItD)) (n:List UInt8):frL fr n=((Zz fr n).map (·.2)).getD []:=rfl
theorem zkO (fr:List (List UInt8×List ItD)) (a:List UInt8) (it:List ItD) (n:List UInt8):Zz (fr++[(a,it)]) n=(Zz fr n).or (if n=a then some (a,it) else none):=by
 simp only[Zz,List.find?_append]
 congr 1
 by_cases h:n=a<;>simp[h]
theorem zni (s:SchD):∀(fs done:List FragD) (st:RSt),(∀ n,∃ typ no,(Zz st.1 n).map (·.2)=((done.find? (zct n)).map fun f=>(Zp s f.sels typ no).1))→∀ n,∃ typ no,(Zz (fs.foldl (rFr s) st).1 n).map (·.2)=(((done++fs).find? (zct n)).map fun f=>(Zp s f.sels typ no).1)
 | [],done,st,h=>by simpa using h
 | f::fs,done,st,h=>by
  have hn:=zni s fs (done++[f]) (rFr s st f) (fun n=>by
   obtain⟨typ,no,e⟩:=h n
   cases hf:Zz st.1 f.nm with
   | some x =>
    have e2:rFr s st f=st:=by unfold rFr;rw[hf]
    rw[e2,List.find?_append]
    refine⟨typ,no,?_⟩
    rw[e]
    cases hd:done.find? (zct n) with
    | some y=>simp
    | none =>
     by_cases hfn:f.nm=n
     ·rw[hfn] at hf
      rw[hf,hd] at e
      simp at e
     ·simp[zct,hfn]
   | none =>
    have e2:(rFr s st f).1=st.1++[(f.nm,(Zp s f.sels f.on st.2.2).1)]:=by unfold rFr;rw[hf]
    rw[e2,zkO,List.find?_append]
    cases hd:done.find? (zct n) with
    | some y =>
     refine⟨typ,no,?_⟩
     rw[hd] at e
     cases hx:Zz st.1 n with
     | none=>rw[hx] at e;simp at e
     | some z=>rw[hx] at e;simpa using e
    | none =>
     rw[hd] at e
     have hx:Zz st.1 n=none:=by
      cases hx:Zz st.1 n with
      | none=>rfl
      | some z=>rw[hx] at e;simp at e
     refine⟨f.on,st.2.2,?_⟩
     rw[hx]
     by_cases hfn:f.nm=n
     ·subst hfn;simp[zct]
     ·have:¬ n=f.nm:=fun e=>hfn e.symm
      simp[zct,hfn,this])
  intro n
  obtain⟨typ,no,e⟩:=hn n
  exact⟨typ,no,by rw[List.foldl_cons,e];simp⟩
theorem zpl (s:SchD):∀(os:List OpD) (st:RSt),(os.foldl (rOp s) st).1=st.1
 | [],st=>rfl
 | o::os,st=>by rw[List.foldl_cons,zpl s os];rfl
theorem zq6 (s:SchD) (d:DocD) (n:List UInt8):∃ typ no,frL (zfr s d).1 n=(Zp s (frS d n) typ no).1:=by
 obtain⟨typ,no,e⟩:=zni s d.frags [] ([],[],0) (fun n=>⟨[],0,rfl⟩) n
 refine⟨typ,no,?_⟩
 rw[zor,zfr,zpl,e,zdC,frS,yD]
 cases d.frags.find? (zct n) with
 | none=>simp[zFr,Zp]
 | some f=>simp
theorem zpe (s:SchD):∀(fs:List FragD) (st:RSt),∀ l∈(fs.foldl (rFr s) st).2.1,l∈st.2.1∨∃ f∈fs,∃ typ no,l=(Zp s f.sels typ no).1
 | [],st,l,h=>.inl h
 | f::fs,st,l,h=>by
  rcases zpe s fs (rFr s st f) l h with h1|⟨g,hg,typ,no,e⟩
  ·unfold rFr at h1
   split at h1
   ·exact .inl h1
   ·rcases List.mem_append.1 h1 with h2|h2
    ·exact .inl h2
    ·simp only[List.mem_singleton] at h2
     exact .inr ⟨f,Yz ..,_,_,h2⟩
  ·exact .inr ⟨g,zap _ hg,typ,no,e⟩
theorem zn2 (s:SchD):∀(os:List OpD) (st:RSt),∀ l∈(os.foldl (rOp s) st).2.1,l∈st.2.1∨∃ o∈os,∃ typ no,l=(Zp s o.sels typ no).1
 | [],st,l,h=>.inl h
 | o::os,st,l,h=>by
  rcases zn2 s os (rOp s st o) l h with h1|⟨g,hg,typ,no,e⟩
  ·rcases List.mem_append.1 h1 with h2|h2
   ·exact .inl h2
   ·simp only[List.mem_singleton] at h2
    exact .inr ⟨o,Yz ..,_,_,h2⟩
  ·exact .inr ⟨g,zap _ hg,typ,no,e⟩
theorem zhc {d:DocD} {x:List SelD} (h:x∈Zb d):bSs x≤zy d:=by
 have:=zdU h
 omega
theorem zpx {s:SchD} {d:DocD} (hl:zaK s d=true) (hb:zy d≤Lim):∀ l∈(zfr s d).2.1,Ex (zfr s d).1 64 l:=fun l h=>by
 have hex:∀ x∈Zb d,∀ typ no,Ex (zfr s d).1 64 (Zp s x typ no).1:=fun x hx typ no=>by
  obtain⟨e,he,h1⟩:=zrI (s:=s) (zq6 s d) (fun n=>by
   cases hf:yD d n with
   | none=>simp[frS,hf,zFr,bSs]
   | some f =>
    have hm:f∈d.frags:=List.mem_of_find?_eq_some hf
    have h1:=zag f
    have h2:=zbw hm
    simp only[frS,hf,Option.getD_some,zy] at hb ⊢
    omega) 41 40 x (by have:=zhc hx;omega) (zfg hl x hx)
  have:=zfg hl x hx
  exact(h1 typ no).mono (by omega)
 rcases zn2 s d.ops _ l h with h1|⟨o,ho,typ,no,rfl⟩
 ·rcases zpe s d.frags _ l h1 with h2|⟨f,hf,typ,no,rfl⟩
  ·cases h2
  ·exact hex _ (by simp only[Zb,List.mem_append,List.mem_map];exact .inr ⟨f,hf,rfl⟩) typ no
 ·exact hex _ (by simp only[Zb,List.mem_append,List.mem_map];exact .inl ⟨o,ho,rfl⟩) typ no
theorem zsg (s:SchD) (st:RSt) (f:FragD):(rFr s st f).2.2≤st.2.2+bF f∧(rFr s st f).2.1.length≤st.2.1.length+1:=by
 unfold rFr
 split
 ·exact⟨by omega,by omega⟩
 ·have:=zdf s f.sels f.on st.2.2
  have:=zag f
  exact⟨by simp only;omega,by simp⟩
theorem zr7 (s:SchD) (st:RSt) (o:OpD):(rOp s st o).2.2≤st.2.2+bO o∧(rOp s st o).2.1.length≤st.2.1.length+1:=by
 have:=zdf s o.sels (Yx s o) st.2.2
 exact⟨by simp only[rOp,bO];omega,by simp[rOp]⟩
end Go.Proofs.YtbcocdloklbkjaaGreatDoor
