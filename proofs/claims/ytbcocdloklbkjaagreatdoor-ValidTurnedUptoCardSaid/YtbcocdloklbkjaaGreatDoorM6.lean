import Derived.Lib.ItoaMem
import Derived.Lib.ItoaLen
import Derived.Lib.ValidLaws
import Derived.Lib.Join
import Derived.Lib.DecodeN
import Derived.Lib.TrimUEq
import Derived.Shelf.Strings.OnBuilder
import Derived.Test.YtbcocdloklbkjaaGreatDoorM1
import Derived.Test.YtbcocdloklbkjaaGreatDoorM2
import Derived.Test.YtbcocdloklbkjaaGreatDoorM3
import Derived.Test.YtbcocdloklbkjaaGreatDoorM4
import Derived.Test.YtbcocdloklbkjaaGreatDoorM5
set_option maxRecDepth 100000
set_option linter.all false
namespace Go.Proofs.YtbcocdloklbkjaaGreatDoor
open Go.Ab
def YX (n:List UInt8):Bool:=decide (n=[73,110,116])||decide (n=[83,116,114,105,110,103])||decide (n=[66,111,111,108,101,97,110])||decide (n=[73,68])
theorem zro (n:List UInt8):zi Tryz.prog 197 [.str n] (.bool (YX n)):=by
 refine zi.go ir197 ck197 (Al4 _) fun KP Q hQ=>?_
 by_cases h1:n=[73,110,116]
 ·have e:YX n=true:=by simp[YX,h1]
  have h1':=eq_true h1
  rw[e] at hQ
  simp(disch:=omega) only[ir197,h1',go_sem]
  exact hQ _ _ _ _ nofun rfl (by simp[zd,ze,AV.strip,AV.strip1])
 by_cases h2:n=[83,116,114,105,110,103]
 ·have e:YX n=true:=by simp[YX,h2]
  have h2':=eq_true h2
  rw[e] at hQ
  simp(disch:=omega) only[ir197,h1,h2',go_sem]
  exact hQ _ _ _ _ nofun rfl (by simp[zd,ze,AV.strip,AV.strip1])
 by_cases h3:n=[66,111,111,108,101,97,110]
 ·have e:YX n=true:=by simp[YX,h3]
  have h3':=eq_true h3
  rw[e] at hQ
  simp(disch:=omega) only[ir197,h1,h2,h3',go_sem]
  exact hQ _ _ _ _ nofun rfl (by simp[zd,ze,AV.strip,AV.strip1])
 have e:YX n=decide (n=[73,68]):=by simp[YX,h1,h2,h3]
 rw[e] at hQ
 simp(disch:=omega) only[ir197,h1,h2,h3,go_sem]
 exact hQ _ _ _ _ nofun rfl (by simp[zd,ze,AV.strip,AV.strip1])
def zE:DefD:=⟨0,[],[],[],[],[]⟩
def scE (n:List UInt8):DefD:=⟨0,n,[],[],[],[]⟩
def nmE (n:List UInt8) (d:DefD):Bool:=decide (d.nm=n)
def yM (s:SchD) (n:List UInt8):Option DefD:=if YX n=true then some (scE n) else s.defs.find? (nmE n)
theorem yc {s:SchD} (h:zJ s≤Lim):s.defs.length≤Lim:=by have:=ze7 s.defs;simp only[zJ] at h;omega
theorem zeB (s:SchD) (n:List UInt8) (hb:s.defs.length≤Lim):zi Tryz.prog 137 [.agg (zq s),.str n] (.tup [.agg (cE ((yM s n).getD zE)),.bool (yM s n).isSome]):=by
 refine zi.go ir137 ck137 (Al4 _) fun KP Q hQ=>?_
 obtain⟨defs,q,m⟩:=s
 have h1:=zep defs
 simp only[Lim] at hb
 simp(disch:=omega) only[ir137,zq,go_sem]
 refine zb fun b4 hb4=>?_
 simp(disch:=omega) only[zq,go_sem]
 refine za (zro n) ?_
 cases hs:YX n
 case true =>
  have e:yM ⟨defs,q,m⟩ n=some (scE n):=by simp[yM,hs]
  rw[e] at hQ
  simp(disch:=omega) only[zq,go_sem]
  exact hQ _ _ _ [.agg [.int .i64 0,.str n,.sl .nil 1 [],.sl .nil 6 [],.sl .nil 1 [],.sl .nil 10 []],.bool true] nofun (by simp(disch:=omega) only[ir137,zL,Zt,go_sem]) rfl
 have e:yM ⟨defs,q,m⟩ n=defs.find? (nmE n):=by simp[yM,hs]
 rw[e] at hQ
 simp(disch:=omega) only[zq,h1,go_sem]
 refine zf defs 15 (fun _:Unit=>[]) (fun done rest n' H=>H b4=some (.cells [.int .i64 0,.str [],.sl .nil 1 [],.sl .nil 6 [],.sl .nil 1 [],.sl .nil 10 []])∧rest.find? (nmE n)=defs.find? (nmE n)) () (by simp(disch:=omega) only[go_sem]) ⟨upd_same ..,rfl⟩ ?_ ?_
 ·rintro _ H J ⟨hH,hp⟩ hlt
  rw[← hp] at hQ
  simp(disch:=omega) only[h1,hlt,hH,go_sem]
  exact hQ _ _ _ [.agg [.int .i64 0,.str [],.sl .nil 1 [],.sl .nil 6 [],.sl .nil 1 [],.sl .nil 10 []],.bool false] nofun (by simp(disch:=omega) only[ir137,zL,Zt,go_sem]) rfl
 ·rintro done x rest _ H J hd hlt _ ⟨hH,hp⟩ hJ
  have hg:=zdr hd
  simp(disch:=omega) only[h1,hlt,hg,go_sem]
  refine zb fun b7 hb7=>?_
  have hne:b4≠b7:=fun e=>by subst e;rw[hH] at hb7;cases hb7
  by_cases h:x.nm=n
  ·have e2:defs.find? (nmE n)=some x:=by rw[← hp];simp[nmE,h]
   rw[e2] at hQ
   obtain⟨k,nm,fs,fl,ps,pa⟩:=x
   simp only at h
   simp(disch:=omega) only[ye,hH,hne,Ne.symm hne,h,go_sem]
   exact hQ _ _ _ [.agg (cE ⟨k,nm,fs,fl,ps,pa⟩),.bool true] nofun (by simp(disch:=omega) only[ir137,zL,Zt,ye,h,go_sem]) rfl
  ·have e2:rest.find? (nmE n)=defs.find? (nmE n):=by rw[← hp];simp[nmE,h]
   obtain⟨k,nm,fs,fl,ps,pa⟩:=x
   simp only at h
   simp(disch:=omega) only[ye,hH,hne,Ne.symm hne,h,go_sem]
   exact goJ (hJ () _ ⟨by simp(disch:=omega) only[hH,hne,Ne.symm hne,go_sem],e2⟩) (by simp(disch:=omega) only[wrap64,go_sem])
def cI (k:Int):List AV:=[.int .i64 k]
def ziS (x:Int):List Int→Int→Int
 | [],_=>-1
 | y::r,i=>if x=y then i else ziS x r (i+1)
def znb (l:List Int) (x:Int):Bool:=l.any fun y=>decide (x=y)
theorem zkU (x:Int):∀ l (i:Int),0≤i→decide (0≤ziS x l i)=znb l x
 | [],i,_=>by simp[ziS,znb]
 | y::r,i,hi=>by
  have:=zkU x r (i+1) (by omega)
  simp only[ziS,znb,List.any_cons] at this ⊢
  by_cases h:x=y
  ·simp[h];omega
  ·simp only[h,if_false,decide_false,Bool.false_or];exact this
theorem zqS (l:List Int) (x:Int) (hl:l.length≤Lim):zi Tryz.prog 225 [.sl .no 1 (l.map cI),.int .i64 x] (.int .i64 (ziS x l 0)):=by
 refine zi.go ir225 ck225 (Al4 _) fun KP Q hQ=>?_
 have h1:(l.map cI).length=l.length:=List.length_map ..
 simp only[Lim] at hl
 simp(disch:=omega) only[ir225,h1,go_sem]
 refine zf l 8 (fun _:Unit=>[]) (fun done rest n H=>ziS x rest done.length=ziS x l 0) () (by simp(disch:=omega) only[go_sem]) rfl ?_ ?_
 ·rintro n H J hn hlt
  simp(disch:=omega) only[h1,hlt,go_sem]
  simp only[ziS] at hn
  exact hQ _ _ _ _ nofun rfl (by simp[zd,ze,AV.strip,AV.strip1,← hn])
 ·rintro done y rest n H J hd hlt _ hn hJ
  have hg:(l.map cI).getD done.length []=[.int .i64 y]:=yR hd
  simp only[ziS] at hn
  by_cases hx:x=y
  ·subst hx
   simp only[if_true] at hn
   simp(disch:=omega) only[h1,hlt,hg,go_sem]
   exact hQ _ _ _ _ nofun rfl (by simp[zd,ze,AV.strip,AV.strip1,← hn])
  ·simp only[hx,if_false] at hn
   simp(disch:=omega) only[h1,hlt,hg,hx,go_sem]
   exact goJ (hJ () _ (by simpa using hn)) (by simp(disch:=omega) only[wrap64,go_sem])
theorem zlt (l:List Int) (x:Int) (hl:l.length≤Lim):zi Tryz.prog 195 [.sl .no 1 (l.map cI),.int .i64 x] (.bool (znb l x)):=by
 refine zi.go ir195 ck195 (Al4 _) fun KP Q hQ=>?_
 simp(disch:=omega) only[ir195,go_sem]
 refine za (zqS l x hl) ?_
 simp(disch:=omega) only[go_sem]
 have:=zkU x l 0 (by omega)
 exact hQ _ _ _ _ nofun rfl (by simp[zd,ze,AV.strip,AV.strip1,this])
def Zc (s:SchD) (n:List UInt8) (ks:List Int):Bool:=(yM s n).any fun d=>znb ks d.k
theorem zcy (s:SchD) (n:List UInt8) (ks:List Int) (hb:s.defs.length≤Lim) (hk:ks.length≤Lim):zi Tryz.prog 132 [.agg (zq s),.str n,.sl .no 1 (ks.map cI)] (.bool (Zc s n ks)):=by
 refine zi.go ir132 ck132 (Al4 _) fun KP Q hQ=>?_
 have hf:=zeB s n hb
 obtain⟨defs,q,m⟩:=s
 simp only[Zc] at hQ
 simp only[zq] at hf
 simp(disch:=omega) only[ir132,zq,go_sem]
 refine za hf ?_
 cases hfe:yM ⟨defs,q,m⟩ n with
 | none =>
  simp(disch:=omega) only[Option.getD,Option.isSome,zE,ye,go_sem]
  refine zb fun b7 hb7=>?_
  simp(disch:=omega) only[ye,go_sem]
  exact hQ _ _ _ _ nofun rfl (by simp[zd,ze,AV.strip,AV.strip1,hfe])
 | some d =>
  obtain⟨k,nm,fs,fl,ps,pa⟩:=d
  simp(disch:=omega) only[Option.getD,Option.isSome,ye,go_sem]
  refine zb fun b7 hb7=>?_
  simp(disch:=omega) only[ye,go_sem]
  refine za (zlt ks k hk) ?_
  simp(disch:=omega) only[go_sem]
  exact hQ _ _ _ _ nofun rfl (by simp[zd,ze,AV.strip,AV.strip1,hfe])
def zaD (s:SchD) (n:List UInt8):Bool:=Zc s n [0,4]
def ZZ (s:SchD) (n:List UInt8):Bool:=Zc s n [1,2,3]
def zbE (s:SchD) (n:List UInt8):Bool:=Zc s n [0,4,5]
theorem zjy (s:SchD) (n:List UInt8) (hb:s.defs.length≤Lim):zi Tryz.prog 90 [.agg (zq s),.str n] (.bool (zaD s n)):=by
 refine zi.go ir90 ck90 (Al4 _) fun KP Q hQ=>?_
 have hf:=zcy s n [0,4] hb (by decide)
 obtain⟨defs,q,m⟩:=s
 simp only[zq,List.map,cI] at hf
 simp(disch:=omega) only[ir90,zq,go_sem]
 refine za (zi.low hf) ?_
 simp(disch:=omega) only[go_sem]
 exact hQ _ _ _ _ nofun rfl (by simp[zd,ze,AV.strip,AV.strip1,zaD])
theorem zgz (s:SchD) (n:List UInt8) (hb:s.defs.length≤Lim):zi Tryz.prog 77 [.agg (zq s),.str n] (.bool (ZZ s n)):=by
 refine zi.go ir77 ck77 (Al4 _) fun KP Q hQ=>?_
 have hf:=zcy s n [1,2,3] hb (by decide)
 obtain⟨defs,q,m⟩:=s
 simp only[zq,List.map,cI] at hf
 simp(disch:=omega) only[ir77,zq,go_sem]
 refine za (zi.low hf) ?_
 simp(disch:=omega) only[go_sem]
 exact hQ _ _ _ _ nofun rfl (by simp[zd,ze,AV.strip,AV.strip1,ZZ])
theorem zqa (s:SchD) (n:List UInt8) (hb:s.defs.length≤Lim):zi Tryz.prog 104 [.agg (zq s),.str n] (.bool (zbE s n)):=by
 refine zi.go ir104 ck104 (Al4 _) fun KP Q hQ=>?_
 have hf:=zcy s n [0,4,5] hb (by decide)
 obtain⟨defs,q,m⟩:=s
 simp only[zq,List.map,cI] at hf
 simp(disch:=omega) only[ir104,zq,go_sem]
 refine za (zi.low hf) ?_
 simp(disch:=omega) only[go_sem]
 exact hQ _ _ _ _ nofun rfl (by simp[zd,ze,AV.strip,AV.strip1,zbE])
def tnB:List UInt8:=[95,95,116,121,112,101,110,97,109,101]
def zF:FldD:=⟨[],[],⟨[],0,0⟩,[]⟩
def tnF:FldD:=⟨tnB,[],⟨[83,116,114,105,110,103],0,1⟩,[]⟩
def nmF (n:List UInt8) (f:FldD):Bool:=decide (f.nm=n)
def yw (s:SchD) (typ nm:List UInt8):Option FldD :=
 if nm=tnB∧ZZ s typ=true then some tnF else match yM s typ with
  | none=>none
  | some d=>if d.k=1∨d.k=2 then d.flds.find? (nmF nm) else none
theorem ziU {d:DefD}:∀ {l:List DefD},d∈l→bE d≤bEs l
 | x::l,h=>by
  rcases List.mem_cons.1 h with rfl|h
  ·simp only[bEs,List.map_cons,List.sum_cons];omega
  ·have:=ziU h;simp only[bEs,List.map_cons,List.sum_cons] at this ⊢;omega
theorem Yr {s:SchD} {n:List UInt8} {d:DefD} (h:yM s n=some d):bLs d.flds≤zJ s∧bT d.faces≤zJ s∧bT d.parts≤zJ s∧bWs d.ps≤zJ s:=by
 unfold yM at h
 split at h
 ·cases h;simp[scE,bLs,bT,bWs]
 ·have:=ziU (List.mem_of_find?_eq_some h)
  simp only[bE,zJ] at this ⊢
  omega
theorem zqF (f:FldD) (n:List UInt8):zi Tryz.prog 139 [.agg (cL f),.view [.str n]] (.bool (nmF n f)):=by
 obtain⟨nm,ps,⟨a,b,c⟩,ds⟩:=f
 refine zi.go ir139 ck139 (Al4 _) fun KP Q hQ=>?_
 simp(disch:=omega) only[ir139,zaB,go_sem]
 exact hQ _ _ _ _ nofun rfl (by simp[zd,ze,AV.strip,AV.strip1,nmF])
theorem zfs (s:SchD) (typ nm:List UInt8) (hb:zJ s≤Lim):zi Tryz.prog 88 [.agg (zq s),.str typ,.str nm] (.tup [.agg (cL ((yw s typ nm).getD zF)),.bool (yw s typ nm).isSome]):=by
 refine zi.go ir88 ck88 (Al4 _) fun KP Q hQ=>?_
 have hl:=yc hb
 have hc:=zgz s typ hl
 have hf:=zeB s typ hl
 have hle:=@Yr s typ
 have hlb:zJ s≤1099511627776:=hb
 have stripz:∀ b,(zd [AV.agg [.str [],.sl .nil 10 [],.str [],.int .i64 0,.int .i64 0,.sl .nil 2 []],.bool b]).strip=.tup [.agg (cL zF),.bool b]:=fun _=>rfl
 have strips:∀ x b,(zd [AV.agg (cL x),.bool b]).strip=.tup [.agg (cL x),.bool b]:=fun _ _=>rfl
 obtain⟨sd,sq,sm⟩:=s
 generalize hS:(⟨sd,sq,sm⟩:SchD)=s at *
 have hcs:zq s=[.sl .no 6 (cEs sd),.str sq,.str sm]:=by rw[← hS];rfl
 rw[hcs] at hc hf ⊢
 have fin:∀ o,yw s typ nm=o→∀ ρ H vs,zL ρ H ir88.res=some vs→(zd vs).strip=.tup [.agg (cL (o.getD zF)),.bool o.isSome]→Q .ret ρ H:=fun o e ρ H vs h1 h2=>hQ _ ρ H vs nofun h1 (by rw[h2,e])
 have e0:¬ (nm=tnB∧ZZ s typ=true)→yw s typ nm=match yM s typ with|none=>none|some d=>if d.k=1∨d.k=2 then d.flds.find? (nmF nm) else none:=fun h=>by simp only[yw,h,if_false]
 have three:(nm=tnB∧ZZ s typ=true)∨(nm=tnB∧ZZ s typ=false)∨nm≠tnB:=by
  cases ZZ s typ<;>by_cases h:nm=tnB<;>simp[h]
 rcases three with ⟨ht,hcm⟩|h2
 ·have ht':(nm=[95,95,116,121,112,101,110,97,109,101])=True:=eq_true ht
  rw[hcm] at hc
  simp(disch:=omega) only[ir88,go_sem]
  refine zb fun b6 hb6=>?_
  simp(disch:=omega) only[ht',go_sem]
  refine za hc ?_
  simp(disch:=omega) only[go_sem]
  exact fin (some tnF) (by simp[yw,ht,hcm]) _ _ [.agg [.str tnB,.sl .nil 10 [],.str [83,116,114,105,110,103],.int .i64 0,.int .i64 1,.sl .nil 2 []],.bool true] (by simp(disch:=omega) only[ir88,zL,Zt,tnB,go_sem]) rfl
 have e1:=e0 (by rcases h2 with ⟨_,h⟩|h<;>simp[h])
 rcases h2 with ⟨ht,hcm⟩|ht
 case' inl =>
  have ht':(nm=[95,95,116,121,112,101,110,97,109,101])=True:=eq_true ht
  rw[hcm] at hc
  simp(disch:=omega) only[ir88,go_sem]
  refine zb fun b6 hb6=>?_
  simp(disch:=omega) only[ht',go_sem]
  refine za hc ?_
  simp(disch:=omega) only[go_sem]
 case' inr =>
  have ht':¬ nm=[95,95,116,121,112,101,110,97,109,101]:=ht
  simp(disch:=omega) only[ir88,go_sem]
  refine zb fun b6 hb6=>?_
  simp(disch:=omega) only[ht',go_sem]
 all_goals
  refine za hf ?_
  cases hfe:yM s typ with
  | none =>
   rw[hfe] at e1
   simp(disch:=omega) only[Option.getD,Option.isSome,zE,ye,go_sem]
   refine zb fun b8 hb8=>?_
   have hne:=yS hb8
   simp(disch:=omega) only[ye,hne,Ne.symm hne,go_sem]
   exact fin none e1 _ _ [.agg [.str [],.sl .nil 10 [],.str [],.int .i64 0,.int .i64 0,.sl .nil 2 []],.bool false] (by simp(disch:=omega) only[ir88,zL,Zt,hne,Ne.symm hne,go_sem]) rfl
  | some d =>
   rw[hfe] at e1
   have hle2:=(hle hfe).1
   obtain⟨k,dn,fs,fl,ps,pa⟩:=d
   simp only at e1 hle2
   have hfl:=YW fl
   by_cases hk:k=1∨k=2
   case neg =>
    rw[if_neg hk] at e1
    have hk1:¬ k=1:=fun h=>hk (.inl h)
    have hk2:¬ k=2:=fun h=>hk (.inr h)
    simp(disch:=omega) only[Option.getD,Option.isSome,ye,go_sem]
    refine zb fun b8 hb8=>?_
    have hne:=yS hb8
    simp(disch:=omega) only[ye,hne,Ne.symm hne,hk1,hk2,go_sem]
    exact fin none e1 _ _ [.agg [.str [],.sl .nil 10 [],.str [],.int .i64 0,.int .i64 0,.sl .nil 2 []],.bool false] (by simp(disch:=omega) only[ir88,zL,Zt,hne,Ne.symm hne,go_sem]) rfl
   rw[if_pos hk] at e1
   have hx:=ztq cL (fun _=>rfl) fl 139 [.view [.str nm]] (nmF nm) (by simp only[Lim];omega) (by kernel_rfl) fun x _=>zqF x nm
   rcases hk with hk|hk
   all_goals
    subst hk
    simp(disch:=omega) only[Option.getD,Option.isSome,ye,go_sem]
    refine zb fun b8 hb8=>?_
    have hne:=yS hb8
    simp(disch:=omega) only[ye,hne,Ne.symm hne,go_sem]
    refine za hx ?_
    rcases zag (nmF nm) fl 0 with ⟨a,x,r,h1,h2,h3,h4⟩|⟨h1,h2⟩
    ·rw[h4,Int.zero_add]
     rw[h3] at e1
     have hg:=zdj h1
     have h6:=zaY fl
     have h5:(a.length:Int)<fl.length:=by rw[h1,Al5,Al2];omega
     have h7:¬ ((a.length:Int)<0):=by omega
     simp(disch:=omega) only[hne,Ne.symm hne,hg,h6,h5,h7,cL,go_sem]
     refine fin (some x) e1 _ _ [.agg (cL x),.bool true] ?_ rfl
     simp(disch:=omega) only[ir88,zL,Zt,hne,Ne.symm hne,cL,go_sem]
    ·rw[h2]
     rw[h1] at e1
     simp(disch:=omega) only[hne,Ne.symm hne,go_sem]
     exact fin none e1 _ _ [.agg [.str [],.sl .nil 10 [],.str [],.int .i64 0,.int .i64 0,.sl .nil 2 []],.bool false] (by simp(disch:=omega) only[ir88,zL,Zt,hne,Ne.symm hne,go_sem]) rfl
def zbN (l:List (List UInt8)) (n:List UInt8):List (List UInt8):=if z8 n l=true then l else l++[n]
theorem zms (l:List (List UInt8)) (n:List UInt8):(zbN l n).length≤l.length+1:=by unfold zbN;split<;>simp
theorem zu3 (l:List (List UInt8)) (n:List UInt8) (o:Own) (H:zc) (hb:l.length+1≤Lim) (ho:zR H o l.length 1):zac Tryz.prog 198 [.sl o 1 (cT l),.str n] H o 1 (cT (zbN l n)):=by
 have h3:=zK l
 have hb':=hb
 simp only[Lim] at hb'
 refine zk.goO ir198 ck198 (Al4 _) fun KP Q hQ hP=>?_
 simp(disch:=omega) only[ir198,go_sem]
 refine za (zi.low (yQ l n (by simp only[Lim];omega))) ?_
 cases hh:z8 n l with
 | true =>
  simp(disch:=omega) only[hh,go_sem]
  refine hQ _ _ H H _ nofun rfl (Low.refl _) ⟨o,?_,?_⟩
  ·simp[zd,ze,zbN,hh]
  ·simpa[zbN,hh,h3] using OwnS.refl ho
 | false =>
  simp(disch:=omega) only[hh,go_sem]
  refine zt (by rw[h3];exact ho) ?_ ?_ fun o' H' hs=>?_
  ·simp only[h3,Al2,Al3];omega
  ·simp only[h3,Al2,Al3,maxLen];omega
  simp(disch:=omega) only[go_sem]
  refine hQ _ _ H' H' _ nofun rfl (Low.refl _) ⟨o',?_,?_⟩
  ·simp[zd,ze,zbN,hh,cT,AV.strip1]
  ·simpa[zbN,hh,h3,zK] using hs
def zbm (s:SchD) (n:List UInt8):List (List UInt8):=match yM s n with
 | none=>[]
 | some d=>if d.k=1 then [n] else if d.k=2 then s.defs.foldl (fun l x=>if x.k=1∧z8 n x.faces=true then zbN l x.nm else l) []
  else if d.k=3 then d.parts.foldl (fun l p=>if Zc s p [1]=true then zbN l p else l) [] else []
def zbt (n:List UInt8) (l:List (List UInt8)) (x:DefD):List (List UInt8):=if x.k=1∧z8 n x.faces=true then zbN l x.nm else l
def zcB (s:SchD) (l:List (List UInt8)) (p:List UInt8):List (List UInt8):=if Zc s p [1]=true then zbN l p else l
theorem zkP (s:SchD) (n:List UInt8):zbm s n=match yM s n with
  | none=>[]
  | some d=>if d.k=1 then [n] else if d.k=2 then s.defs.foldl (zbt n) [] else if d.k=3 then d.parts.foldl (zcB s) [] else []:=rfl
theorem zjW (n:List UInt8) (l:List (List UInt8)) (x:DefD):(zbt n l x).length≤l.length+1:=by have:=zms l x.nm;unfold zbt;split<;>omega
theorem zkW (s:SchD) (l:List (List UInt8)) (x:List UInt8):(zcB s l x).length≤l.length+1:=by have:=zms l x;unfold zcB;split<;>omega
theorem zpf (s:SchD) (n:List UInt8) (hb:zJ s≤Lim):zi Tryz.prog 140 [.agg (zq s),.str n] (.sl .no 1 (cT (zbm s n))):=by
 refine zi.go ir140 ck140 (Al4 _) fun KP Q hQ=>?_
 have hl:=yc hb
 have hf:=zeB s n hl
 have hle:=@Yr s n
 have hlb:zJ s≤1099511627776:=hb
 have hkind:=fun p=>zcy s p [1] hl (by decide)
 have e0:=zkP s n
 have hbE:=ze7 s.defs
 have hmem:=fun(d:DefD) (h:d∈s.defs)=>ziU h
 obtain⟨sd,sq,sm⟩:=s
 generalize hS:(⟨sd,sq,sm⟩:SchD)=s at *
 have hcs:zq s=[.sl .no 6 (cEs sd),.str sq,.str sm]:=by rw[← hS];rfl
 have hsd:s.defs=sd:=by rw[← hS]
 have hbs:bEs sd≤zJ s:=by rw[← hS];simp only[zJ];omega
 rw[hsd] at e0 hbE hmem
 simp only[hcs,List.map,cI] at hf hkind ⊢
 have h1:=zep sd
 have fin:∀ l,zbm s n=l→∀ ρ H vs,zL ρ H ir140.res=some vs→(zd vs).strip=.sl .no 1 (cT l)→Q .ret ρ H:=fun o e ρ H vs h1 h2=>hQ _ ρ H vs nofun h1 (by rw[h2,e])
 simp(disch:=omega) only[ir140,go_sem]
 refine za hf ?_
 cases hfe:yM s n with
 | none =>
  rw[hfe] at e0
  simp(disch:=omega) only[Option.getD,Option.isSome,zE,ye,go_sem]
  refine zb fun b5 hb5=>?_
  simp(disch:=omega) only[ye,go_sem]
  exact fin [] e0 _ _ [.sl .nil 1 []] (by simp(disch:=omega) only[ir140,zL,Zt,go_sem]) rfl
 | some d =>
  rw[hfe] at e0
  obtain⟨_,_,hle2,_⟩:=hle hfe
  obtain⟨k,dn,fs,fl,ps,pa⟩:=d
  simp only at e0 hle2
  have hps:=ZP ps
  by_cases k1:k=1
  ·subst k1
   simp(disch:=omega) only[Option.getD,Option.isSome,ye,go_sem]
   refine zb fun b5 hb5=>?_
   simp(disch:=omega) only[ye,go_sem]
   exact fin [n] (by rw[e0];rfl) _ _ [.sl .full 1 [[.str n]]] (by simp(disch:=omega) only[ir140,zL,Zt,go_sem]) rfl
  by_cases k2:k=2
  ·subst k2
   simp only[Int.reduceEq,if_false,if_true] at e0
   simp(disch:=omega) only[Option.getD,Option.isSome,ye,go_sem]
   refine zb fun b5 hb5=>?_
   simp(disch:=omega) only[ye,h1,go_sem]
   refine zf sd 31 (fun x:Own×List (List UInt8)=>[(7,.sl x.1 1 (cT x.2))]) (fun done rest x H'=>rest.foldl (zbt n) x.2=sd.foldl (zbt n) []∧x.2.length+rest.length≤sd.length∧zR H' x.1 x.2.length 1) (.nil,[]) (by simp(disch:=omega) only[cT,List.map,go_sem]) ⟨rfl,by simp,rfl⟩ ?_ ?_
   ·rintro⟨o1,a⟩ H' J ⟨hn,_,hs⟩ hlt
    simp only[List.foldl] at hn
    simp(disch:=omega) only[h1,hlt,go_sem]
    exact fin a (by rw[e0,← hn]) _ _ [.sl o1 1 (cT a)] (by simp(disch:=omega) only[ir140,zL,Zt,go_sem]) rfl
   ·rintro done x rest ⟨o1,a⟩ H' J hd hlt _ ⟨hn,hle3,hs⟩ hJ
    replace hs:zR H' o1 a.length 1:=hs
    have hg:=zdr hd
    have hx:=hmem x (by rw[hd];simp)
    obtain⟨xk,xn,xfs,xfl,xps,xpa⟩:=x
    have hfs:=ZP xfs
    simp only[bE] at hx
    simp only[List.foldl,Al2] at hn hle3
    have hst:=zjW n a ⟨xk,xn,xfs,xfl,xps,xpa⟩
    simp(disch:=omega) only[h1,hlt,hg,ye,go_sem]
    refine zb fun b9 hb9=>?_
    by_cases hk:xk=1
    case neg =>
     have e2:zbt n a ⟨xk,xn,xfs,xfl,xps,xpa⟩=a:=by simp[zbt,hk]
     rw[e2] at hn
     simp(disch:=omega) only[hk,ye,go_sem]
     exact goJ (hJ (o1,a) _ ⟨hn,by simp only;omega,hs.upd hb9⟩) (by simp(disch:=omega) only[wrap64,go_sem])
    subst hk
    simp(disch:=omega) only[ye,go_sem]
    refine za (yQ xfs n (by simp only[Lim];omega)) ?_
    cases hh:z8 n xfs with
    | false =>
     have e2:zbt n a ⟨1,xn,xfs,xfl,xps,xpa⟩=a:=by simp[zbt,hh]
     rw[e2] at hn
     simp(disch:=omega) only[ye,go_sem]
     exact goJ (hJ (o1,a) _ ⟨hn,by simp only;omega,hs.upd hb9⟩) (by simp(disch:=omega) only[wrap64,go_sem])
    | true =>
     have e2:zbt n a ⟨1,xn,xfs,xfl,xps,xpa⟩=zbN a xn:=by simp[zbt,hh]
     rw[e2] at hn hst
     simp(disch:=omega) only[ye,go_sem]
     refine zB (zu3 a xn o1 _ (by simp only[Lim];omega) (hs.upd hb9)) fun o2 H2 hs2=>?_
     rw[zK] at hs2
     simp(disch:=omega) only[wrap64,go_sem]
     exact goJ (hJ (o2,zbN a xn) H2 ⟨hn,by simp only;omega,hs2.own⟩) (by simp(disch:=omega) only[go_sem])
  by_cases k3:k=3
  ·subst k3
   simp only[Int.reduceEq,if_false,if_true] at e0
   have h2:=zK ps
   simp(disch:=omega) only[Option.getD,Option.isSome,ye,go_sem]
   refine zb fun b5 hb5=>?_
   simp(disch:=omega) only[ye,h2,go_sem]
   refine zf ps 54 (fun x:Own×List (List UInt8)=>[(7,.sl x.1 1 (cT x.2))]) (fun done rest x H'=>rest.foldl (zcB s) x.2=ps.foldl (zcB s) []∧x.2.length+rest.length≤ps.length∧zR H' x.1 x.2.length 1) (.nil,[]) (by simp(disch:=omega) only[cT,List.map,go_sem]) ⟨rfl,by simp,rfl⟩ ?_ ?_
   ·rintro⟨o1,a⟩ H' J ⟨hn,_,hs⟩ hlt
    simp only[List.foldl] at hn
    simp(disch:=omega) only[h2,hlt,go_sem]
    exact fin a (by rw[e0,← hn]) _ _ [.sl o1 1 (cT a)] (by simp(disch:=omega) only[ir140,zL,Zt,go_sem]) rfl
   ·rintro done x rest ⟨o1,a⟩ H' J hd hlt _ ⟨hn,hle3,hs⟩ hJ
    replace hs:zR H' o1 a.length 1:=hs
    have hg:=Z5 hd
    simp only[List.foldl,Al2] at hn hle3
    have hst:=zkW s a x
    simp(disch:=omega) only[h2,hlt,hg,go_sem]
    refine za (zi.low (hkind x)) ?_
    cases hh:Zc s x [1] with
    | false =>
     have e2:zcB s a x=a:=by simp[zcB,hh]
     rw[e2] at hn
     simp(disch:=omega) only[go_sem]
     exact goJ (hJ (o1,a) _ ⟨hn,by simp only;omega,hs⟩) (by simp(disch:=omega) only[wrap64,go_sem])
    | true =>
     have e2:zcB s a x=zbN a x:=by simp[zcB,hh]
     rw[e2] at hn hst
     simp(disch:=omega) only[go_sem]
     refine zB (zu3 a x o1 _ (by simp only[Lim];omega) hs) fun o2 H2 hs2=>?_
     rw[zK] at hs2
     simp(disch:=omega) only[wrap64,go_sem]
     exact goJ (hJ (o2,zbN a x) H2 ⟨hn,by simp only;omega,hs2.own⟩) (by simp(disch:=omega) only[go_sem])
  ·simp only[k1,k2,k3,if_false] at e0
   simp(disch:=omega) only[Option.getD,Option.isSome,ye,go_sem]
   refine zb fun b5 hb5=>?_
   simp(disch:=omega) only[ye,k1,k2,k3,go_sem]
   exact fin [] e0 _ _ [.sl .nil 1 []] (by simp(disch:=omega) only[ir140,zL,Zt,go_sem]) rfl
theorem zR.ofKept {H H':zc} {o o2:Own} {n sz:Nat} (h:zR H o n sz) (hk:Kept H o2 H') (hne:∀ b d d2,o=.tip b d→o2≠.tip b d2):zR H' o n sz:=by
 cases o with
 | tip b d=>exact hk b _ h fun d2 e=>hne b d d2 rfl e
 | no=>exact h
 | nil=>exact h
 | full=>exact h
open Go.Lib Go.RowKit Go.Sort
end Go.Proofs.YtbcocdloklbkjaaGreatDoor
namespace Go.Proofs.YtbcocdloklbkjaaGreatDoor
open Go.Ab
theorem zem (H:zc) (b:Nat) (x y:AObj):(H.upd b x).upd b y=H.upd b y:=by
 funext c;by_cases e:c=b<;>simp[zc.upd,e]
theorem own_ne {H:zc} {c b d n sz:Nat} {cs:List AV} (h:zR H (.tip b d) n sz) (hc:H c=some (.cells cs)):b≠c:=fun e=>by
 subst e
 have:H b=some (.tip (d+n) sz):=h
 rw[hc] at this;cases this
theorem zoi {H H':zc} {o:Own} {n sz c:Nat} {cs:List AV} (h:zR H o n sz) (hc:H c=some (.cells cs)) (hk:Kept H o H'):H' c=some (.cells cs) :=
 hk c _ hc fun d e=>by subst e;exact own_ne h hc rfl
theorem zlZ {H:zc} {o:Own} {n sz c:Nat} {cs:List AV} {x:AObj} (h:zR H o n sz) (hc:H c=some (.cells cs)):zR (H.upd c x) o n sz:=by
 cases o with
 | tip b d=>have:=own_ne h hc;show (H.upd c x) b=_;rw[upd_ne this];exact h
 | no=>exact h
 | nil=>exact h
 | full=>exact h
open Go.Lib
end Go.Proofs.YtbcocdloklbkjaaGreatDoor
namespace Go.Proofs.YtbcocdloklbkjaaGreatDoor
open Go.Ab
def cv (v0:Nat) (b:Nat→Nat):Nat→Nat
 | 0=>v0
 | j+1=>cv v0 b j*64+b (j+1) % 64
open Go.Lib
end Go.Proofs.YtbcocdloklbkjaaGreatDoor
namespace Go.Proofs.YtbcocdloklbkjaaGreatDoor
open Go.Ab
open Go.Lib
end Go.Proofs.YtbcocdloklbkjaaGreatDoor
namespace Go.Proofs.YtbcocdloklbkjaaGreatDoor
open Go.Ab
structure WAt (H:zc) (w:Nat) (o:Own) (l:List Tok) (ok:Bool) (dp:Int):Prop where
 cell:H w=some (.cells [.sl o 2 (cKs l),.bool ok,.int .i64 dp])
 own:zR H o l.length 2
structure WStep (H:zc) (o:Own) (w:Nat) (H':zc) (o':Own):Prop where
 keep:∀ c x,c≠w→(∀ d,o≠.tip c d)→H c=some x→H' c=some x
 new:∀ b d,o'=.tip b d→H b=none∨∃ d0,o=.tip b d0
theorem WStep.refl (H:zc) (o:Own) (w:Nat):WStep H o w H o:=⟨fun _ _ _ _ h=>h,fun b d e=>.inr ⟨d,e⟩⟩
theorem WStep.trans {H H1 H2:zc} {o o1 o2:Own} {w:Nat} {x:AObj} (h:WStep H o w H1 o1) (hw:H1 w=some x) (h':WStep H1 o1 w H2 o2):WStep H o w H2 o2:=by
 refine⟨fun c y hc hn hy=>h'.keep c y hc (fun d e=>?_) (h.keep c y hc hn hy),fun b d e=>?_⟩
 ·rcases h.new c d e with h1|⟨d0,h1⟩
  ·rw[hy] at h1;cases h1
  ·exact hn d0 h1
 ·rcases h'.new b d e with h1|⟨d0,h1⟩
  ·cases hb:H b with
   | none=>exact .inl rfl
   | some y =>
    by_cases e2:∃ d,o=.tip b d
    ·exact .inr e2
    ·have hbw:b≠w:=fun e3=>by subst e3;rw[hw] at h1;cases h1
     have:=h.keep b y hbw (fun d e3=>e2 ⟨d,e3⟩) hb
     rw[h1] at this;cases this
  ·exact h.new b d0 h1
theorem WStep.box {H H':zc} {o o':Own} {w b n:Nat} {cs:List AV} (h:WStep H o w H' o') (ho:zR H o n 2) (hb:H b=some (.cells cs)) (hw:b≠w):H' b=some (.cells cs) :=
 h.keep b _ hw (fun d e=>by subst e;exact own_ne ho hb rfl) hb
theorem WStep.upd {H H':zc} {o o':Own} {w:Nat} {x:AObj} (h:WStep H o w H' o'):WStep H o w (H'.upd w x) o' :=
 ⟨fun c y hc hn hy=>by rw[upd_ne hc];exact h.keep c y hc hn hy,h.new⟩
theorem WStep.alloc {H H':zc} {o o':Own} {w b:Nat} {x:AObj} (h:WStep H o w H' o') (hb:H' b=none):WStep H o w (H'.upd b x) o' :=
 ⟨fun c y hc hn hy=>by have:=h.keep c y hc hn hy;rw[upd_ne (fun e=>by subst e;rw[hb] at this;cases this)];exact this,h.new⟩
theorem WAt.alloc {H:zc} {w b:Nat} {o:Own} {l:List Tok} {ok:Bool} {dp:Int} {x:AObj} (h:WAt H w o l ok dp) (hb:H b=none):WAt (H.upd b x) w o l ok dp :=
 ⟨by rw[upd_ne (fun e=>by subst e;rw[h.cell] at hb;cases hb)];exact h.cell,h.own.upd hb⟩
theorem WAt.put {H:zc} {w:Nat} {o:Own} {l:List Tok} {ok ok':Bool} {dp dp':Int} (h:WAt H w o l ok dp):WAt (H.upd w (.cells [.sl o 2 (cKs l),.bool ok',.int .i64 dp'])) w o l ok' dp' :=
 ⟨upd_same ..,zlZ h.own h.cell⟩
theorem WAt.app {H H1:zc} {w:Nat} {o o1:Own} {l ts:List Tok} {ok:Bool} {dp:Int} {n:Nat} (h:WAt H w o l ok dp) (hs:OwnS H o H1 o1 n 2) (hn:n=(l++ts).length) :
  H1 w=some (.cells [.sl o 2 (cKs l),.bool ok,.int .i64 dp])∧WAt (H1.upd w (.cells [.sl o1 2 (cKs (l++ts)),.bool ok,.int .i64 dp])) w o1 (l++ts) ok dp∧WStep H o w (H1.upd w (.cells [.sl o1 2 (cKs (l++ts)),.bool ok,.int .i64 dp])) o1:=by
 subst hn
 have hc:=zoi h.own h.cell hs.kept
 exact⟨hc,⟨upd_same ..,zlZ hs.own hc⟩,fun c y hcw hn hy=>by rw[upd_ne hcw];exact hs.kept c y hy hn,hs.new⟩
abbrev zpd (R:AV→zc→Prop):AEnd→zc→Prop:=fun e H'=>∃ v,e=.ret v∧R v H'
def WC (f:FuncId) (args:List AV) (B:Nat) (lo hi:Int) (r:Int→Bool) (tk:List Tok):Prop :=
 ∀(H:zc) (w:Nat) (o:Own) (l:List Tok) (ok:Bool) (dp:Int),WAt H w o l ok dp→lo≤dp→dp≤hi→l.length+B≤Lim →
  zk Tryz.prog f (.ptr w 0::args) H (zpd fun v H'=>v=.tup []∧∃ o' l',WAt H' w o' l' (ok&&r dp) dp∧WStep H o w H' o'∧l'.length≤l.length+B∧((ok&&r dp)=true→l'=l++tk))
structure WR (H0:zc) (o0:Own) (w:Nat) (l0:List Tok) (ok0:Bool) (dp:Int) (B:Nat) (r:Bool) (tk:List Tok) (H:zc) (o:Own) (l:List Tok):Prop where
 here:WAt H w o l (ok0&&r) dp
 st:WStep H0 o0 w H o
 len:l.length≤l0.length+B
 eq:(ok0&&r)=true→l=l0++tk
theorem WR.refl {H:zc} {o:Own} {w:Nat} {l:List Tok} {ok:Bool} {dp:Int} (h:WAt H w o l ok dp):WR H o w l ok dp 0 true [] H o l :=
 ⟨by rw[Bool.and_true];exact h,.refl _ _ _,Al4 _,fun _=>by simp⟩
theorem WR.alloc {H0 H:zc} {o0 o:Own} {w b B:Nat} {l0 l tk:List Tok} {ok0 r:Bool} {dp:Int} {x:AObj} (h:WR H0 o0 w l0 ok0 dp B r tk H o l) (hb:H b=none):WR H0 o0 w l0 ok0 dp B r tk (H.upd b x) o l :=
 ⟨h.here.alloc hb,h.st.alloc hb,h.len,h.eq⟩
theorem WR.fin {H0 H:zc} {o0 o:Own} {w B B':Nat} {l0 l tk tk':List Tok} {ok0 r r':Bool} {dp:Int} (h:WR H0 o0 w l0 ok0 dp B r tk H o l) (hr:r=r') (ht:r'=true→tk=tk') (hB:B≤B') :
  ∃ o' l',WAt H w o' l' (ok0&&r') dp∧WStep H0 o0 w H o'∧l'.length≤l0.length+B'∧((ok0&&r')=true→l'=l0++tk'):=by
 subst hr
 refine⟨o,l,h.here,h.st,by have:=h.len;omega,fun e=>?_⟩
 rw[h.eq e,ht (by simp only[Al0] at e;exact e.2)]
section
variable {KP:AV→zc→Prop} {Q:AExit→Env→zc→Prop} {st:List Fr} {ρ:Env} {H:zc} {all items:List AItem} {d:Option Nat} {R:List Chk}
theorem za5 {f:FuncId} {args:List AV} {B:Nat} {lo hi:Int} {r:Int→Bool} {tk:List Tok} (hc:WC f args B lo hi r tk) {w:Nat} {o:Own} {l:List Tok} {ok:Bool} {dp:Int} (h:WAt H w o l ok dp) (h0:lo≤dp) (h1:dp≤hi) (hb:l.length+B≤Lim)
  (k:∀ o' l' H',WAt H' w o' l' (ok&&r dp) dp→WStep H o w H' o'→l'.length≤l.length+B→((ok&&r dp)=true→l'=l++tk)→goR Tryz.prog KP Q all items st R (ρ.set d (.tup [])) H') :
  goK Tryz.prog KP Q all items st d R ρ f (.ptr w 0::args) H:=by
 refine zdi (hc H w o l ok dp h h0 h1 hb) fun v H' ⟨hv,o',l',h2,h3,h4,h5⟩=>?_
 subst hv
 exact k o' l' H' h2 h3 h4 h5
theorem zn {f:FuncId} {args:List AV} {B':Nat} {lo hi:Int} {r':Int→Bool} {tk':List Tok} (hc:WC f args B' lo hi r' tk') {H0:zc} {o0 o:Own} {w B:Nat} {l0 l tk:List Tok} {ok0 r:Bool} {dp:Int} (h:WR H0 o0 w l0 ok0 dp B r tk H o l) (h0:lo≤dp) (h1:dp≤hi)
  (hb:l0.length+(B+B')≤Lim) (k:∀ o' l' H',WR H0 o0 w l0 ok0 dp (B+B') (r&&r' dp) (tk++tk') H' o' l'→WStep H o w H' o'→goR Tryz.prog KP Q all items st R (ρ.set d (.tup [])) H') :
  goK Tryz.prog KP Q all items st d R ρ f (.ptr w 0::args) H:=by
 have hlen:=h.len
 refine za5 hc h.here h0 h1 (by omega) fun o' l' H' h2 h3 h4 h5=>k o' l' H' ⟨by rw[← yf];exact h2,h.st.trans h.here.cell h3,by omega,fun e=>?_⟩ h3
 rw[← yf] at e
 rw[h5 e,h.eq (by simp only[Al0] at e ⊢;exact e.1),zbP]
end
theorem zvq:zk Tryz.prog 125 [] zc.emp (zpd fun v H'=>∃ w,v=.ptr w 0∧WAt H' w .nil [] true 0):=by
 refine zk.go ir125 ck125 (Al4 _) fun KP Q hQ=>?_
 simp(disch:=omega) only[ir125,go_sem]
 refine zb fun b hb=>?_
 simp(disch:=omega) only[go_sem]
 exact hQ _ _ _ _ [_] nofun rfl (Low.refl _) ⟨b,rfl,upd_same ..,rfl⟩
theorem ZI (b:Bool):WC 126 [.bool b] 0 (-1000) 1000 (fun _=>b) []:=by
 intro H w o l ok dp h h0 h1 hb
 refine zk.go ir126 ck126 (Al4 _) fun KP Q hQ=>?_
 have hc:=h.cell
 cases ok
 ·simp(disch:=omega) only[ir126,hc,go_sem]
  exact hQ _ _ _ _ [] nofun rfl (Low.refl _) ⟨rfl,o,l,h.put,(WStep.refl ..).upd,by simp,fun _=>by simp⟩
 ·simp(disch:=omega) only[ir126,hc,go_sem]
  exact hQ _ _ _ _ [] nofun rfl (Low.refl _) ⟨rfl,o,l,by rw[Bool.true_and];exact h.put,(WStep.refl ..).upd,by simp,fun _=>by simp⟩
theorem yr (s:List UInt8) (hs:s.length≤Lim):WC 189 [.str s] 1 (-1000) 1000 (fun _=>zP s) [wk s]:=by
 intro H w o l ok dp h h0 h1 hb
 refine zk.go ir189 ck189 (Al4 _) fun KP Q hQ=>?_
 have hkl:=yy l
 simp only[Lim] at hb
 simp(disch:=omega) only[ir189,go_sem]
 refine za (zh5 s hs) ?_
 simp(disch:=omega) only[go_sem]
 refine za5 (ZI _) h h0 h1 (by simp only[Lim];omega) fun o1 l1 H1 h2 h3 h4 h5=>?_
 have hkl1:=yy l1
 have hc:=h2.cell
 simp(disch:=omega) only[hc,go_sem]
 refine zt (by rw[hkl1];exact h2.own) (by simp only[hkl1,Al2,Al3];omega) (by simp only[hkl1,Al2,Al3,maxLen];omega) fun o2 H2 hs2=>?_
 obtain⟨g1,g2,g3⟩:=h2.app (ts:=[wk s]) hs2 (by simp[hkl1])
 have ek:cKs l1++[[AV.int .i64 2,AV.str s]]=cKs (l1++[wk s]):=zaU l1 (wk s)
 simp(disch:=omega) only[g1,ek,go_sem]
 exact hQ _ _ _ _ [] nofun rfl (Low.refl _) ⟨rfl,o2,l1++[wk s],g2,h3.trans h2.cell g3,by simp;omega,fun e=>by rw[h5 e];simp⟩
theorem yC (m:List UInt8) (o9:Own):WC 190 [.sl o9 1 [[.str m]]] 1 (-1000) 1000 (fun _=>true) [pk m]:=by
 intro H w o l ok dp h h0 h1 hb
 refine zk.go ir190 ck190 (Al4 _) fun KP Q hQ=>?_
 simp only[Lim] at hb
 simp(disch:=omega) only[ir190,go_sem]
 refine zf [m] 8 (fun x:Own×List Tok=>[]) (fun done rest x H'=>WAt H' w x.1 x.2 ok dp∧WStep H o w H' x.1∧x.2=l++done.map pk) (o,l) (by simp(disch:=omega) only[go_sem]) ⟨h,.refl _ _ _,by simp⟩ ?_ ?_
 ·rintro⟨o1,l1⟩ H1 J ⟨h2,h3,h4⟩ hlt
  simp only at h2 h3 h4
  simp(disch:=omega) only[go_sem]
  refine hQ _ _ H1 H1 [] nofun rfl (Low.refl _) ⟨rfl,o1,l1,by simpa using h2,h3,by rw[h4];simp,fun _=>by rw[h4];simp⟩
 ·rintro done x rest ⟨o1,l1⟩ H1 J hd hlt hlt2 ⟨h2,h3,h4⟩ hJ
  simp only at h2 h3 h4
  have hl1:l1.length≤l.length+1:=by rw[h4];simp only[Al5,List.length_map];have:=congrArg List.length hd;simp at this;omega
  have hg:([[AV.str m]]:List (List AV)).getD done.length []=[.str x]:=by
   have:([m].map fun k=>[AV.str k]).getD done.length []=[.str x]:=yR hd
   exact this
  have hkl1:=yy l1
  have hc:=h2.cell
  have hlt1:((done.length:Int)<1)=True:=eq_true (by simpa using hlt)
  have hdl:done.length<1:=by simpa using hlt2
  simp(disch:=omega) only[hlt1,hg,hc,go_sem]
  refine zt (by rw[hkl1];exact h2.own) (by simp only[hkl1,Al2,Al3];omega) (by simp only[hkl1,Al2,Al3,maxLen];omega) fun o2 H2 hs2=>?_
  obtain⟨g1,g2,g3⟩:=h2.app (ts:=[pk x]) hs2 (by simp[hkl1])
  have ek:cKs l1++[[AV.int .i64 1,AV.str x]]=cKs (l1++[pk x]):=zaU l1 (pk x)
  simp(disch:=omega) only[g1,ek,wrap64,go_sem]
  exact goJ (hJ (o2,l1++[pk x]) _ ⟨g2,h3.trans h2.cell g3,by rw[h4];simp⟩) (by simp(disch:=omega) only[go_sem])
theorem zbX (v:Val):YJ v=if zaN v then Yo v else []:=by unfold YJ;rfl
theorem zmz (v:Val) (hw:wfV v) (hv:4*bV v≤Lim) (fixed:Bool):WC 222 [.agg (cV v),.bool fixed] (4*bV v) 0 32 (fun dp=>zZ dp fixed v) (Yo v):=by
 intro H w o l ok dp h h0 h1 hb
 have hvb:bV v≤Lim:=by simp only[Lim] at hv ⊢;omega
 have htl:(YJ v).length≤4*bV v:=by
  have:=zdt v
  rw[zbX];split
  ·omega
  ·simp
 have hkt:=yy (YJ v)
 have hdv:=zdn v
 have hvl:=zbd v []
 have hcv:=zK (Zs v [])
 simp only[Lim] at hb hv
 refine zk.go ir222 ck222 (Al4 _) fun KP Q hQ=>?_
 have hc:=h.cell
 have fin:∀(b:Bool),b=zZ dp fixed v→∀(H2:zc) (o2:Own) (l2:List Tok),WAt H2 w o2 l2 (ok&&b) dp→WStep H o w H2 o2→l2.length≤l.length+0→((ok&&b)=true→l2=l++[]) →
   ∀(H3:zc) (o3:Own),OwnS H2 o2 H3 o3 ((cKs l2).length+(cKs (YJ v)).length) 2 →
   H3 w=some (.cells [.sl o2 2 (cKs l2),.bool (ok&&b),.int .i64 dp])∧∃ o' l',WAt (H3.upd w (.cells [.sl o3 2 (cKs l2++cKs (YJ v)),.bool (ok&&b),.int .i64 dp])) w o' l' (ok&&zZ dp fixed v) dp ∧
    WStep H o w (H3.upd w (.cells [.sl o3 2 (cKs l2++cKs (YJ v)),.bool (ok&&b),.int .i64 dp])) o'∧l'.length≤l.length+4*bV v∧((ok&&zZ dp fixed v)=true→l'=l++Yo v):=by
  intro b hbr H2 o2 l2 h2 h3 h4 h5 H3 o3 hs
  obtain⟨g1,g2,g3⟩:=h2.app (ts:=YJ v) hs (by simp[yy])
  rw[zhe] at g2 g3
  refine⟨g1,o3,l2++YJ v,by rw[← hbr];exact g2,h3.trans h2.cell g3,by simp only[Al5];omega,fun e=>?_⟩
  rw[← hbr] at e
  have er:zZ dp fixed v=true:=by rw[← hbr];simp only[Al0] at e;exact e.2
  have ep:zaN v=true:=by simp only[zZ,Al0] at er;exact er.1
  rw[h5 e,zbX,ep];simp
 have d1:IntKind.wrap .i64 (dp+ZA v)=dp+ZA v:=wrap64 (by omega) (by omega)
 cases hp:zaN v with
 | false =>
  have hbr:false=zZ dp fixed v:=by simp[zZ,hp]
  simp(disch:=omega) only[zp,zl,zh,zo,zm,zg,zr,ir222,go_sem]
  refine za (zbw v hw hv) ?_
  simp(disch:=omega) only[hp,go_sem]
  refine za5 (ZI _) h (by omega) (by omega) (by simp only[Lim];omega) fun o2 l2 H2 h2 h3 h4 h5=>?_
  have hk2:=yy l2
  have hc2:=h2.cell
  simp(disch:=omega) only[hc2,go_sem]
  refine zt (by rw[hk2];exact h2.own) (by rw[hk2,hkt];omega) (by rw[hk2,hkt];simp only[maxLen];omega) fun o3 H3 hs3=>?_
  obtain⟨g1,g2⟩:=fin _ hbr H2 o2 l2 h2 h3 h4 h5 H3 o3 hs3
  simp(disch:=omega) only[g1,Z2,go_sem]
  exact hQ _ _ _ _ [] nofun rfl (Low.refl _) ⟨rfl,g2⟩
 | true =>
  by_cases hd:dp+ZA v≤16
  case neg =>
   have hbr:false=zZ dp fixed v:=by simp[zZ,hd]
   simp(disch:=omega) only[zp,zl,zh,zo,zm,zg,zr,ir222,go_sem]
   refine za (zbw v hw hv) ?_
   simp(disch:=omega) only[zp,zl,zh,zo,zm,zg,zr,hp,hc,go_sem]
   refine za (zdV v hvb) ?_
   simp(disch:=omega) only[zp,zl,zh,zo,zm,zg,zr,d1,hd,hc,go_sem]
   refine za5 (ZI _) h (by omega) (by omega) (by simp only[Lim];omega) fun o2 l2 H2 h2 h3 h4 h5=>?_
   have hk2:=yy l2
   have hc2:=h2.cell
   simp(disch:=omega) only[hc2,go_sem]
   refine zt (by rw[hk2];exact h2.own) (by rw[hk2,hkt];omega) (by rw[hk2,hkt];simp only[maxLen];omega) fun o3 H3 hs3=>?_
   obtain⟨g1,g2⟩:=fin _ hbr H2 o2 l2 h2 h3 h4 h5 H3 o3 hs3
   simp(disch:=omega) only[g1,Z2,go_sem]
   exact hQ _ _ _ _ [] nofun rfl (Low.refl _) ⟨rfl,g2⟩
  cases fixed with
  | false =>
   have hbr:true=zZ dp false v:=by simp[zZ,hd,hp]
   simp(disch:=omega) only[zp,zl,zh,zo,zm,zg,zr,ir222,go_sem]
   refine za (zbw v hw hv) ?_
   simp(disch:=omega) only[zp,zl,zh,zo,zm,zg,zr,hp,hc,go_sem]
   refine za (zdV v hvb) ?_
   simp(disch:=omega) only[zp,zl,zh,zo,zm,zg,zr,d1,hd,hc,go_sem]
   refine za5 (ZI _) h (by omega) (by omega) (by simp only[Lim];omega) fun o2 l2 H2 h2 h3 h4 h5=>?_
   have hk2:=yy l2
   have hc2:=h2.cell
   simp(disch:=omega) only[hc2,go_sem]
   refine zt (by rw[hk2];exact h2.own) (by rw[hk2,hkt];omega) (by rw[hk2,hkt];simp only[maxLen];omega) fun o3 H3 hs3=>?_
   obtain⟨g1,g2⟩:=fin _ hbr H2 o2 l2 h2 h3 h4 h5 H3 o3 hs3
   simp(disch:=omega) only[g1,Z2,go_sem]
   exact hQ _ _ _ _ [] nofun rfl (Low.refl _) ⟨rfl,g2⟩
  | true =>
   simp(disch:=omega) only[zp,zl,zh,zo,zm,zg,zr,ir222,go_sem]
   refine za (zbw v hw hv) ?_
   simp(disch:=omega) only[zp,zl,zh,zo,zm,zg,zr,hp,hc,go_sem]
   refine za (zdV v hvb) ?_
   simp(disch:=omega) only[zp,zl,zh,zo,zm,zg,zr,d1,hd,hc,go_sem]
   refine za (zlD v hvb) ?_
   by_cases hz:(Zs v []).length=0
   ·have hbr:true=zZ dp true v:=by simp[zZ,hd,hp,hz]
    have hz':¬ ((0:Int)<(Zs v []).length):=by omega
    simp(disch:=omega) only[zp,zl,zh,zo,zm,zg,zr,hcv,hz',go_sem]
    refine za5 (ZI _) h (by omega) (by omega) (by simp only[Lim];omega) fun o2 l2 H2 h2 h3 h4 h5=>?_
    have hk2:=yy l2
    have hc2:=h2.cell
    simp(disch:=omega) only[hc2,go_sem]
    refine zt (by rw[hk2];exact h2.own) (by rw[hk2,hkt];omega) (by rw[hk2,hkt];simp only[maxLen];omega) fun o3 H3 hs3=>?_
    obtain⟨g1,g2⟩:=fin _ hbr H2 o2 l2 h2 h3 h4 h5 H3 o3 hs3
    simp(disch:=omega) only[g1,Z2,go_sem]
    exact hQ _ _ _ _ [] nofun rfl (Low.refl _) ⟨rfl,g2⟩
   ·have hbr:false=zZ dp true v:=by simp[zZ,hd,hp,hz]
    have hz':((0:Int)<(Zs v []).length)=True:=eq_true (by omega)
    simp(disch:=omega) only[zp,zl,zh,zo,zm,zg,zr,hcv,hz',go_sem]
    refine za5 (ZI _) h (by omega) (by omega) (by simp only[Lim];omega) fun o2 l2 H2 h2 h3 h4 h5=>?_
    have hk2:=yy l2
    have hc2:=h2.cell
    simp(disch:=omega) only[hc2,go_sem]
    refine zt (by rw[hk2];exact h2.own) (by rw[hk2,hkt];omega) (by rw[hk2,hkt];simp only[maxLen];omega) fun o3 H3 hs3=>?_
    obtain⟨g1,g2⟩:=fin _ hbr H2 o2 l2 h2 h3 h4 h5 H3 o3 hs3
    simp(disch:=omega) only[g1,Z2,go_sem]
    exact hQ _ _ _ _ [] nofun rfl (Low.refl _) ⟨rfl,g2⟩
theorem zjw (m:Int) (k:Nat) (hk:k≤64):m.fdiv (2 ^ min k IntKind.i64.bits)=m / 2 ^ k:=by
 have e:min k IntKind.i64.bits=k:=by show min k 64=k;omega
 have hp:(0:Int)≤2 ^ k:=by exact_mod_cast Nat.zero_le _
 rw[e,Int.fdiv_eq_ediv_of_nonneg _ hp]
theorem YM (t:TyD) (hs:t.nm.length≤Lim):zi Tryz.prog 199 [.agg (cTy t)] (.bool (zD t)):=by
 refine zi.go ir199 ck199 (Al4 _) fun KP Q hQ=>?_
 obtain⟨nm,ls,ms⟩:=t
 simp only at hs
 simp(disch:=omega) only[ir199,cTy,steps,st2,pev,rev,oev,yj,yt,yA,yB,bound,zM,mm2,mk,zw,AV.cells,AV.boxable,AV.one,AV.strip1,AV.strip2,zN,zI,Nat.reduceEqDiff,reduceCtorEq,↓reduceIte,Nat.reduceAdd,Int.reduceNeg,Nat.reduceLeDiff,Int.reduceToNat,Int.reduceEq,Int.reduceLT,Int.reduceLE,Int.reduceAdd,Io,Im,If,Il,Jt,Jf,AC.rg,Jm,Jl,Ja,Fm,Fl,Fa,Imv,Imb,Iai,Iei,Igi,Isi,Ipf,Ipt,Ilb,Iia,Ilt,Iap,Ink,Iln,Ils,Iad,Iex,Ibx,Ing]
 refine za (zh5 nm hs) ?_
 cases h1:zP nm with
 | false =>
  simp(disch:=omega) only[steps,st2,pev,rev,oev,yj,yt,yA,yB,bound,zM,mm2,mk,zw,AV.cells,AV.boxable,AV.one,AV.strip1,AV.strip2,zN,zI,Nat.reduceEqDiff,reduceCtorEq,↓reduceIte,Nat.reduceAdd,Int.reduceNeg,Nat.reduceLeDiff,Int.reduceToNat,Int.reduceEq,Int.reduceLT,Int.reduceLE,Int.reduceAdd]
  exact hQ _ _ _ _ nofun rfl (by simp[zd,ze,AV.strip,AV.strip1,zD,h1])
 | true =>
  by_cases h2:0≤ls
  case neg =>
   simp(disch:=omega) only[h2,steps,st2,pev,rev,oev,yj,yt,yA,yB,bound,zM,mm2,mk,zw,AV.cells,AV.boxable,AV.one,AV.strip1,AV.strip2,zN,zI,Nat.reduceEqDiff,reduceCtorEq,↓reduceIte,Nat.reduceAdd,Int.reduceNeg,Nat.reduceLeDiff,Int.reduceToNat,Int.reduceEq,Int.reduceLT,Int.reduceLE,Int.reduceAdd]
   exact hQ _ _ _ _ nofun rfl (by simp[zd,ze,AV.strip,AV.strip1,zD,h1,h2])
  by_cases h3:ls≤4
  case neg =>
   simp(disch:=omega) only[h2,h3,steps,st2,pev,rev,oev,yj,yt,yA,yB,bound,zM,mm2,mk,zw,AV.cells,AV.boxable,AV.one,AV.strip1,AV.strip2,zN,zI,Nat.reduceEqDiff,reduceCtorEq,↓reduceIte,Nat.reduceAdd,Int.reduceNeg,Nat.reduceLeDiff,Int.reduceToNat,Int.reduceEq,Int.reduceLT,Int.reduceLE,Int.reduceAdd]
   exact hQ _ _ _ _ nofun rfl (by simp[zd,ze,AV.strip,AV.strip1,zD,h1,h2,h3])
  by_cases h4:0≤ms
  case neg =>
   simp(disch:=omega) only[h2,h3,h4,steps,st2,pev,rev,oev,yj,yt,yA,yB,bound,zM,mm2,mk,zw,AV.cells,AV.boxable,AV.one,AV.strip1,AV.strip2,zN,zI,Nat.reduceEqDiff,reduceCtorEq,↓reduceIte,Nat.reduceAdd,Int.reduceNeg,Nat.reduceLeDiff,Int.reduceToNat,Int.reduceEq,Int.reduceLT,Int.reduceLE,Int.reduceAdd]
   exact hQ _ _ _ _ nofun rfl (by simp[zd,ze,AV.strip,AV.strip1,zD,h1,h2,h3,h4])
  have w1:IntKind.wrap .i64 (ls+1)=ls+1:=wrap64 (by omega) (by omega)
  have w2:¬ (ls+1<0):=by omega
  have e1:(ls+1).toNat=ls.toNat+1:=by omega
  have e2:=zjw ms (ls.toNat+1) (by omega)
  have hpow:(0:Int)<2 ^ (ls.toNat+1):=by exact_mod_cast Nat.pos_of_ne_zero (by simp)
  have e3:(ms / 2 ^ (ls.toNat+1)=0)=(ms<2 ^ (ls.toNat+1)):=propext ⟨fun h=>by
   by_cases hlt:ms<2 ^ (ls.toNat+1)
   ·exact hlt
   ·have:=(Int.le_ediv_iff_mul_le hpow).2 (show 1*2 ^ (ls.toNat+1)≤ms by omega)
    omega,fun h=>Int.ediv_eq_zero_of_lt h4 h⟩
  simp(disch:=omega) only[h2,h3,h4,w1,w2,e1,e2,e3,steps,st2,pev,rev,oev,yj,yt,yA,yB,bound,zM,mm2,mk,zw,AV.cells,AV.boxable,AV.one,AV.strip1,AV.strip2,zN,zI,Nat.reduceEqDiff,reduceCtorEq,↓reduceIte,Nat.reduceAdd,Int.reduceNeg,Nat.reduceLeDiff,Int.reduceToNat,Int.reduceEq,Int.reduceLT,Int.reduceLE,Int.reduceAdd]
  exact hQ _ _ _ _ nofun rfl (by simp[zd,ze,AV.strip,AV.strip1,zD,h1,h2,h3,h4])
theorem WR.cast {H0 H:zc} {o0 o:Own} {w B B':Nat} {l0 l tk tk':List Tok} {ok0 r r':Bool} {dp:Int} (h:WR H0 o0 w l0 ok0 dp B r tk H o l) (hB:B≤B') (hr:r=r') (ht:tk=tk'):WR H0 o0 w l0 ok0 dp B' r' tk' H o l:=by
 subst hr;subst ht
 exact⟨h.here,h.st,by have:=h.len;omega,h.eq⟩
theorem WR.after {H0 H1 H:zc} {o0 o1 o:Own} {w B:Nat} {l0 l tk:List Tok} {ok0 r:Bool} {dp:Int} (h:WR H1 o1 w l0 ok0 dp B r tk H o l) (hs:WStep H0 o0 w H1 o1) {x:AObj} (hw:H1 w=some x):WR H0 o0 w l0 ok0 dp B r tk H o l :=
 ⟨h.here,hs.trans hw h.st,h.len,h.eq⟩
def zcv (n:Nat) (m:Int):Nat→List Tok
 | 0=>[]
 | j+1=>zqe n m j++zcv n m j
theorem zfz (n:Nat) (m:Int):∀ j,zpg n m j=zcv n m (j+1)
 | 0=>by simp[zpg,zcv]
 | j+1=>by rw[zpg,zfz n m j];rfl
theorem and1 {x:Int} (h0:0≤x) (h1:x<64):IntKind.wrap .i64 ((BitVec.ofInt IntKind.i64.bits x &&& BitVec.ofInt IntKind.i64.bits 1).toNat:Int)=x % 2:=by
 have:∀ y:Fin 64,IntKind.wrap .i64 ((BitVec.ofInt IntKind.i64.bits (y.val:Int) &&& BitVec.ofInt IntKind.i64.bits 1).toNat:Int)=(y.val:Int) % 2:=by decide +kernel
 have:=this ⟨x.toNat,by omega⟩
 simp only[Int.toNat_of_nonneg h0] at this
 exact this
theorem zfC (t:TyD) (hs:t.nm.length≤Lim):WC 191 [.agg (cTy t)] 20 (-1000) 1000 (fun _=>zD t) (tTy t):=by
 intro H w o l ok dp h h0 h1 hb
 have hb0:=hb
 simp only[Lim] at hb
 refine zk.go ir191 ck191 (Al4 _) fun KP Q hQ=>?_
 obtain⟨nm,ls,ms⟩:=t
 simp only at hs
 have et:cTy ⟨nm,ls,ms⟩=[.str nm,.int .i64 ls,.int .i64 ms]:=rfl
 simp(disch:=omega) only[ir191,et,steps,st2,pev,rev,oev,yj,yt,yA,yB,bound,zM,mm2,mk,zw,AV.cells,AV.boxable,AV.one,AV.strip1,AV.strip2,zN,zI,Nat.reduceEqDiff,reduceCtorEq,↓reduceIte,Nat.reduceAdd,Int.reduceNeg,Nat.reduceLeDiff,Int.reduceToNat,Int.reduceEq,Int.reduceLT,Int.reduceLE,Int.reduceAdd,Io,Im,If,Il,Jt,Jf,AC.rg,Jm,Jl,Ja,Fm,Fl,Fa,Imv,Imb,Iai,Iei,Igi,Isi,Ipf,Ipt,Ilb,Iia,Ilt,Iap,Ink,Iln,Ils,Iad,Iex,Ibx,Ing]
 refine za (show zi Tryz.prog 199 [.agg [.str nm,.int .i64 ls,.int .i64 ms]] (.bool (zD ⟨nm,ls,ms⟩)) from YM ⟨nm,ls,ms⟩ hs) ?_
 simp(disch:=omega) only[steps,st2,pev,rev,oev,yj,yt,yA,yB,bound,zM,mm2,mk,zw,AV.cells,AV.boxable,AV.one,AV.strip1,AV.strip2,zN,zI,Nat.reduceEqDiff,reduceCtorEq,↓reduceIte,Nat.reduceAdd,Int.reduceNeg,Nat.reduceLeDiff,Int.reduceToNat,Int.reduceEq,Int.reduceLT,Int.reduceLE,Int.reduceAdd]
 refine za5 (ZI _) h (by omega) (by omega) (by simp only[Lim];omega) fun o2 l2 H2 h2 h3 h4 h5=>?_
 have hc2:=h2.cell
 cases hok:ok&&zD ⟨nm,ls,ms⟩ with
 | false =>
  rw[hok] at h2 hc2
  simp(disch:=omega) only[hc2,steps,st2,pev,rev,oev,yj,yt,yA,yB,bound,zM,mm2,mk,zw,AV.cells,AV.boxable,AV.one,AV.strip1,AV.strip2,zN,zI,Nat.reduceEqDiff,reduceCtorEq,↓reduceIte,Nat.reduceAdd,Int.reduceNeg,Nat.reduceLeDiff,Int.reduceToNat,Int.reduceEq,Int.reduceLT,Int.reduceLE,Int.reduceAdd]
  exact hQ _ _ H2 H2 [] nofun rfl (Low.refl _) ⟨rfl,o2,l2,by rw[hok];exact h2,h3,by omega,fun e=>by rw[hok] at e;cases e⟩
 | true =>
  rw[hok] at h2 hc2 h5
  have e2:l2=l:=by have:=h5 rfl;simpa using this
  subst e2
  have hrt:zD ⟨nm,ls,ms⟩=true:=by simp only[Al0] at hok;exact hok.2
  have hok1:ok=true:=by simp only[Al0] at hok;exact hok.1
  simp only[zD,Al0,y0] at hrt
  obtain⟨hnm,r1,r2,r3,r4⟩:=hrt
  obtain⟨n,rfl⟩:∃ n:Nat,ls=(n:Int):=⟨ls.toNat,by omega⟩
  have en:(n:Int).toNat=n:=by omega
  rw[en] at r4
  have hn4:n≤4:=by omega
  have hms:ms<64:=by
   have:(2:Int) ^ (n+1)≤2 ^ 5:=by exact_mod_cast Nat.pow_le_pow_right (by decide) (by omega:n+1≤5)
   omega
  have w0:=WR.refl h2
  simp(disch:=omega) only[hc2,steps,st2,pev,rev,oev,yj,yt,yA,yB,bound,zM,mm2,mk,zw,AV.cells,AV.boxable,AV.one,AV.strip1,AV.strip2,zN,zI,Nat.reduceEqDiff,reduceCtorEq,↓reduceIte,Nat.reduceAdd,Int.reduceNeg,Nat.reduceLeDiff,Int.reduceToNat,Int.reduceEq,Int.reduceLT,Int.reduceLE,Int.reduceAdd]
  refine zbL (fun x:Nat×Own×List Tok=>[(16,.int .i64 x.1)]) (fun x H'=>x.1≤n∧WR H2 o2 w l2 true dp x.1 true (List.replicate x.1 (pk [91])) H' x.2.1 x.2.2) (fun x=>n-x.1) (0,o2,l2) (by simp(disch:=omega) only[steps,st2,pev,rev,oev,yj,yt,yA,yB,bound,zM,mm2,mk,zw,AV.cells,AV.boxable,AV.one,AV.strip1,AV.strip2,zN,zI,Nat.reduceEqDiff,reduceCtorEq,↓reduceIte,Nat.reduceAdd,Int.reduceNeg,Nat.reduceLeDiff,Int.reduceToNat,Int.reduceEq,Int.reduceLT,Int.reduceLE,Int.reduceAdd]) ⟨by simp,w0⟩ ?_
  rintro⟨i,o3,l3⟩ H3 J ⟨hi,w3⟩ hJ
  simp only at hi w3
  by_cases hlt:i<n
  ·have hlt':((i:Int)<n)=True:=eq_true (by omega)
   simp(disch:=omega) only[hlt',steps,st2,pev,rev,oev,yj,yt,yA,yB,bound,zM,mm2,mk,zw,AV.cells,AV.boxable,AV.one,AV.strip1,AV.strip2,zN,zI,Nat.reduceEqDiff,reduceCtorEq,↓reduceIte,Nat.reduceAdd,Int.reduceNeg,Nat.reduceLeDiff,Int.reduceToNat,Int.reduceEq,Int.reduceLT,Int.reduceLE,Int.reduceAdd]
   refine zn (yC [91] _) w3 (by omega) (by omega) (by simp only[Lim];omega) fun o4 l4 H4 w4 _=>?_
   simp(disch:=omega) only[wrap64,steps,st2,pev,rev,oev,yj,yt,yA,yB,bound,zM,mm2,mk,zw,AV.cells,AV.boxable,AV.one,AV.strip1,AV.strip2,zN,zI,Nat.reduceEqDiff,reduceCtorEq,↓reduceIte,Nat.reduceAdd,Int.reduceNeg,Nat.reduceLeDiff,Int.reduceToNat,Int.reduceEq,Int.reduceLT,Int.reduceLE,Int.reduceAdd]
   exact goJ (hJ (i+1,o4,l4) H4 (by simp only;omega) ⟨by simp only;omega,w4.cast (Al4 _) rfl (by rw[List.replicate_succ'])⟩) (by simp(disch:=omega) only[Int.natCast_add,steps,st2,pev,rev,oev,yj,yt,yA,yB,bound,zM,mm2,mk,zw,AV.cells,AV.boxable,AV.one,AV.strip1,AV.strip2,zN,zI,Nat.reduceEqDiff,reduceCtorEq,↓reduceIte,Nat.reduceAdd,Int.reduceNeg,Nat.reduceLeDiff,Int.reduceToNat,Int.reduceEq,Int.reduceLT,Int.reduceLE,Int.reduceAdd])
  ·have hlt':¬ ((i:Int)<n):=by omega
   obtain rfl:i=n:=by omega
   simp(disch:=omega) only[hlt',steps,st2,pev,rev,oev,yj,yt,yA,yB,bound,zM,mm2,mk,zw,AV.cells,AV.boxable,AV.one,AV.strip1,AV.strip2,zN,zI,Nat.reduceEqDiff,reduceCtorEq,↓reduceIte,Nat.reduceAdd,Int.reduceNeg,Nat.reduceLeDiff,Int.reduceToNat,Int.reduceEq,Int.reduceLT,Int.reduceLE,Int.reduceAdd]
   refine zn (yr nm hs) w3 (by omega) (by omega) (by simp only[Lim];omega) fun o4 l4 H4 w4 _=>?_
   rw[hnm] at w4
   simp(disch:=omega) only[steps,st2,pev,rev,oev,yj,yt,yA,yB,bound,zM,mm2,mk,zw,AV.cells,AV.boxable,AV.one,AV.strip1,AV.strip2,zN,zI,Nat.reduceEqDiff,reduceCtorEq,↓reduceIte,Nat.reduceAdd,Int.reduceNeg,Nat.reduceLeDiff,Int.reduceToNat,Int.reduceEq,Int.reduceLT,Int.reduceLE,Int.reduceAdd]
   refine zbL (fun x:Nat×Own×List Tok×Nat×List Tok=>[(4,.int .i64 ((x.1:Int)-1))]) (fun x H'=>x.1≤i+1∧x.2.2.2.1+2*x.1≤19∧x.2.2.2.2++zcv i ms x.1=tTy ⟨nm,i,ms⟩∧WR H2 o2 w l2 true dp x.2.2.2.1 true x.2.2.2.2 H' x.2.1 x.2.2.1) (fun x=>x.1)
    (i+1,o4,l4,i+1,List.replicate i (pk [91])++[wk nm]) (by simp(disch:=omega) only[Int.natCast_add,Int.add_sub_cancel,steps,st2,pev,rev,oev,yj,yt,yA,yB,bound,zM,mm2,mk,zw,AV.cells,AV.boxable,AV.one,AV.strip1,AV.strip2,zN,zI,Nat.reduceEqDiff,reduceCtorEq,↓reduceIte,Nat.reduceAdd,Int.reduceNeg,Nat.reduceLeDiff,Int.reduceToNat,Int.reduceEq,Int.reduceLT,Int.reduceLE,Int.reduceAdd]) ⟨by simp,by simp only;omega,by simp only[tTy,en,zfz];simp,w4.cast (Al4 _) rfl rfl⟩ ?_
   rintro⟨k,o5,l5,B,tk⟩ H5 J5 ⟨hk,hB,htk,w5⟩ hJ5
   simp only at hk hB htk w5
   cases k with
   | zero =>
    have hz:¬ ((0:Int)≤-1):=by omega
    have w6:=w5.after h3 h2.cell
    simp only[zcv,List.append_nil] at htk
    simp(disch:=omega) only[hz,Int.reduceSub,steps,st2,pev,rev,oev,yj,yt,yA,yB,bound,zM,mm2,mk,zw,AV.cells,AV.boxable,AV.one,AV.strip1,AV.strip2,zN,zI,Nat.reduceEqDiff,reduceCtorEq,↓reduceIte,Nat.reduceAdd,Int.reduceNeg,Nat.reduceLeDiff,Int.reduceToNat,Int.reduceEq,Int.reduceLT,Int.reduceLE,Int.reduceAdd]
    refine hQ _ _ H5 H5 [] nofun rfl (Low.refl _) ⟨rfl,?_⟩
    obtain⟨o',l',g1,g2,g3,g4⟩:=w6.fin (B':=20) rfl (fun _=>htk) (by omega)
    rw[hok]
    exact⟨o',l',by simpa using g1,g2,by omega,fun _=>by simpa using g4 rfl⟩
   | succ j =>
    have e0:((j+1:Nat):Int)-1=(j:Int):=by omega
    have hz:((0:Int)≤j)=True:=eq_true (by omega)
    have hbit:=zjw ms j (by omega)
    have hq0:0≤ms / 2 ^ j:=Int.ediv_nonneg r3 (by exact_mod_cast Nat.zero_le _)
    have hq1:ms / 2 ^ j<64:=by
     have:ms / 2 ^ j≤ms:=Int.ediv_le_self _ r3
     omega
    have ha:=and1 hq0 hq1
    have hj0:¬ ((j:Int)<0):=by omega
    simp only[zcv,zqe] at htk
    by_cases hji:j<i
    ·have hji':((j:Int)<i)=True:=eq_true (by omega)
     rw[if_pos hji] at htk
     simp(disch:=omega) only[e0,hz,hji',steps,st2,pev,rev,oev,yj,yt,yA,yB,bound,zM,mm2,mk,zw,AV.cells,AV.boxable,AV.one,AV.strip1,AV.strip2,zN,zI,Nat.reduceEqDiff,reduceCtorEq,↓reduceIte,Nat.reduceAdd,Int.reduceNeg,Nat.reduceLeDiff,Int.reduceToNat,Int.reduceEq,Int.reduceLT,Int.reduceLE,Int.reduceAdd]
     refine zn (yC [93] _) w5 (by omega) (by omega) (by simp only[Lim];omega) fun o6 l6 H6 w6 _=>?_
     by_cases hbt:ms / 2 ^ j % 2=1
     ·have hbb:zc3 ms j=true:=by simp[zc3,hbt]
      rw[hbb] at htk
      simp(disch:=omega) only[hbit,hj0,ha,hbt,steps,st2,pev,rev,oev,yj,yt,yA,yB,bound,zM,mm2,mk,zw,AV.cells,AV.boxable,AV.one,AV.strip1,AV.strip2,zN,zI,Nat.reduceEqDiff,reduceCtorEq,↓reduceIte,Nat.reduceAdd,Int.reduceNeg,Nat.reduceLeDiff,Int.reduceToNat,Int.reduceEq,Int.reduceLT,Int.reduceLE,Int.reduceAdd]
      refine zn (yC [33] _) w6 (by omega) (by omega) (by simp only[Lim];omega) fun o7 l7 H7 w7 _=>?_
      simp(disch:=omega) only[wrap64,steps,st2,pev,rev,oev,yj,yt,yA,yB,bound,zM,mm2,mk,zw,AV.cells,AV.boxable,AV.one,AV.strip1,AV.strip2,zN,zI,Nat.reduceEqDiff,reduceCtorEq,↓reduceIte,Nat.reduceAdd,Int.reduceNeg,Nat.reduceLeDiff,Int.reduceToNat,Int.reduceEq,Int.reduceLT,Int.reduceLE,Int.reduceAdd]
      exact goJ (hJ5 (j,o7,l7,B+1+1,tk++[pk [93]]++[pk [33]]) H7 (Nat.lt_succ_self j) ⟨by simp only;omega,by simp only;omega,by rw[← htk];simp,w7.cast (Al4 _) rfl rfl⟩) (by simp(disch:=omega) only[steps,st2,pev,rev,oev,yj,yt,yA,yB,bound,zM,mm2,mk,zw,AV.cells,AV.boxable,AV.one,AV.strip1,AV.strip2,zN,zI,Nat.reduceEqDiff,reduceCtorEq,↓reduceIte,Nat.reduceAdd,Int.reduceNeg,Nat.reduceLeDiff,Int.reduceToNat,Int.reduceEq,Int.reduceLT,Int.reduceLE,Int.reduceAdd])
     ·have hbb:zc3 ms j=false:=by simp[zc3,hbt]
      rw[hbb] at htk
      simp(disch:=omega) only[hbit,hj0,ha,hbt,wrap64,steps,st2,pev,rev,oev,yj,yt,yA,yB,bound,zM,mm2,mk,zw,AV.cells,AV.boxable,AV.one,AV.strip1,AV.strip2,zN,zI,Nat.reduceEqDiff,reduceCtorEq,↓reduceIte,Nat.reduceAdd,Int.reduceNeg,Nat.reduceLeDiff,Int.reduceToNat,Int.reduceEq,Int.reduceLT,Int.reduceLE,Int.reduceAdd]
      exact goJ (hJ5 (j,o6,l6,B+1,tk++[pk [93]]) H6 (Nat.lt_succ_self j) ⟨by simp only;omega,by simp only;omega,by rw[← htk];simp,w6.cast (Al4 _) rfl rfl⟩) (by simp(disch:=omega) only[steps,st2,pev,rev,oev,yj,yt,yA,yB,bound,zM,mm2,mk,zw,AV.cells,AV.boxable,AV.one,AV.strip1,AV.strip2,zN,zI,Nat.reduceEqDiff,reduceCtorEq,↓reduceIte,Nat.reduceAdd,Int.reduceNeg,Nat.reduceLeDiff,Int.reduceToNat,Int.reduceEq,Int.reduceLT,Int.reduceLE,Int.reduceAdd])
    ·have hji':¬ ((j:Int)<i):=by omega
     rw[if_neg hji] at htk
     by_cases hbt:ms / 2 ^ j % 2=1
     ·have hbb:zc3 ms j=true:=by simp[zc3,hbt]
      rw[hbb] at htk
      simp(disch:=omega) only[e0,hz,hji',hbit,hj0,ha,hbt,steps,st2,pev,rev,oev,yj,yt,yA,yB,bound,zM,mm2,mk,zw,AV.cells,AV.boxable,AV.one,AV.strip1,AV.strip2,zN,zI,Nat.reduceEqDiff,reduceCtorEq,↓reduceIte,Nat.reduceAdd,Int.reduceNeg,Nat.reduceLeDiff,Int.reduceToNat,Int.reduceEq,Int.reduceLT,Int.reduceLE,Int.reduceAdd]
      refine zn (yC [33] _) w5 (by omega) (by omega) (by simp only[Lim];omega) fun o7 l7 H7 w7 _=>?_
      simp(disch:=omega) only[wrap64,steps,st2,pev,rev,oev,yj,yt,yA,yB,bound,zM,mm2,mk,zw,AV.cells,AV.boxable,AV.one,AV.strip1,AV.strip2,zN,zI,Nat.reduceEqDiff,reduceCtorEq,↓reduceIte,Nat.reduceAdd,Int.reduceNeg,Nat.reduceLeDiff,Int.reduceToNat,Int.reduceEq,Int.reduceLT,Int.reduceLE,Int.reduceAdd]
      exact goJ (hJ5 (j,o7,l7,B+1,tk++[pk [33]]) H7 (Nat.lt_succ_self j) ⟨by simp only;omega,by simp only;omega,by rw[← htk];simp,w7.cast (Al4 _) rfl rfl⟩) (by simp(disch:=omega) only[steps,st2,pev,rev,oev,yj,yt,yA,yB,bound,zM,mm2,mk,zw,AV.cells,AV.boxable,AV.one,AV.strip1,AV.strip2,zN,zI,Nat.reduceEqDiff,reduceCtorEq,↓reduceIte,Nat.reduceAdd,Int.reduceNeg,Nat.reduceLeDiff,Int.reduceToNat,Int.reduceEq,Int.reduceLT,Int.reduceLE,Int.reduceAdd])
     ·have hbb:zc3 ms j=false:=by simp[zc3,hbt]
      rw[hbb] at htk
      simp(disch:=omega) only[e0,hz,hji',hbit,hj0,ha,hbt,wrap64,steps,st2,pev,rev,oev,yj,yt,yA,yB,bound,zM,mm2,mk,zw,AV.cells,AV.boxable,AV.one,AV.strip1,AV.strip2,zN,zI,Nat.reduceEqDiff,reduceCtorEq,↓reduceIte,Nat.reduceAdd,Int.reduceNeg,Nat.reduceLeDiff,Int.reduceToNat,Int.reduceEq,Int.reduceLT,Int.reduceLE,Int.reduceAdd]
      exact goJ (hJ5 (j,o5,l5,B,tk) H5 (Nat.lt_succ_self j) ⟨by simp only;omega,by simp only;omega,by rw[← htk];simp,w5⟩) (by simp(disch:=omega) only[steps,st2,pev,rev,oev,yj,yt,yA,yB,bound,zM,mm2,mk,zw,AV.cells,AV.boxable,AV.one,AV.strip1,AV.strip2,zN,zI,Nat.reduceEqDiff,reduceCtorEq,↓reduceIte,Nat.reduceAdd,Int.reduceNeg,Nat.reduceLeDiff,Int.reduceToNat,Int.reduceEq,Int.reduceLT,Int.reduceLE,Int.reduceAdd])
theorem za2 (has:Bool) (v:Val) (hw:wfV v) (hv:4*bV v≤Lim):WC 192 [.bool has,.agg (cV v)] (1+4*bV v) 0 32 (fun dp=>if has then zZ dp true v else eqd v zV) (tDf has v):=by
 intro H w o l ok dp h h0 h1 hb
 have hvb:bV v≤Lim:=by simp only[Lim] at hv ⊢;omega
 refine zk.go ir192 ck192 (Al4 _) fun KP Q hQ=>?_
 have w0:=WR.refl h
 cases has with
 | false =>
  simp(disch:=omega) only[zp,zl,zh,zo,zm,zg,zr,ir192,go_sem]
  refine za (zi.low (r:=.bool (eqd v zV)) (by
   have:=zoW v hvb zV
   simpa[AV.strip,zcI,zl3,AV.strip1] using this)) ?_
  simp(disch:=omega) only[go_sem]
  refine zn (ZI _) w0 (by omega) (by omega) (by omega) fun o2 l2 H2 w2 _=>?_
  simp(disch:=omega) only[go_sem]
  exact hQ _ _ H2 H2 [] nofun rfl (Low.refl _) ⟨rfl,w2.fin (by simp) (fun _=>by simp[tDf]) (by omega)⟩
 | true =>
  simp(disch:=omega) only[zp,zl,zh,zo,zm,zg,zr,ir192,go_sem]
  refine zn (yC [61] _) w0 (by omega) (by omega) (by omega) fun o2 l2 H2 w2 _=>?_
  simp(disch:=omega) only[zp,zl,zh,zo,zm,zg,zr,go_sem]
  refine zn (zmz v hw hv true) w2 (by omega) (by omega) (by omega) fun o3 l3 H3 w3 _=>?_
  simp(disch:=omega) only[go_sem]
  exact hQ _ _ H3 H3 [] nofun rfl (Low.refl _) ⟨rfl,w3.fin (by simp) (fun _=>by simp[tDf]) (by omega)⟩
theorem zd7 (fixed:Bool) (m:List Mem) (hw:zf5 m) (hm:8*bMs m≤Lim):WC 223 [.bool fixed,.sl .no 6 (cMs m)] (2+6*bMs m) 0 32 (fun dp=>YT dp fixed m) (zgZ m):=by
 intro H w o l ok dp h h0 h1 hb
 have hml:=y5 m
 have hcl:=yY m
 refine zk.go ir223 ck223 (Al4 _) fun KP Q hQ=>?_
 have w0:=WR.refl h
 by_cases hz:m.length=0
 ·have hz':((m.length:Int)=0)=True:=eq_true (by omega)
  simp(disch:=omega) only[ir223,hcl,hz',go_sem]
  have em:=zfH.1 hz
  subst em
  exact hQ _ _ H H [] nofun rfl (Low.refl _) ⟨rfl,w0.fin rfl (fun _=>rfl) (by omega)⟩
 ·have hz':¬ ((m.length:Int)=0):=by omega
  simp(disch:=omega) only[ir223,hcl,hz',go_sem]
  refine zn (yC [40] _) w0 (by omega) (by omega) (by omega) fun o2 l2 H2 w2 _=>?_
  simp(disch:=omega) only[hcl,go_sem]
  refine zf m 16 (fun x:Own×List Tok=>[]) (fun done rest x H'=>WR H o w l ok dp (1+6*bMs done) (YT dp fixed done) (pk [40]::Yi done) H' x.1 x.2) (o2,l2) (by simp(disch:=omega) only[go_sem]) (w2.cast (by omega) rfl rfl) ?_ ?_
  ·rintro⟨o3,l3⟩ H3 J w3 hlt
   simp only at w3
   simp(disch:=omega) only[hcl,hlt,go_sem]
   refine zn (yC [41] _) w3 (by omega) (by omega) (by omega) fun o4 l4 H4 w4 _=>?_
   simp(disch:=omega) only[go_sem]
   exact hQ _ _ H4 H4 [] nofun rfl (Low.refl _) ⟨rfl,w4.fin (by simp) (fun _=>by unfold zgZ;rw[if_neg hz];rfl) (by omega)⟩
  ·rintro done x rest ⟨o3,l3⟩ H3 J hd hlt hlt2 w3 hJ
   simp only at w3
   have hg:=Zr hd
   have hbm:=Yx done x rest
   rw[← hd] at hbm
   have hmem:x∈m:=by rw[hd];simp
   obtain⟨s,v⟩:=x
   have hwv:=zeY hw s v hmem
   have hvp:=Y4 v
   simp only[bM] at hbm
   have hm':=hm
   simp only[Lim] at hm'
   have hbw:b0 w=b0 w:=rfl
   simp(disch:=omega) only[zp,zl,zh,zo,zm,zg,zr,hcl,hlt,hg,go_sem]
   refine zb fun b hb=>?_
   have hbw:b≠w:=fun e=>by subst e;rw[w3.here.cell] at hb;cases hb
   have w4:=w3.alloc (x:=.cells (.str s::cV v)) hb
   have hbc:(H3.upd b (.cells (.str s::cV v))) b=some (.cells (.str s::cV v)):=upd_same ..
   simp(disch:=omega) only[zp,zl,zh,zo,zm,zg,zr,go_sem]
   refine zn (yr s (by simp only[Lim];omega)) w4 (by omega) (by omega) (by omega) fun o5 l5 H5 w5 s5=>?_
   have hb5:=s5.box w4.here.own hbc hbw
   simp(disch:=omega) only[zp,zl,zh,zo,zm,zg,zr,hb5,go_sem]
   refine zn (yC [58] _) w5 (by omega) (by omega) (by omega) fun o6 l6 H6 w6 s6=>?_
   have hb6:=s6.box w5.here.own hb5 hbw
   simp(disch:=omega) only[zp,zl,zh,zo,zm,zg,zr,hb6,go_sem]
   refine zn (zmz v hwv (by simp only[Lim];omega) fixed) w6 (by omega) (by omega) (by omega) fun o7 l7 H7 w7 s7=>?_
   simp(disch:=omega) only[wrap64,go_sem]
   exact goJ (hJ (o7,l7) H7 (w7.cast (by rw[Yx done (.mk s v) []];simp only[bM,bMs];omega) (by simp[YT,zi4,yf]) (by rw[zfg];simp[Yi,zkT,wk,pk]))) (by simp(disch:=omega) only[go_sem])
theorem zcW {t:TyD} (h:zD t=true):0≤t.lists∧t.lists≤4∧0≤t.musts∧t.musts<32:=by
 simp only[zD,Al0,y0] at h
 obtain⟨h1,h2,h3,h4,h5⟩:=h
 have:(2:Int) ^ (t.lists.toNat+1)≤2 ^ 5:=by exact_mod_cast Nat.pow_le_pow_right (by decide) (by omega)
 refine⟨h2,h3,h4,?_⟩
 have e:(2:Int) ^ 5=32:=by decide
 omega
def znY (m:Int):Bool:=decide (m % 2=1)
theorem zvt (nm:List UInt8) (ls ms:Int) (h0:0≤ms) (h1:ms<64):zi Tryz.prog 200 [.agg [.str nm,.int .i64 ls,.int .i64 ms],.int .i64 0] (.bool (znY ms)):=by
 refine zi.go ir200 ck200 (Al4 _) fun KP Q hQ=>?_
 have hbit:=zjw ms 0 (by omega)
 simp only[Int.pow_zero,Int.ediv_one] at hbit
 have ha:=and1 h0 h1
 by_cases hbt:ms % 2=1
 ·have hbb:znY ms=true:=by simp[znY,hbt]
  rw[hbb] at hQ
  simp(disch:=omega) only[ir200,hbit,ha,hbt,steps,st2,pev,rev,oev,yj,yt,yA,yB,bound,zM,mm2,mk,zw,AV.cells,AV.boxable,AV.one,AV.strip1,AV.strip2,zN,zI,Nat.reduceEqDiff,reduceCtorEq,↓reduceIte,Nat.reduceAdd,Int.reduceNeg,Nat.reduceLeDiff,Int.reduceToNat,Int.reduceEq,Int.reduceLT,Int.reduceLE,Int.reduceAdd,Io,Im,If,Il,Jt,Jf,AC.rg,Jm,Jl,Ja,Fm,Fl,Fa,Imv,Imb,Iai,Iei,Igi,Isi,Ipf,Ipt,Ilb,Iia,Ilt,Iap,Ink,Iln,Ils,Iad,Iex,Ibx,Ing]
  exact hQ _ _ _ _ nofun rfl (by simp[zd,ze,AV.strip,AV.strip1])
 ·have hbb:znY ms=false:=by simp[znY,hbt]
  rw[hbb] at hQ
  simp(disch:=omega) only[ir200,hbit,ha,hbt,steps,st2,pev,rev,oev,yj,yt,yA,yB,bound,zM,mm2,mk,zw,AV.cells,AV.boxable,AV.one,AV.strip1,AV.strip2,zN,zI,Nat.reduceEqDiff,reduceCtorEq,↓reduceIte,Nat.reduceAdd,Int.reduceNeg,Nat.reduceLeDiff,Int.reduceToNat,Int.reduceEq,Int.reduceLT,Int.reduceLE,Int.reduceAdd,Io,Im,If,Il,Jt,Jf,AC.rg,Jm,Jl,Ja,Fm,Fl,Fa,Imv,Imb,Iai,Iei,Igi,Isi,Ipf,Ipt,Ilb,Iia,Ilt,Iap,Ink,Iln,Ils,Iad,Iex,Ibx,Ing]
  exact hQ _ _ _ _ nofun rfl (by simp[zd,ze,AV.strip,AV.strip1])
def isM (t:TyD):Bool:=zD t&&znY t.musts
theorem isC (t:TyD) (hs:t.nm.length≤Lim):zi Tryz.prog 143 [.agg (cTy t)] (.bool (isM t)):=by
 refine zi.go ir143 ck143 (Al4 _) fun KP Q hQ=>?_
 have hr:=YM t hs
 have hf:=@zcW t
 obtain⟨nm,ls,ms⟩:=t
 simp only[cTy] at hr
 simp(disch:=omega) only[ir143,cTy,go_sem]
 refine za hr ?_
 cases h:zD ⟨nm,ls,ms⟩ with
 | false =>
  simp(disch:=omega) only[go_sem]
  exact hQ _ _ _ _ nofun rfl (by simp[zd,ze,AV.strip,AV.strip1,isM,h])
 | true =>
  obtain⟨h1,h2,h3,h4⟩:=hf h
  simp only at h1 h2 h3 h4
  simp(disch:=omega) only[go_sem]
  refine za (zvt nm ls ms h3 (by omega)) ?_
  simp(disch:=omega) only[go_sem]
  exact hQ _ _ _ _ nofun rfl (by simp[zd,ze,AV.strip,AV.strip1,isM,h])
def zTy:TyD:=⟨[],0,0⟩
def YE (t:TyD):Option TyD:=if zD t=true∧t.lists≠0 then some ⟨t.nm,t.lists-1,t.musts / 2⟩ else none
theorem zsl (t:TyD) (hs:t.nm.length≤Lim):zi Tryz.prog 204 [.agg (cTy t)] (.tup [.agg (cTy ((YE t).getD zTy)),.bool (YE t).isSome]):=by
 refine zi.go ir204 ck204 (Al4 _) fun KP Q hQ=>?_
 have hr:=YM t hs
 have hf:=@zcW t
 obtain⟨nm,ls,ms⟩:=t
 simp only[cTy] at hr
 have fin:∀ o,YE ⟨nm,ls,ms⟩=o→∀ ρ H vs,zL ρ H ir204.res=some vs→(zd vs).strip=.tup [.agg (cTy (o.getD zTy)),.bool o.isSome]→Q .ret ρ H:=fun o e ρ H vs h1 h2=>hQ _ ρ H vs nofun h1 (by rw[h2,e])
 simp(disch:=omega) only[ir204,cTy,steps,st2,pev,rev,oev,yj,yt,yA,yB,bound,zM,mm2,mk,zw,AV.cells,AV.boxable,AV.one,AV.strip1,AV.strip2,zN,zI,Nat.reduceEqDiff,reduceCtorEq,↓reduceIte,Nat.reduceAdd,Int.reduceNeg,Nat.reduceLeDiff,Int.reduceToNat,Int.reduceEq,Int.reduceLT,Int.reduceLE,Int.reduceAdd,Io,Im,If,Il,Jt,Jf,AC.rg,Jm,Jl,Ja,Fm,Fl,Fa,Imv,Imb,Iai,Iei,Igi,Isi,Ipf,Ipt,Ilb,Iia,Ilt,Iap,Ink,Iln,Ils,Iad,Iex,Ibx,Ing]
 refine zb fun b2 hb2=>?_
 simp(disch:=omega) only[steps,st2,pev,rev,oev,yj,yt,yA,yB,bound,zM,mm2,mk,zw,AV.cells,AV.boxable,AV.one,AV.strip1,AV.strip2,zN,zI,Nat.reduceEqDiff,reduceCtorEq,↓reduceIte,Nat.reduceAdd,Int.reduceNeg,Nat.reduceLeDiff,Int.reduceToNat,Int.reduceEq,Int.reduceLT,Int.reduceLE,Int.reduceAdd]
 refine za hr ?_
 cases h:zD ⟨nm,ls,ms⟩ with
 | false =>
  simp(disch:=omega) only[steps,st2,pev,rev,oev,yj,yt,yA,yB,bound,zM,mm2,mk,zw,AV.cells,AV.boxable,AV.one,AV.strip1,AV.strip2,zN,zI,Nat.reduceEqDiff,reduceCtorEq,↓reduceIte,Nat.reduceAdd,Int.reduceNeg,Nat.reduceLeDiff,Int.reduceToNat,Int.reduceEq,Int.reduceLT,Int.reduceLE,Int.reduceAdd]
  exact fin none (by simp[YE,h]) _ _ [.agg [.str [],.int .i64 0,.int .i64 0],.bool false] (by simp(disch:=omega) only[ir204,zL,Zt,steps,st2,pev,rev,oev,yj,yt,yA,yB,bound,zM,mm2,mk,zw,AV.cells,AV.boxable,AV.one,AV.strip1,AV.strip2,zN,zI,Nat.reduceEqDiff,reduceCtorEq,↓reduceIte,Nat.reduceAdd,Int.reduceNeg,Nat.reduceLeDiff,Int.reduceToNat,Int.reduceEq,Int.reduceLT,Int.reduceLE,Int.reduceAdd,Io,Im,If,Il,Jt,Jf,AC.rg,Jm,Jl,Ja,Fm,Fl,Fa,Imv,Imb,Iai,Iei,Igi,Isi,Ipf,Ipt,Ilb,Iia,Ilt,Iap,Ink,Iln,Ils,Iad,Iex,Ibx,Ing]) rfl
 | true =>
  obtain⟨h1,h2,h3,h4⟩:=hf h
  simp only at h1 h2 h3 h4
  by_cases hz:ls=0
  ·simp(disch:=omega) only[hz,steps,st2,pev,rev,oev,yj,yt,yA,yB,bound,zM,mm2,mk,zw,AV.cells,AV.boxable,AV.one,AV.strip1,AV.strip2,zN,zI,Nat.reduceEqDiff,reduceCtorEq,↓reduceIte,Nat.reduceAdd,Int.reduceNeg,Nat.reduceLeDiff,Int.reduceToNat,Int.reduceEq,Int.reduceLT,Int.reduceLE,Int.reduceAdd]
   exact fin none (by simp[YE,hz]) _ _ [.agg [.str [],.int .i64 0,.int .i64 0],.bool false] (by simp(disch:=omega) only[ir204,zL,Zt,steps,st2,pev,rev,oev,yj,yt,yA,yB,bound,zM,mm2,mk,zw,AV.cells,AV.boxable,AV.one,AV.strip1,AV.strip2,zN,zI,Nat.reduceEqDiff,reduceCtorEq,↓reduceIte,Nat.reduceAdd,Int.reduceNeg,Nat.reduceLeDiff,Int.reduceToNat,Int.reduceEq,Int.reduceLT,Int.reduceLE,Int.reduceAdd,Io,Im,If,Il,Jt,Jf,AC.rg,Jm,Jl,Ja,Fm,Fl,Fa,Imv,Imb,Iai,Iei,Igi,Isi,Ipf,Ipt,Ilb,Iia,Ilt,Iap,Ink,Iln,Ils,Iad,Iex,Ibx,Ing]) rfl
  ·have e1:IntKind.wrap .i64 (ls-1)=ls-1:=wrap64 (by omega) (by omega)
   have e2:ms.fdiv (2 ^ min 1 IntKind.i64.bits)=ms / 2:=by have:=zjw ms 1 (by omega);simpa using this
   simp(disch:=omega) only[hz,e1,e2,steps,st2,pev,rev,oev,yj,yt,yA,yB,bound,zM,mm2,mk,zw,AV.cells,AV.boxable,AV.one,AV.strip1,AV.strip2,zN,zI,Nat.reduceEqDiff,reduceCtorEq,↓reduceIte,Nat.reduceAdd,Int.reduceNeg,Nat.reduceLeDiff,Int.reduceToNat,Int.reduceEq,Int.reduceLT,Int.reduceLE,Int.reduceAdd]
   exact fin (some ⟨nm,ls-1,ms / 2⟩) (by simp[YE,hz,h]) _ _ [.agg [.str nm,.int .i64 (ls-1),.int .i64 (ms / 2)],.bool true] (by simp(disch:=omega) only[ir204,zL,Zt,steps,st2,pev,rev,oev,yj,yt,yA,yB,bound,zM,mm2,mk,zw,AV.cells,AV.boxable,AV.one,AV.strip1,AV.strip2,zN,zI,Nat.reduceEqDiff,reduceCtorEq,↓reduceIte,Nat.reduceAdd,Int.reduceNeg,Nat.reduceLeDiff,Int.reduceToNat,Int.reduceEq,Int.reduceLT,Int.reduceLE,Int.reduceAdd,Io,Im,If,Il,Jt,Jf,AC.rg,Jm,Jl,Ja,Fm,Fl,Fa,Imv,Imb,Iai,Iei,Igi,Isi,Ipf,Ipt,Ilb,Iia,Ilt,Iap,Ink,Iln,Ils,Iad,Iex,Ibx,Ing]) rfl
def zk3 (b a:Int):Bool:=decide (IntKind.i64.wrap ((BitVec.ofInt IntKind.i64.bits b &&& ~~~BitVec.ofInt IntKind.i64.bits a).toNat:Int)=0)
def zaR (a b:TyD):Bool:=zD a&&(zD b&&(decide (a.nm=b.nm)&&(decide (a.lists=b.lists)&&zk3 b.musts a.musts)))
theorem zlU (a b:TyD) (ha:a.nm.length≤Lim) (hb:b.nm.length≤Lim):zi Tryz.prog 151 [.agg (cTy a),.agg (cTy b)] (.bool (zaR a b)):=by
 have hra:=YM a ha
 have hrb:=YM b hb
 obtain⟨an,al,am⟩:=a
 obtain⟨bn,bl,bm⟩:=b
 simp only[cTy] at hra hrb ⊢
 refine zi.go ir151 ck151 (Al4 _) fun KP Q hQ=>?_
 simp(disch:=omega) only[ir151,go_sem]
 refine za hra ?_
 cases h1:zD ⟨an,al,am⟩ with
 | false =>
  simp(disch:=omega) only[go_sem]
  exact hQ _ _ _ _ nofun rfl (by simp[zd,ze,AV.strip,AV.strip1,zaR,h1])
 | true =>
  simp(disch:=omega) only[go_sem]
  refine za hrb ?_
  cases h2:zD ⟨bn,bl,bm⟩ with
  | false =>
   simp(disch:=omega) only[go_sem]
   exact hQ _ _ _ _ nofun rfl (by simp[zd,ze,AV.strip,AV.strip1,zaR,h1,h2])
  | true =>
   by_cases hn:an=bn
   case neg =>
    simp(disch:=omega) only[hn,go_sem]
    exact hQ _ _ _ _ nofun rfl (by simp[zd,ze,AV.strip,AV.strip1,zaR,h1,h2,hn])
   by_cases hl:al=bl
   case neg =>
    simp(disch:=omega) only[hn,hl,go_sem]
    exact hQ _ _ _ _ nofun rfl (by simp[zd,ze,AV.strip,AV.strip1,zaR,h1,h2,hn,hl])
   subst hn
   subst hl
   have e:zaR ⟨an,al,am⟩ ⟨an,al,bm⟩=zk3 bm am:=by simp[zaR,h1,h2]
   rw[e] at hQ
   simp(disch:=omega) only[go_sem]
   exact hQ _ _ _ [.bool (zk3 bm am)] nofun rfl rfl
def zas (t:TyD):TyD:=if zD t=true then ⟨t.nm,t.lists,IntKind.i64.wrap ((BitVec.ofInt IntKind.i64.bits t.musts &&& ~~~BitVec.ofInt IntKind.i64.bits 1).toNat:Int)⟩ else t
theorem zqX (t:TyD) (ht:t.nm.length≤Lim):zi Tryz.prog 152 [.agg (cTy t)] (.agg (cTy (zas t))):=by
 have hr:=YM t ht
 obtain⟨nm,ls,ms⟩:=t
 simp only[cTy] at hr ⊢
 refine zi.go ir152 ck152 (Al4 _) fun KP Q hQ=>?_
 simp(disch:=omega) only[ir152,steps,st2,pev,rev,oev,yj,yt,yA,yB,bound,zM,mm2,mk,zw,AV.cells,AV.boxable,AV.one,AV.strip1,AV.strip2,zN,zI,Nat.reduceEqDiff,reduceCtorEq,↓reduceIte,Nat.reduceAdd,Int.reduceNeg,Nat.reduceLeDiff,Int.reduceToNat,Int.reduceEq,Int.reduceLT,Int.reduceLE,Int.reduceAdd,Io,Im,If,Il,Jt,Jf,AC.rg,Jm,Jl,Ja,Fm,Fl,Fa,Imv,Imb,Iai,Iei,Igi,Isi,Ipf,Ipt,Ilb,Iia,Ilt,Iap,Ink,Iln,Ils,Iad,Iex,Ibx,Ing]
 refine zb fun b1 hb1=>?_
 simp(disch:=omega) only[steps,st2,pev,rev,oev,yj,yt,yA,yB,bound,zM,mm2,mk,zw,AV.cells,AV.boxable,AV.one,AV.strip1,AV.strip2,zN,zI,Nat.reduceEqDiff,reduceCtorEq,↓reduceIte,Nat.reduceAdd,Int.reduceNeg,Nat.reduceLeDiff,Int.reduceToNat,Int.reduceEq,Int.reduceLT,Int.reduceLE,Int.reduceAdd]
 refine zb fun b2 hb2=>?_
 have hne:=yS hb2
 simp(disch:=omega) only[hne,Ne.symm hne,steps,st2,pev,rev,oev,yj,yt,yA,yB,bound,zM,mm2,mk,zw,AV.cells,AV.boxable,AV.one,AV.strip1,AV.strip2,zN,zI,Nat.reduceEqDiff,reduceCtorEq,↓reduceIte,Nat.reduceAdd,Int.reduceNeg,Nat.reduceLeDiff,Int.reduceToNat,Int.reduceEq,Int.reduceLT,Int.reduceLE,Int.reduceAdd]
 refine za hr ?_
 cases h1:zD ⟨nm,ls,ms⟩ with
 | false =>
  simp(disch:=omega) only[hne,Ne.symm hne,steps,st2,pev,rev,oev,yj,yt,yA,yB,bound,zM,mm2,mk,zw,AV.cells,AV.boxable,AV.one,AV.strip1,AV.strip2,zN,zI,Nat.reduceEqDiff,reduceCtorEq,↓reduceIte,Nat.reduceAdd,Int.reduceNeg,Nat.reduceLeDiff,Int.reduceToNat,Int.reduceEq,Int.reduceLT,Int.reduceLE,Int.reduceAdd]
  exact hQ _ _ _ [.agg [.str nm,.int .i64 ls,.int .i64 ms]] nofun (by simp(disch:=omega) only[ir152,zL,Zt,hne,Ne.symm hne,steps,st2,pev,rev,oev,yj,yt,yA,yB,bound,zM,mm2,mk,zw,AV.cells,AV.boxable,AV.one,AV.strip1,AV.strip2,zN,zI,Nat.reduceEqDiff,reduceCtorEq,↓reduceIte,Nat.reduceAdd,Int.reduceNeg,Nat.reduceLeDiff,Int.reduceToNat,Int.reduceEq,Int.reduceLT,Int.reduceLE,Int.reduceAdd,Io,Im,If,Il,Jt,Jf,AC.rg,Jm,Jl,Ja,Fm,Fl,Fa,Imv,Imb,Iai,Iei,Igi,Isi,Ipf,Ipt,Ilb,Iia,Ilt,Iap,Ink,Iln,Ils,Iad,Iex,Ibx,Ing]) (by simp[zas,h1];rfl)
 | true =>
  simp(disch:=omega) only[hne,Ne.symm hne,steps,st2,pev,rev,oev,yj,yt,yA,yB,bound,zM,mm2,mk,zw,AV.cells,AV.boxable,AV.one,AV.strip1,AV.strip2,zN,zI,Nat.reduceEqDiff,reduceCtorEq,↓reduceIte,Nat.reduceAdd,Int.reduceNeg,Nat.reduceLeDiff,Int.reduceToNat,Int.reduceEq,Int.reduceLT,Int.reduceLE,Int.reduceAdd]
  exact hQ _ _ _ [.agg [.str nm,.int .i64 ls,.int .i64 (IntKind.i64.wrap ((BitVec.ofInt IntKind.i64.bits ms &&& ~~~BitVec.ofInt IntKind.i64.bits 1).toNat:Int))]] nofun (by simp(disch:=omega) only[ir152,zL,Zt,hne,Ne.symm hne,steps,st2,pev,rev,oev,yj,yt,yA,yB,bound,zM,mm2,mk,zw,AV.cells,AV.boxable,AV.one,AV.strip1,AV.strip2,zN,zI,Nat.reduceEqDiff,reduceCtorEq,↓reduceIte,Nat.reduceAdd,Int.reduceNeg,Nat.reduceLeDiff,Int.reduceToNat,Int.reduceEq,Int.reduceLT,Int.reduceLE,Int.reduceAdd,Io,Im,If,Il,Jt,Jf,AC.rg,Jm,Jl,Ja,Fm,Fl,Fa,Imv,Imb,Iai,Iei,Igi,Isi,Ipf,Ipt,Ilb,Iia,Ilt,Iap,Ink,Iln,Ils,Iad,Iex,Ibx,Ing]) (by simp[zas,h1];rfl)
def nmW (n:List UInt8) (p:VarD):Bool:=decide (p.nm=n)
def zW:VarD:=⟨[],⟨[],0,0⟩,false,zV⟩
def ya (l:List VarD) (n:List UInt8):Option VarD:=l.find? (nmW n)
theorem zaz (x:VarD):(cW x).length=10:=by obtain⟨nm,t,h,d⟩:=x;cases d;rfl
theorem z7 (nm:List UInt8) (tn:List UInt8) (tl tm:Int) (h:Bool) (k n:Int) (s:List UInt8) (l:List Val) (m:List Mem):cW ⟨nm,⟨tn,tl,tm⟩,h,.mk k n s l m⟩=[.str nm,.str tn,.int .i64 tl,.int .i64 tm,.bool h,.int .i64 k,.int .i64 n,.str s,.sl .no 5 (cVs l),.sl .no 6 (cMs m)]:=rfl
theorem zqY (p:VarD) (n:List UInt8):zi Tryz.prog 142 [.agg (cW p),.view [.str n]] (.bool (nmW n p)):=by
 obtain⟨nm,⟨a,b,c⟩,h,⟨k,q,s,l,m⟩⟩:=p
 refine zi.go ir142 ck142 (Al4 _) fun KP Q hQ=>?_
 simp(disch:=omega) only[ir142,z7,go_sem]
 exact hQ _ _ _ _ nofun rfl (by simp[zd,ze,AV.strip,AV.strip1,nmW])
theorem zd0 (l:List VarD) (n:List UInt8) (hl:l.length≤Lim):zi Tryz.prog 97 [.sl .no 10 (cWs l),.str n] (.tup [.agg (cW ((ya l n).getD zW)),.bool (ya l n).isSome]):=by
 refine zi.go ir97 ck97 (Al4 _) fun KP Q hQ=>?_
 have hlb:=hl
 simp only[Lim] at hlb
 have hx:=zue cW zaz l 142 [.view [.str n]] (nmW n) hl (by kernel_rfl) fun x _=>zqY x n
 have fin:∀ o,ya l n=o→∀ ρ H vs,zL ρ H ir97.res=some vs→(zd vs).strip=.tup [.agg (cW (o.getD zW)),.bool o.isSome]→Q .ret ρ H:=fun o e ρ H vs h1 h2=>hQ _ ρ H vs nofun h1 (by rw[h2,e])
 simp(disch:=omega) only[ir97,go_sem]
 refine zb fun b4 hb4=>?_
 simp(disch:=omega) only[go_sem]
 refine za hx ?_
 rcases zag (nmW n) l 0 with ⟨a,x,r,h1,h2,h3,h4⟩|⟨h1,h2⟩
 ·rw[h4,Int.zero_add]
  have hg:=Zp h1
  have h6:=Zq l
  have h5:(a.length:Int)<l.length:=by rw[h1,Al5,Al2];omega
  have h7:¬ ((a.length:Int)<0):=by omega
  have e:ya l n=some x:=h3
  obtain⟨nm,⟨t1,t2,t3⟩,h,⟨k,q,s,l2,m⟩⟩:=x
  rw[z7] at hg
  simp(disch:=omega) only[hg,h6,h5,h7,go_sem]
  exact fin _ e _ _ [.agg (cW ⟨nm,⟨t1,t2,t3⟩,h,.mk k q s l2 m⟩),.bool true] (by simp(disch:=omega) only[ir97,zL,Zt,z7,go_sem]) rfl
 ·rw[h2]
  have e:ya l n=none:=h1
  simp(disch:=omega) only[go_sem]
  exact fin _ e _ _ [.agg [.str [],.str [],.int .i64 0,.int .i64 0,.bool false,.int .i64 0,.int .i64 0,.str [],.sl .nil 5 [],.sl .nil 6 []],.bool false] (by simp(disch:=omega) only[ir97,zL,Zt,go_sem]) rfl
def zgu (p:VarD):Bool:=isM p.t&&!p.has
theorem ztz (p:VarD) (hl:p.t.nm.length≤Lim):zi Tryz.prog 100 [.agg (cW p)] (.bool (zgu p)):=by
 have hi:=isC p.t hl
 obtain⟨nm,⟨a,b,c⟩,h,⟨k,q,s,l,m⟩⟩:=p
 simp only[cTy] at hi
 refine zi.go ir100 ck100 (Al4 _) fun KP Q hQ=>?_
 simp(disch:=omega) only[ir100,z7,go_sem]
 refine za hi ?_
 cases h1:isM ⟨a,b,c⟩ with
 | false =>
  simp(disch:=omega) only[go_sem]
  exact hQ _ _ _ _ nofun rfl (by simp[zd,ze,AV.strip,AV.strip1,zgu,h1])
 | true =>
  simp(disch:=omega) only[go_sem]
  exact hQ _ _ _ _ nofun rfl (by simp[zd,ze,AV.strip,AV.strip1,zgu,h1])
open Classical in
noncomputable def zae (s:SchD) (t:TyD) (v:Val) (w:Bool):Bool:=if h:∃ r:Bool,zi Tryz.prog 149 [.agg (zq s),.agg (cTy t),.agg (cV v),.bool w] (.bool r) then Classical.choose h else false
theorem zck {s:SchD} {t:TyD} {v:Val} {w:Bool} (h:∃ r:Bool,zi Tryz.prog 149 [.agg (zq s),.agg (cTy t),.agg (cV v),.bool w] (.bool r)):zi Tryz.prog 149 [.agg (zq s),.agg (cTy t),.agg (cV v),.bool w] (.bool (zae s t v w)):=by
 unfold zae;rw[dif_pos h];exact Classical.choose_spec h
def zhR (n:List UInt8):Mem→Bool
 | .mk x _=>decide (x=n)
noncomputable def zlM (s:SchD) (ps:List VarD):List Mem→List Mem→Bool
 | _,[]=>true
 | seen,.mk n v::r=>(match ya ps n with|none=>false|some p=>zae s p.t v false)&&(!seen.any (zhR n)&&zlM s ps (seen++[.mk n v]) r)
def zdB (ps:List VarD) (m:List Mem):Bool:=ps.all fun p=>(zb9 p.nm m).2||!zgu p
noncomputable def zdC (s:SchD) (ps:List VarD):Val→Bool
 | .mk k _ _ _ m=>decide (k=7)&&(zlM s ps [] m&&zdB ps m)
theorem zq5 (x:Mem) (n:List UInt8) (b:Nat) (rest:List AV) (H:zc) (hb:H b=some (.cells (.str n::rest))):zk Tryz.prog 251 [.agg (cM x),.ptr b 0] H (At (.bool (zhR n x)) H):=by
 obtain⟨xn,⟨k,q,s,l,m⟩⟩:=x
 refine zk.go ir251 ck251 (Al4 _) fun KP Q hQ=>?_
 simp(disch:=omega) only[ir251,zr,yh,hb,go_sem]
 exact hQ _ _ _ _ _ nofun rfl (Low.refl _) ⟨by simp[zd,ze,AV.strip,AV.strip1,zhR],rfl⟩
theorem zt4 (s : SchD) (ps : List VarD) (v : Val) (hb : bV v ≤ Lim) (hp : ps.length ≤ Lim) (hpt : ∀ p ∈ ps, p.t.nm.length ≤ Lim)
    (hm : ∀ k q st l m, v = .mk k q st l m → ∀ n x, Mem.mk n x ∈ m → ∀ t : TyD, t.nm.length ≤ Lim → zi Tryz.prog 149 [.agg (zq s), .agg (cTy t), .agg (cV x), .bool false] (.bool (zae s t x false))) :
    zi Tryz.prog 231 [.agg (zq s), .sl .no 10 (cWs ps), .agg (cV v)] (.bool (zdC s ps v)) := by
  obtain ⟨k, q, st, l, m⟩ := v
  replace hm := hm k q st l m rfl
  have hb' : 1 + st.length + bVs l + bMs m ≤ 1099511627776 := hb
  have hml := y5 m
  have h1 := yY m
  have h2 := Zq ps
  have hp' := hp
  simp only [Lim] at hp'
  obtain ⟨sd, sq, sm⟩ := s
  generalize hS : (⟨sd, sq, sm⟩ : SchD) = s at *
  have hcs : zq s = [.sl .no 6 (cEs sd), .str sq, .str sm] := by rw [← hS]; rfl
  simp only [hcs] at hm ⊢
  refine zi.go ir231 ck231 (Al4 _) fun KP Q hQ => ?_
  have fin : ∀ r, zdC s ps (.mk k q st l m) = r → ∀ ρ H, zL ρ H ir231.res = some [.bool r] → Q .ret ρ H := fun r e ρ H h1 => hQ _ ρ H _ nofun h1 (by rw [e]; rfl)
  by_cases k7 : k = 7
  case neg =>
    have e : zdC s ps (.mk k q st l m) = false := by simp [zdC, k7]
    simp (disch := omega) only [ir231, yh, k7, go_sem]
    exact fin _ e _ _ rfl
  subst k7
  simp (disch := omega) only [ir231, yh, h1, go_sem]
  refine zf m 21 (fun _ : Unit => []) (fun done rest _ H => zlM s ps done rest = zlM s ps [] m) () (by simp (disch := omega) only [go_sem]) rfl ?_ ?_
  · rintro _ H J hn hlt
    simp only [zlM] at hn
    simp (disch := omega) only [h1, hlt, h2, go_sem]
    refine zf ps 55 (fun _ : Unit => []) (fun done rest _ H => zdB rest m = zdB ps m) () (by simp (disch := omega) only [go_sem]) rfl ?_ ?_
    · rintro _ H J hn2 hlt
      have h0 : zdB ps m = true := by rw [← hn2]; rfl
      have e : zdC s ps (.mk 7 q st l m) = true := by simp [zdC, ← hn, h0]
      simp (disch := omega) only [h2, hlt, go_sem]
      exact fin _ e _ _ rfl
    · rintro done x rest _ H J hd hlt _ hn2 hJ
      have hg := Zp hd
      have hx := ztz x (hpt x (by rw [hd]; simp))
      have hG := zq0 x.nm m (by simp only [Lim]; omega)
      have hstep : zdB (x :: rest) m = (((zb9 x.nm m).2 || !zgu x) && zdB rest m) := by simp [zdB]
      rw [hstep] at hn2
      obtain ⟨nm, ⟨t1, t2, t3⟩, hh, ⟨xk, xq, xs, xl, xm⟩⟩ := x
      rw [z7] at hg hx
      simp only at hG hn2
      simp (disch := omega) only [h2, hlt, hg, go_sem]
      refine zb fun b12 hb12 => ?_
      simp (disch := omega) only [go_sem]
      refine za hG ?_
      generalize zb9 nm m = g at *
      obtain ⟨⟨gk, gq, gs, gl, gm⟩, gb⟩ := g
      simp (disch := omega) only [yh, go_sem]
      refine zb fun b13 hb13 => ?_
      have hne := yS hb13
      cases gb with
      | true =>
        simp only [Bool.true_or, Bool.true_and] at hn2
        simp (disch := omega) only [hne, Ne.symm hne, go_sem]
        exact goJ (hJ () _ hn2) (by simp (disch := omega) only [wrap64, go_sem])
      | false =>
        simp only [Bool.false_or] at hn2
        simp (disch := omega) only [hne, Ne.symm hne, go_sem]
        refine za hx ?_
        cases hr : zgu ⟨nm, ⟨t1, t2, t3⟩, hh, .mk xk xq xs xl xm⟩ with
        | true =>
          rw [hr] at hn2
          have e : zdC s ps (.mk 7 q st l m) = false := by simp [zdC, ← hn2]
          simp (disch := omega) only [go_sem]
          exact fin _ e _ _ rfl
        | false =>
          rw [hr] at hn2
          simp only [Bool.not_false, Bool.true_and] at hn2
          simp (disch := omega) only [go_sem]
          exact goJ (hJ () _ hn2) (by simp (disch := omega) only [wrap64, go_sem])
  · rintro done x rest _ H J hd hlt _ hn hJ
    have hg := Zr hd
    obtain ⟨n, x⟩ := x
    have hmx := hm n x (by rw [hd]; simp)
    have hP := zd0 ps n hp
    have hdl : done.length ≤ Lim := by have : m.length = done.length + (rest.length + 1) := by rw [hd]; simp
                                       simp only [Lim]; omega
    have htk : (cMs m).take done.length = done.map cM := by rw [zbD, hd]; simp
    have hstep : zlM s ps done (.mk n x :: rest) = ((match ya ps n with | none => false | some p => zae s p.t x false) && (!done.any (zhR n) && zlM s ps (done ++ [.mk n x]) rest)) := rfl
    rw [hstep] at hn
    obtain ⟨xk, xq, xs, xl, xm⟩ := x
    rw [zr, yh] at hg
    rw [yh] at hmx
    simp (disch := omega) only [h1, hlt, hg, go_sem]
    refine zb fun b8 hb8 => ?_
    simp (disch := omega) only [go_sem]
    refine za hP ?_
    cases hp2 : ya ps n with
    | none =>
      rw [hp2] at hn
      have e : zdC s ps (.mk 7 q st l m) = false := by simp [zdC, ← hn]
      simp (disch := omega) only [Option.getD, Option.isSome, zW, zV, z7, go_sem]
      refine zb fun b9 hb9 => ?_
      have hne := yS hb9
      simp (disch := omega) only [hne, Ne.symm hne, go_sem]
      exact fin _ e _ _ rfl
    | some p =>
      rw [hp2] at hn
      have hpl := hpt p (List.mem_of_find?_eq_some hp2)
      obtain ⟨pn, ⟨t1, t2, t3⟩, ph, ⟨pk, pq, ps2, pl, pm⟩⟩ := p
      have hf := hmx ⟨t1, t2, t3⟩ hpl
      simp only at hn
      simp only [cTy] at hf
      simp (disch := omega) only [Option.getD, Option.isSome, z7, go_sem]
      refine zb fun b9 hb9 => ?_
      have hne := yS hb9
      simp (disch := omega) only [hne, Ne.symm hne, go_sem]
      refine za hf ?_
      cases hfv : zae s ⟨t1, t2, t3⟩ (.mk xk xq xs xl xm) false with
      | false =>
        rw [hfv] at hn
        have e : zdC s ps (.mk 7 q st l m) = false := by simp [zdC, ← hn]
        simp (disch := omega) only [go_sem]
        exact fin _ e _ _ rfl
      | true =>
        rw [hfv] at hn
        simp only [Bool.true_and] at hn
        have hle : (done.length : Int) ≤ m.length := by omega
        simp (disch := omega) only [h1, hle, htk, go_sem]
        refine z6 (zq2 cM zo done 251 [.ptr b8 0] (zhR n) _ hdl (by kernel_rfl) fun y _ => zq5 y n b8 _ _ (by rw [upd_ne (Ne.symm hne), upd_same])) ?_
        rintro _ _ ⟨_, rfl, rfl, rfl⟩
        cases ha : done.any (zhR n) with
        | true =>
          rw [ha] at hn
          have e : zdC s ps (.mk 7 q st l m) = false := by simp [zdC, ← hn]
          simp (disch := omega) only [ZU, ha, go_sem]
          exact fin _ e _ _ rfl
        | false =>
          rw [ha] at hn
          simp (disch := omega) only [ZU, ha, go_sem]
          exact goJ (hJ () _ (by simpa using hn)) (by simp (disch := omega) only [wrap64, go_sem])
noncomputable def zia (s:SchD) (name:List UInt8) (v:Val):Bool:=match yM s name,v with
 | none,_=>false
 | some d,.mk k n st l m=>if d.k=4 then decide (k=5)&&z8 st d.parts else if d.k=5 then zdC s d.ps (.mk k n st l m) else if d.k≠0 then false
  else if name=[73,110,116] then decide (k=2)&&(decide (-2147483648≤n)&&decide (n≤2147483647)) else if name=[83,116,114,105,110,103] then decide (k=4) else if name=[66,111,111,108,101,97,110] then decide (k=1) else if name=[73,68] then decide (k=4)||decide (k=2) else false
theorem Yt {p:VarD}:∀ {l:List VarD},p∈l→bW p≤bWs l
 | x::l,h=>by
  rcases List.mem_cons.1 h with rfl|h
  ·simp only[bWs,List.map_cons,List.sum_cons];omega
  ·have:=Yt h;simp only[bWs,List.map_cons,List.sum_cons] at this ⊢;omega
theorem zs8 (s:SchD) (name:List UInt8) (v:Val) (hs:zJ s≤Lim) (hb:bV v≤Lim)
  (hm:∀ k q st l m,v=.mk k q st l m→∀ n x,Mem.mk n x∈m→∀ t:TyD,t.nm.length≤Lim→zi Tryz.prog 149 [.agg (zq s),.agg (cTy t),.agg (cV x),.bool false] (.bool (zae s t x false))) :
  zi Tryz.prog 205 [.agg (zq s),.str name,.agg (cV v)] (.bool (zia s name v)):=by
 have hin:=fun ps h1 h2=>zt4 s ps v hb h1 h2 hm
 obtain⟨k,q,st,l,m⟩:=v
 have hf:=zeB s name (yc hs)
 have hle:=@Yr s name
 have hsl:zJ s≤1099511627776:=hs
 obtain⟨sd,sq,sm⟩:=s
 generalize hS:(⟨sd,sq,sm⟩:SchD)=s at *
 have hcs:zq s=[.sl .no 6 (cEs sd),.str sq,.str sm]:=by rw[← hS];rfl
 simp only[hcs,yh] at hf hin ⊢
 refine zi.go ir205 ck205 (Al4 _) fun KP Q hQ=>?_
 have fin:∀ r,zia s name (.mk k q st l m)=r→∀ ρ H,zL ρ H ir205.res=some [.bool r]→Q .ret ρ H:=fun r e ρ H h1=>hQ _ ρ H _ nofun h1 (by rw[e];rfl)
 have e0:zia s name (.mk k q st l m)=match yM s name with
  | none=>false
  | some d=>if d.k=4 then decide (k=5)&&z8 st d.parts else if d.k=5 then zdC s d.ps (.mk k q st l m) else if d.k≠0 then false
   else if name=[73,110,116] then decide (k=2)&&(decide (-2147483648≤q)&&decide (q≤2147483647)) else if name=[83,116,114,105,110,103] then decide (k=4) else if name=[66,111,111,108,101,97,110] then decide (k=1) else if name=[73,68] then decide (k=4)||decide (k=2) else false:=by
  unfold zia;cases yM s name<;>rfl
 simp(disch:=omega) only[ir205,go_sem]
 refine za hf ?_
 cases hfe:yM s name with
 | none =>
  rw[hfe] at e0
  simp(disch:=omega) only[Option.getD,Option.isSome,zE,ye,go_sem]
  refine zb fun b7 hb7=>?_
  simp(disch:=omega) only[go_sem]
  exact fin _ e0 _ _ rfl
 | some d =>
  rw[hfe] at e0
  obtain⟨_,_,hle1,hle2⟩:=hle hfe
  obtain⟨dk,dn,fs,fl,ps,pa⟩:=d
  simp only at e0 hle1 hle2
  have hps:=ZP ps
  have hpa:=yP pa
  by_cases k4:dk=4
  ·subst k4
   rw[if_pos rfl] at e0
   simp(disch:=omega) only[Option.getD,Option.isSome,ye,go_sem]
   refine zb fun b7 hb7=>?_
   by_cases k5:k=5
   ·subst k5
    simp(disch:=omega) only[go_sem]
    refine za (yQ ps st (by simp only[Lim];omega)) ?_
    simp(disch:=omega) only[go_sem]
    exact fin _ (by rw[e0];simp) _ _ rfl
   ·simp(disch:=omega) only[k5,go_sem]
    exact fin false (by rw[e0];simp[k5]) _ _ rfl
  rw[if_neg k4] at e0
  by_cases k5:dk=5
  ·subst k5
   rw[if_pos rfl] at e0
   simp(disch:=omega) only[Option.getD,Option.isSome,ye,go_sem]
   refine zb fun b7 hb7=>?_
   simp(disch:=omega) only[go_sem]
   refine za (hin pa (by simp only[Lim];omega) fun p hp=>by have:=Yt hp;simp only[bW] at this;simp only[Lim];omega) ?_
   simp(disch:=omega) only[go_sem]
   exact fin _ e0 _ _ rfl
  rw[if_neg k5] at e0
  by_cases k0:dk=0
  case neg =>
   rw[if_pos k0] at e0
   simp(disch:=omega) only[Option.getD,Option.isSome,ye,go_sem]
   refine zb fun b7 hb7=>?_
   simp(disch:=omega) only[k4,k5,k0,go_sem]
   exact fin _ e0 _ _ rfl
  subst k0
  rw[if_neg (by simp)] at e0
  simp(disch:=omega) only[Option.getD,Option.isSome,ye,go_sem]
  refine zb fun b7 hb7=>?_
  by_cases n1:name=[73,110,116]
  ·rw[if_pos n1] at e0
   have n1':=eq_true n1
   by_cases v2:k=2
   case neg =>
    simp(disch:=omega) only[n1',v2,go_sem]
    exact fin false (by rw[e0];simp[v2]) _ _ rfl
   subst v2
   by_cases v3:-2147483648≤q
   case neg =>
    simp(disch:=omega) only[n1',v3,go_sem]
    exact fin false (by rw[e0];simp[v3]) _ _ rfl
   simp(disch:=omega) only[n1',v3,go_sem]
   exact fin (decide (q≤2147483647)) (by rw[e0];simp[v3]) _ _ rfl
  rw[if_neg n1] at e0
  by_cases n2:name=[83,116,114,105,110,103]
  ·rw[if_pos n2] at e0
   have n2':=eq_true n2
   simp(disch:=omega) only[n1,n2',go_sem]
   exact fin _ e0 _ _ rfl
  rw[if_neg n2] at e0
  by_cases n3:name=[66,111,111,108,101,97,110]
  ·rw[if_pos n3] at e0
   have n3':=eq_true n3
   simp(disch:=omega) only[n1,n2,n3',go_sem]
   exact fin _ e0 _ _ rfl
  rw[if_neg n3] at e0
  by_cases n4:name=[73,68]
  ·rw[if_pos n4] at e0
   have n4':=eq_true n4
   by_cases v4:k=4
   ·simp(disch:=omega) only[n1,n2,n3,n4',v4,go_sem]
    exact fin true (by rw[e0];simp[v4]) _ _ rfl
   ·simp(disch:=omega) only[n1,n2,n3,n4',v4,go_sem]
    exact fin (decide (k=2)) (by rw[e0];simp[v4]) _ _ rfl
  rw[if_neg n4] at e0
  simp(disch:=omega) only[n1,n2,n3,n4,go_sem]
  exact fin _ e0 _ _ rfl
noncomputable def zpe (s:SchD) (t:TyD) (v:Val) (w:Bool):Bool:=match v with
 | .mk k n st l m=>if k=8 then zD t else if k=0 then zD t&&!isM t else if zD t=false then false else match YE t with
  | none=>zia s t.nm (.mk k n st l m)
  | some it=>if k≠6 then !w&&zae s it (.mk k n st l m) false else l.all fun x=>zae s it x true
theorem zeF {t it:TyD} (h:YE t=some it):it.nm=t.nm∧0≤it.lists∧it.lists.toNat+1=t.lists.toNat:=by
 unfold YE at h
 split at h
 ·rename_i hc
  have:=zcW hc.1
  have h2:=hc.2
  cases h
  refine⟨rfl,?_,?_⟩
  ·show 0≤t.lists-1
   omega
  ·show (t.lists-1).toNat+1=t.lists.toNat
   omega
 ·cases h
theorem zjh {v:Val}:∀ {l:List Val},v∈l→bV v≤bVs l
 | x::l,h=>by
  rcases List.mem_cons.1 h with rfl|h
  ·simp only[bVs];omega
  ·have:=zjh h;simp only[bVs];omega
theorem zuW (s:SchD) (hs:zJ s≤Lim):∀ v:Val,∀(n:Nat) (t:TyD) (w:Bool),t.lists.toNat≤n→bV v≤Lim→t.nm.length≤Lim→zi Tryz.prog 149 [.agg (zq s),.agg (cTy t),.agg (cV v),.bool w] (.bool (zpe s t v w)):=by
 refine Val.ind fun k q st l m ihl ihm=>?_
 have hll:=zaq l
 have h1:=Ys l
 intro n
 induction n using Nat.strongRecOn with
 | _ n ih =>
 intro t w hn hb ht
 have hb':1+st.length+bVs l+bMs m≤1099511627776:=hb
 have hr:=YM t ht
 have hi:=isC t ht
 have hit:=zsl t ht
 have hbare:=zs8 s t.nm (.mk k q st l m) hs hb fun k' q' st' l' m' e n' x hx t' ht'=>by
  cases e
  have hxb:bV x≤Lim:=by have:=zeJ hx;simp only[Lim];omega
  exact zck ⟨_,ihm n' x hx t'.lists.toNat t' false (Al4 _) hxb ht'⟩
 have hsame:∀ it,YE t=some it→zi Tryz.prog 149 [.agg (zq s),.agg (cTy it),.agg (cV (.mk k q st l m)),.bool false] (.bool (zae s it (.mk k q st l m) false)):=fun it h=>by
  obtain⟨e1,e2,e3⟩:=zeF h
  exact zck ⟨_,ih it.lists.toNat (by omega) it false (Al4 _) hb (by rw[e1];exact ht)⟩
 have hlist:∀ it,YE t=some it→∀ x∈l,zi Tryz.prog 149 [.agg (zq s),.agg (cTy it),.agg (cV x),.bool true] (.bool (zae s it x true)):=fun it h x hx=>by
  obtain⟨e1,e2,e3⟩:=zeF h
  have hxb:bV x≤Lim:=by have:=zjh hx;simp only[Lim];omega
  exact zck ⟨_,ihl x hx it.lists.toNat it true (Al4 _) hxb (by rw[e1];exact ht)⟩
 have e0:zpe s t (.mk k q st l m) w=if k=8 then zD t else if k=0 then zD t&&!isM t else if zD t=false then false else match YE t with
  | none=>zia s t.nm (.mk k q st l m)
  | some it=>if k≠6 then !w&&zae s it (.mk k q st l m) false else l.all fun x=>zae s it x true:=rfl
 generalize zpe s t (.mk k q st l m) w=F at *
 obtain⟨sd,sq,sm⟩:=s
 generalize hS:(⟨sd,sq,sm⟩:SchD)=s at *
 have hcs:zq s=[.sl .no 6 (cEs sd),.str sq,.str sm]:=by rw[← hS];rfl
 obtain⟨tn,tl,tm⟩:=t
 simp only[hcs,yh] at hbare hsame hlist ⊢
 simp only[cTy] at hr hi hit ⊢
 refine zi.go ir149 ck149 (Al4 _) fun KP Q hQ=>?_
 have fin:∀ r,F=r→∀ ρ H,zL ρ H ir149.res=some [.bool r]→Q .ret ρ H:=fun r e ρ H h1=>hQ _ ρ H _ nofun h1 (by rw[e];rfl)
 by_cases k8:k=8
 ·subst k8
  rw[if_pos rfl] at e0
  simp(disch:=omega) only[ir149,go_sem]
  refine za hr ?_
  simp(disch:=omega) only[go_sem]
  exact fin _ e0 _ _ rfl
 rw[if_neg k8] at e0
 by_cases k0:k=0
 ·subst k0
  rw[if_pos rfl] at e0
  simp(disch:=omega) only[ir149,go_sem]
  refine za hr ?_
  cases hrt:zD ⟨tn,tl,tm⟩ with
  | false =>
   simp(disch:=omega) only[go_sem]
   exact fin false (by rw[e0,hrt];rfl) _ _ rfl
  | true =>
   simp(disch:=omega) only[go_sem]
   refine za hi ?_
   simp(disch:=omega) only[go_sem]
   exact fin (!isM ⟨tn,tl,tm⟩) (by rw[e0,hrt];rfl) _ _ rfl
 rw[if_neg k0] at e0
 simp(disch:=omega) only[ir149,k8,k0,go_sem]
 refine za hr ?_
 cases hrt:zD ⟨tn,tl,tm⟩ with
 | false =>
  rw[if_pos hrt] at e0
  simp(disch:=omega) only[go_sem]
  exact fin false e0 _ _ rfl
 | true =>
  rw[if_neg (by rw[hrt];simp)] at e0
  simp(disch:=omega) only[go_sem]
  refine za hit ?_
  cases him:YE ⟨tn,tl,tm⟩ with
  | none =>
   rw[him] at e0
   simp(disch:=omega) only[Option.getD,Option.isSome,zTy,go_sem]
   refine zb fun b9 hb9=>?_
   simp(disch:=omega) only[go_sem]
   refine za hbare ?_
   simp(disch:=omega) only[go_sem]
   exact fin _ e0 _ _ rfl
  | some it =>
   rw[him] at e0
   replace hsame:=hsame it him
   replace hlist:=hlist it him
   obtain⟨in',il,im⟩:=it
   simp only at hsame hlist e0
   simp(disch:=omega) only[Option.getD,Option.isSome,go_sem]
   refine zb fun b9 hb9=>?_
   by_cases k6:k=6
   case neg =>
    rw[if_pos k6] at e0
    cases w with
    | true =>
     simp(disch:=omega) only[k6,go_sem]
     exact fin false e0 _ _ rfl
    | false =>
     simp(disch:=omega) only[k6,go_sem]
     refine za hsame ?_
     simp(disch:=omega) only[go_sem]
     exact fin _ (by rw[e0];rfl) _ _ rfl
   subst k6
   rw[if_neg (by simp)] at e0
   simp(disch:=omega) only[h1,go_sem]
   refine zf l 59 (fun _:Unit=>[]) (fun done rest _ H=>H b9=some (.cells [.str in',.int .i64 il,.int .i64 im])∧(rest.all fun x=>zae s ⟨in',il,im⟩ x true)=l.all fun x=>zae s ⟨in',il,im⟩ x true) () (by simp(disch:=omega) only[go_sem]) ⟨upd_same ..,rfl⟩ ?_ ?_
   ·rintro _ H J ⟨hH,hp⟩ hlt
    simp(disch:=omega) only[h1,hlt,go_sem]
    exact fin true (by rw[e0,← hp];rfl) _ _ rfl
   ·rintro done x rest _ H J hd hlt _ ⟨hH,hp⟩ hJ
    have hg:=zao hd
    have hx:=hlist x (by rw[hd];simp)
    rw[List.all_cons] at hp
    obtain⟨xk,xq,xs,xl,xm⟩:=x
    rw[yh] at hg hx
    simp(disch:=omega) only[h1,hlt,hg,go_sem]
    refine zb fun b12 hb12=>?_
    have hne:b9≠b12:=fun e=>by subst e;rw[hH] at hb12;cases hb12
    simp(disch:=omega) only[hH,hne,Ne.symm hne,go_sem]
    refine za hx ?_
    cases hfx:zae s ⟨in',il,im⟩ (.mk xk xq xs xl xm) true with
    | false =>
     rw[hfx] at hp
     simp(disch:=omega) only[go_sem]
     exact fin false (by rw[e0,← hp];rfl) _ _ rfl
    | true =>
     rw[hfx] at hp
     simp(disch:=omega) only[go_sem]
     exact goJ (hJ () _ ⟨by simp(disch:=omega) only[hH,hne,Ne.symm hne,go_sem],by simpa using hp⟩) (by simp(disch:=omega) only[wrap64,go_sem])
theorem zuA (s:SchD) (t:TyD) (v:Val) (w:Bool) (hs:zJ s≤Lim) (hb:bV v≤Lim) (ht:t.nm.length≤Lim):zi Tryz.prog 149 [.agg (zq s),.agg (cTy t),.agg (cV v),.bool w] (.bool (zae s t v w)) :=
 zck ⟨_,zuW s hs v _ t w (Al4 _) hb ht⟩
noncomputable def ZQ (s:SchD) (t:TyD) (v:Val):Bool:=zmc v&&zae s t v false
theorem zfh (s:SchD) (t:TyD) (v:Val) (hs:zJ s≤Lim) (hb:bV v≤Lim) (ht:t.nm.length≤Lim):zi Tryz.prog 109 [.agg (zq s),.agg (cTy t),.agg (cV v)] (.bool (ZQ s t v)):=by
 have hf:=zuA s t v false hs hb ht
 have hg:=zt8 v hb
 obtain⟨sd,sq,sm⟩:=s
 obtain⟨tn,tl,tm⟩:=t
 obtain⟨k,q,st,l,m⟩:=v
 simp only[zq,cTy,yh] at hf hg ⊢
 refine zi.go ir109 ck109 (Al4 _) fun KP Q hQ=>?_
 simp(disch:=omega) only[ir109,go_sem]
 refine za hg ?_
 cases h:zmc (.mk k q st l m) with
 | false =>
  simp(disch:=omega) only[go_sem]
  exact hQ _ _ _ _ nofun rfl (by simp[zd,ze,AV.strip,AV.strip1,ZQ,h])
 | true =>
  simp(disch:=omega) only[go_sem]
  refine za hf ?_
  simp(disch:=omega) only[go_sem]
  exact hQ _ _ _ _ nofun rfl (by simp[zd,ze,AV.strip,AV.strip1,ZQ,h])
theorem zrm (d:DefD) (f:FuncId) (caps:List AV) (r:Bool) (H:zc) (hf:Program.callable Tryz.prog f=true) (h:zk Tryz.prog f (.agg (cE d)::caps) H (At (.bool r) H)) :
  zk Tryz.prog 214 [.agg (cE d),.view [.clo f [] caps]] H (At (.bool (!r)) H):=by
 obtain⟨k,nm,fs,fl,ps,pa⟩:=d
 rw[ye] at h ⊢
 refine zk.go ir214 ck214 (Al4 _) fun KP Q hQ=>?_
 simp(disch:=omega) only[ir214,go_sem]
 refine⟨hf,z6 h ?_⟩
 rintro _ _ ⟨_,rfl,rfl,rfl⟩
 simp(disch:=omega) only[ZU,go_sem]
 exact hQ _ _ _ _ _ nofun rfl (Low.refl _) ⟨rfl,rfl⟩
theorem zdS (s:SchD) (f:FuncId) (caps:List AV) (p:DefD→Bool) (H:zc) (hl:s.defs.length≤Lim) (hf:Program.callable Tryz.prog f=true) (hc:∀ d∈s.defs,zk Tryz.prog f (.agg (cE d)::caps) H (At (.bool (p d)) H)) :
  zk Tryz.prog 163 [.agg (zq s),.clo f [] caps] H (At (.bool (s.defs.all p)) H):=by
 have hx:=zrh cE (fun _=>rfl) s.defs 214 [.view [.clo f [] caps]] (fun d=>!p d) H hl (by kernel_rfl) fun d hd=>zrm d f caps (p d) H hf (hc d hd)
 have e:(!s.defs.any fun d=>!p d)=s.defs.all p:=by simp[List.all_eq_not_any_not]
 obtain⟨sd,sq,sm⟩:=s
 simp only at hx e
 refine zk.go ir163 ck163 (Al4 _) fun KP Q hQ=>?_
 simp(disch:=omega) only[ir163,zq,go_sem]
 refine z6 hx ?_
 rintro _ _ ⟨_,rfl,rfl,rfl⟩
 simp(disch:=omega) only[ZU,go_sem]
 exact hQ _ _ _ _ _ nofun rfl (Low.refl _) ⟨by rw[← e];rfl,rfl⟩
def zc8:List (List UInt8)→List (List UInt8)→Bool
 | _,[]=>true
 | a,x::r=>!z8 x a&&zc8 (a++[x]) r
def zaf (l:List (List UInt8)):Bool:=zc8 [] l
theorem zml (l:List (List UInt8)) (hl:l.length≤Lim):zi Tryz.prog 159 [.sl .no 1 (cT l)] (.bool (zaf l)):=by
 refine zi.go ir159 ck159 (Al4 _) fun KP Q hQ=>?_
 have h1:=zK l
 simp only[Lim] at hl
 simp(disch:=omega) only[ir159,h1,go_sem]
 refine zf l 7 (fun _:Unit=>[]) (fun done rest _ H=>zc8 done rest=zaf l) () (by simp(disch:=omega) only[go_sem]) rfl ?_ ?_
 ·rintro _ H J hn hlt
  simp(disch:=omega) only[h1,hlt,go_sem]
  exact hQ _ _ _ _ nofun rfl (by simp[zd,ze,AV.strip,AV.strip1,← hn,zc8])
 ·rintro done x rest _ H J hd hlt _ hn hJ
  have hg:=Z5 hd
  have htk:(cT l).take done.length=cT done:=by rw[hd];simp[cT]
  have hle:(done.length:Int)≤l.length:=by omega
  have hdl:done.length≤Lim:=by simp only[Lim];omega
  simp only[zc8] at hn
  simp(disch:=omega) only[h1,hlt,hg,htk,hle,go_sem]
  refine za (yQ done x hdl) ?_
  cases hh:z8 x done with
  | true =>
   rw[hh] at hn
   simp(disch:=omega) only[go_sem]
   exact hQ _ _ _ _ nofun rfl (by simp[zd,ze,AV.strip,AV.strip1,← hn])
  | false =>
   rw[hh] at hn
   simp(disch:=omega) only[go_sem]
   exact goJ (hJ () _ (by simpa using hn)) (by simp(disch:=omega) only[wrap64,go_sem])
theorem znD (s:List UInt8):zi Tryz.prog 211 [.str s] (.bool (List.isPrefixOf [95,95] s)):=by
 refine zi.go ir211 ck211 (Al4 _) fun KP Q hQ=>?_
 simp(disch:=omega) only[ir211,go_sem]
 refine za (ziF s [95,95]) ?_
 simp(disch:=omega) only[go_sem]
 exact hQ _ _ _ _ nofun rfl (by simp[zd,ze,AV.strip,AV.strip1])
def zbg (l:List (List UInt8)):Bool:=l.all fun s=>!List.isPrefixOf [95,95] s
theorem zjC (l:List (List UInt8)) (hl:l.length≤Lim):zi Tryz.prog 160 [.sl .no 1 (cT l)] (.bool (zbg l)):=by
 have hx:=zlf (fun s:List UInt8=>AV.str s) l 211 [] (fun s=>List.isPrefixOf [95,95] s) hl (by kernel_rfl) fun s _=>znD s
 have e:(!l.any fun s=>List.isPrefixOf [95,95] s)=zbg l:=by simp[zbg,List.all_eq_not_any_not]
 refine zi.go ir160 ck160 (Al4 _) fun KP Q hQ=>?_
 simp(disch:=omega) only[ir160,go_sem]
 refine za hx ?_
 simp(disch:=omega) only[go_sem]
 exact hQ _ _ _ _ nofun rfl (by rw[← e];rfl)
theorem zru {P:Program} {f:FuncId} {args:List AV} {r:AV} (h:zi P f args r) (H:zc):zk P f args H (At r H) :=
 (h.use (K:=fun v H'=>v=r∧H'=H) (KP:=fun _ _=>False) ⟨rfl,rfl⟩).mono fun e H' he=>by
  cases e with
  | ret v=>exact⟨v,rfl,he.1,he.2⟩
  | pan v=>exact he.elim
theorem zrA (x:DefD):zi Tryz.prog 157 [.agg (cE x)] (.str x.nm):=by
 obtain⟨k,nm,fs,fl,ps,pa⟩:=x
 refine zi.go ir157 ck157 (Al4 _) fun KP Q hQ=>?_
 simp(disch:=omega) only[ir157,ye,go_sem]
 exact hQ _ _ _ _ nofun rfl (by simp[zd,ze,AV.strip,AV.strip1])
theorem zlu (l:List DefD) (hl:l.length≤Lim):zi Tryz.prog 156 [.sl .no 6 (cEs l),.clo 157 [] []] (.sl .no 1 (cT (l.map (·.nm)))):=by
 have h1:=zep l
 simp only[Lim] at hl
 refine zi.go ir156 ck156 (Al4 _) fun KP Q hQ=>?_
 simp(disch:=omega) only[ir156,h1,go_sem]
 refine zf l 10 (fun x:Own×List (List UInt8)=>[(5,.sl x.1 1 (cT x.2))]) (fun done rest x H'=>x.2=done.map (·.nm)∧zR H' x.1 done.length 1) (.nil,[]) (by simp(disch:=omega) only[cT,List.map,go_sem]) ⟨rfl,rfl⟩ ?_ ?_
 ·rintro⟨o1,a⟩ H' J ⟨hn,hs⟩ hlt
  simp only at hn
  subst hn
  simp(disch:=omega) only[h1,hlt,go_sem]
  exact hQ _ _ _ _ nofun rfl (by simp[zd,ze,AV.strip,AV.strip1])
 ·rintro done x rest ⟨o1,a⟩ H' J hd hlt _ ⟨hn,hs⟩ hJ
  have hg:=zdr hd
  have hx:=zrA x
  simp only at hn
  subst hn
  have h3:=zK (done.map (·.nm))
  rw[List.length_map] at h3
  replace hs:zR H' o1 done.length 1:=hs
  obtain⟨k,nm,fs,fl,ps,pa⟩:=x
  rw[ye] at hg hx
  try simp only at hx
  simp(disch:=omega) only[h1,hlt,hg,go_sem]
  refine zb fun b7 hb7=>?_
  simp(disch:=omega) only[go_sem]
  refine⟨by kernel_rfl,za hx ?_⟩
  simp(disch:=omega) only[go_sem]
  refine zt (by rw[h3];exact hs.upd hb7) ?_ ?_ fun o' H2 hs2=>?_
  ·simp only[h3,Al2,Al3];omega
  ·simp only[h3,Al2,Al3,maxLen];omega
  have e0:cT (done.map (·.nm))++[[AV.str nm]]=cT (done.map (·.nm)++[nm]):=by simp[cT]
  have hs3:=hs2.own
  simp only[h3,Al2,Al3] at hs3
  simp(disch:=omega) only[wrap64,e0,go_sem]
  exact goJ (hJ (o',done.map (·.nm)++[nm]) H2 ⟨by simp,by simpa using hs3⟩) (by simp(disch:=omega) only[go_sem])
theorem zrb (x:FldD):zi Tryz.prog 166 [.agg (cL x)] (.str x.nm):=by
 obtain⟨nm,ps,⟨t1,t2,t3⟩,ds⟩:=x
 refine zi.go ir166 ck166 (Al4 _) fun KP Q hQ=>?_
 simp(disch:=omega) only[ir166,zaB,go_sem]
 exact hQ _ _ _ _ nofun rfl (by simp[zd,ze,AV.strip,AV.strip1])
theorem zlq (l:List FldD) (hl:l.length≤Lim):zi Tryz.prog 165 [.sl .no 6 (cLs l),.clo 166 [] []] (.sl .no 1 (cT (l.map (·.nm)))):=by
 have h1:=zaY l
 simp only[Lim] at hl
 refine zi.go ir165 ck165 (Al4 _) fun KP Q hQ=>?_
 simp(disch:=omega) only[ir165,h1,go_sem]
 refine zf l 10 (fun x:Own×List (List UInt8)=>[(5,.sl x.1 1 (cT x.2))]) (fun done rest x H'=>x.2=done.map (·.nm)∧zR H' x.1 done.length 1) (.nil,[]) (by simp(disch:=omega) only[cT,List.map,go_sem]) ⟨rfl,rfl⟩ ?_ ?_
 ·rintro⟨o1,a⟩ H' J ⟨hn,hs⟩ hlt
  simp only at hn
  subst hn
  simp(disch:=omega) only[h1,hlt,go_sem]
  exact hQ _ _ _ _ nofun rfl (by simp[zd,ze,AV.strip,AV.strip1])
 ·rintro done x rest ⟨o1,a⟩ H' J hd hlt _ ⟨hn,hs⟩ hJ
  have hg:=zdj hd
  have hx:=zrb x
  simp only at hn
  subst hn
  have h3:=zK (done.map (·.nm))
  rw[List.length_map] at h3
  replace hs:zR H' o1 done.length 1:=hs
  obtain⟨nm,ps,⟨t1,t2,t3⟩,ds⟩:=x
  rw[zaB] at hg hx
  try simp only at hx
  simp(disch:=omega) only[h1,hlt,hg,go_sem]
  refine zb fun b7 hb7=>?_
  simp(disch:=omega) only[go_sem]
  refine⟨by kernel_rfl,za hx ?_⟩
  simp(disch:=omega) only[go_sem]
  refine zt (by rw[h3];exact hs.upd hb7) ?_ ?_ fun o' H2 hs2=>?_
  ·simp only[h3,Al2,Al3];omega
  ·simp only[h3,Al2,Al3,maxLen];omega
  have e0:cT (done.map (·.nm))++[[AV.str nm]]=cT (done.map (·.nm)++[nm]):=by simp[cT]
  have hs3:=hs2.own
  simp only[h3,Al2,Al3] at hs3
  simp(disch:=omega) only[wrap64,e0,go_sem]
  exact goJ (hJ (o',done.map (·.nm)++[nm]) H2 ⟨by simp,by simpa using hs3⟩) (by simp(disch:=omega) only[go_sem])
theorem zq4 (x:VarD):zi Tryz.prog 168 [.agg (cW x)] (.str x.nm):=by
 obtain⟨nm,⟨t1,t2,t3⟩,h,⟨k,q,st,l2,m⟩⟩:=x
 refine zi.go ir168 ck168 (Al4 _) fun KP Q hQ=>?_
 simp(disch:=omega) only[ir168,z7,go_sem]
 exact hQ _ _ _ _ nofun rfl (by simp[zd,ze,AV.strip,AV.strip1])
theorem zgk (l:List VarD) (hl:l.length≤Lim):zi Tryz.prog 167 [.sl .no 10 (cWs l),.clo 168 [] []] (.sl .no 1 (cT (l.map (·.nm)))):=by
 have h1:=Zq l
 simp only[Lim] at hl
 refine zi.go ir167 ck167 (Al4 _) fun KP Q hQ=>?_
 simp(disch:=omega) only[ir167,h1,go_sem]
 refine zf l 10 (fun x:Own×List (List UInt8)=>[(5,.sl x.1 1 (cT x.2))]) (fun done rest x H'=>x.2=done.map (·.nm)∧zR H' x.1 done.length 1) (.nil,[]) (by simp(disch:=omega) only[cT,List.map,go_sem]) ⟨rfl,rfl⟩ ?_ ?_
 ·rintro⟨o1,a⟩ H' J ⟨hn,hs⟩ hlt
  simp only at hn
  subst hn
  simp(disch:=omega) only[h1,hlt,go_sem]
  exact hQ _ _ _ _ nofun rfl (by simp[zd,ze,AV.strip,AV.strip1])
 ·rintro done x rest ⟨o1,a⟩ H' J hd hlt _ ⟨hn,hs⟩ hJ
  have hg:=Zp hd
  have hx:=zq4 x
  simp only at hn
  subst hn
  have h3:=zK (done.map (·.nm))
  rw[List.length_map] at h3
  replace hs:zR H' o1 done.length 1:=hs
  obtain⟨nm,⟨t1,t2,t3⟩,h,⟨k,q,st,l2,m⟩⟩:=x
  rw[z7] at hg hx
  try simp only at hx
  simp(disch:=omega) only[h1,hlt,hg,go_sem]
  refine zb fun b7 hb7=>?_
  simp(disch:=omega) only[go_sem]
  refine⟨by kernel_rfl,za hx ?_⟩
  simp(disch:=omega) only[go_sem]
  refine zt (by rw[h3];exact hs.upd hb7) ?_ ?_ fun o' H2 hs2=>?_
  ·simp only[h3,Al2,Al3];omega
  ·simp only[h3,Al2,Al3,maxLen];omega
  have e0:cT (done.map (·.nm))++[[AV.str nm]]=cT (done.map (·.nm)++[nm]):=by simp[cT]
  have hs3:=hs2.own
  simp only[h3,Al2,Al3] at hs3
  simp(disch:=omega) only[wrap64,e0,go_sem]
  exact goJ (hJ (o',done.map (·.nm)++[nm]) H2 ⟨by simp,by simpa using hs3⟩) (by simp(disch:=omega) only[go_sem])
theorem znW (s:SchD) (p:VarD) (hl:s.defs.length≤Lim):zi Tryz.prog 215 [.agg (cW p),.view (zq s)] (.bool (!zbE s p.t.nm)):=by
 have he:=zqa s p.t.nm hl
 obtain⟨nm,⟨t1,t2,t3⟩,h,⟨k,q,st,l,m⟩⟩:=p
 obtain⟨sd,sq,sm⟩:=s
 simp only[zq] at he ⊢
 refine zi.go ir215 ck215 (Al4 _) fun KP Q hQ=>?_
 simp(disch:=omega) only[ir215,z7,go_sem]
 refine za he ?_
 simp(disch:=omega) only[go_sem]
 exact hQ _ _ _ _ nofun rfl (by simp[zd,ze,AV.strip,AV.strip1])
def zbZ (s:SchD) (l:List VarD):Bool:=l.all fun p=>zbE s p.t.nm
theorem not_any {α:Type} (p:α→Bool) (l:List α):(!l.any fun x=>!p x)=l.all p:=by simp[List.all_eq_not_any_not]
theorem zkV (s:SchD) (ps:List VarD) (hl:s.defs.length≤Lim) (hp:ps.length≤Lim):zi Tryz.prog 172 [.agg (zq s),.sl .no 10 (cWs ps)] (.bool (zbZ s ps)):=by
 have hx:=zp2 cW zaz ps 215 [.view (zq s)] (fun p=>!zbE s p.t.nm) hp (by kernel_rfl) fun p _=>znW s p hl
 obtain⟨sd,sq,sm⟩:=s
 simp only[zq] at hx ⊢
 refine zi.go ir172 ck172 (Al4 _) fun KP Q hQ=>?_
 simp(disch:=omega) only[ir172,go_sem]
 refine za hx ?_
 simp(disch:=omega) only[go_sem]
 exact hQ _ _ _ _ nofun rfl (by rw[zbZ,← not_any];rfl)
def zoL (s:SchD) (f:FldD):Bool:=(!zaD s f.t.nm&&!ZZ s f.t.nm)||!zbZ s f.ps
theorem zo3 (s:SchD) (f:FldD) (b:Nat) (H:zc) (hb:H b=some (.cells (zq s))) (hl:s.defs.length≤Lim) (hp:f.ps.length≤Lim):zk Tryz.prog 173 [.agg (cL f),.ptr b 0] H (At (.bool (zoL s f)) H):=by
 have h1:=zjy s f.t.nm hl
 have h2:=zgz s f.t.nm hl
 have h3:=zkV s f.ps hl hp
 obtain⟨nm,ps,⟨t1,t2,t3⟩,ds⟩:=f
 simp only at h1 h2 h3
 unfold zoL
 simp only
 generalize zaD s t1=x1 at *
 generalize ZZ s t1=x2 at *
 generalize zbZ s ps=x3 at *
 obtain⟨sd,sq,sm⟩:=s
 simp only[zq] at h1 h2 h3 hb
 refine zk.go ir173 ck173 (Al4 _) fun KP Q hQ=>?_
 simp(disch:=omega) only[ir173,zaB,hb,go_sem]
 refine za h1 ?_
 cases x1 with
 | true =>
  simp(disch:=omega) only[hb,go_sem]
  refine za h3 ?_
  simp(disch:=omega) only[go_sem]
  exact hQ _ _ _ _ _ nofun rfl (Low.refl _) ⟨by simp[zd,ze,AV.strip,AV.strip1],rfl⟩
 | false =>
  simp(disch:=omega) only[hb,go_sem]
  refine za h2 ?_
  cases x2 with
  | true =>
   simp(disch:=omega) only[hb,go_sem]
   refine za h3 ?_
   simp(disch:=omega) only[go_sem]
   exact hQ _ _ _ _ _ nofun rfl (Low.refl _) ⟨by simp[zd,ze,AV.strip,AV.strip1],rfl⟩
  | false =>
   simp(disch:=omega) only[hb,go_sem]
   exact hQ _ _ _ _ _ nofun rfl (Low.refl _) ⟨by simp[zd,ze,AV.strip,AV.strip1],rfl⟩
def zoT (s:SchD) (d:DefD):Bool:=zbZ s d.ps&&!d.flds.any (zoL s)
theorem zcb {f:FldD}:∀ {l:List FldD},f∈l→bL f≤bLs l
 | x::l,h=>by
  rcases List.mem_cons.1 h with rfl|h
  ·simp only[bLs,List.map_cons,List.sum_cons];omega
  ·have:=zcb h;simp only[bLs,List.map_cons,List.sum_cons] at this ⊢;omega
theorem zph {f:FldD}:f.ps.length≤bL f:=by have:=yP f.ps;simp only[bL];omega
theorem zrj (s:SchD) (d:DefD) (b:Nat) (H:zc) (hb:H b=some (.cells (zq s))) (hl:s.defs.length≤Lim) (hd:bE d≤Lim):zk Tryz.prog 171 [.agg (cE d),.ptr b 0] H (At (.bool (zoT s d)) H):=by
 have hd':=hd
 simp only[bE,Lim] at hd'
 have hf1:=YW d.flds
 have hp1:=yP d.ps
 have h1:=zkV s d.ps hl (by simp only[Lim];omega)
 have h2:=zi3 cL (fun _=>rfl) d.flds 173 [.ptr b 0] (zoL s) H (by simp only[Lim];omega) (by kernel_rfl) fun f hf=>zo3 s f b H hb hl (by have:=zcb hf;have:=@zph f;simp only[Lim];omega)
 obtain⟨k,nm,fs,fl,ps,pa⟩:=d
 simp only at h1 h2
 unfold zoT
 simp only
 generalize zbZ s pa=x1 at *
 generalize fl.any (zoL s)=x2 at *
 obtain⟨sd,sq,sm⟩:=s
 simp only[zq] at h1 h2 hb
 refine zk.go ir171 ck171 (Al4 _) fun KP Q hQ=>?_
 simp(disch:=omega) only[ir171,ye,hb,go_sem]
 refine za h1 ?_
 cases x1 with
 | false =>
  simp(disch:=omega) only[hb,go_sem]
  exact hQ _ _ _ _ _ nofun rfl (Low.refl _) ⟨by simp[zd,ze,AV.strip,AV.strip1],rfl⟩
 | true =>
  simp(disch:=omega) only[hb,go_sem]
  refine z6 h2 ?_
  rintro _ _ ⟨_,rfl,rfl,rfl⟩
  simp(disch:=omega) only[ZU,go_sem]
  exact hQ _ _ _ _ _ nofun rfl (Low.refl _) ⟨by simp[zd,ze,AV.strip,AV.strip1],rfl⟩
def zjd (s:SchD):Bool:=s.defs.all (zoT s)
theorem zio {s:SchD} {d:DefD} (h:d∈s.defs) (hb:zJ s≤Lim):bE d≤Lim:=by have:=ziU h;simp only[zJ] at hb;omega
theorem zth (s:SchD) (hb:zJ s≤Lim):zi Tryz.prog 119 [.agg (zq s)] (.bool (zjd s)):=by
 have hl:=yc hb
 have hx:=fun b H hb'=>zdS s 171 [.ptr b 0] (zoT s) H hl (by kernel_rfl) fun d hd=>zrj s d b H hb' hl (zio hd hb)
 rw[zjd]
 generalize s.defs.all (zoT s)=x1 at *
 obtain⟨sd,sq,sm⟩:=s
 simp only[zq] at hx ⊢
 refine zi.go ir119 ck119 (Al4 _) fun KP Q hQ=>?_
 simp(disch:=omega) only[ir119,go_sem]
 refine zb fun b1 hb1=>?_
 simp(disch:=omega) only[go_sem]
 refine z6 (hx b1 _ (upd_same ..)) ?_
 rintro _ _ ⟨_,rfl,rfl,rfl⟩
 simp(disch:=omega) only[ZU,go_sem]
 exact hQ _ _ _ _ nofun rfl rfl
theorem zpR (s:SchD) (n:List UInt8) (b:Nat) (H:zc) (hb:H b=some (.cells (zq s))) (hl:s.defs.length≤Lim):zk Tryz.prog 181 [.str n,.ptr b 0] H (At (.bool (!Zc s n [1])) H):=by
 have h1:=zcy s n [1] hl (by decide)
 generalize Zc s n [1]=x1 at *
 obtain⟨sd,sq,sm⟩:=s
 simp only[zq,List.map,cI] at h1 hb
 refine zk.go ir181 ck181 (Al4 _) fun KP Q hQ=>?_
 simp(disch:=omega) only[ir181,hb,go_sem]
 refine za (zi.low h1) ?_
 simp(disch:=omega) only[go_sem]
 exact hQ _ _ _ _ _ nofun rfl (Low.refl _) ⟨by simp[zd,ze,AV.strip,AV.strip1],rfl⟩
def zkL (s:SchD) (d:DefD):Bool:=!decide (d.k=3)||!(d.parts.any fun n=>!Zc s n [1])
theorem zqL (s:SchD) (d:DefD) (b:Nat) (H:zc) (hb:H b=some (.cells (zq s))) (hl:s.defs.length≤Lim) (hd:bE d≤Lim):zk Tryz.prog 180 [.agg (cE d),.ptr b 0] H (At (.bool (zkL s d)) H):=by
 have hd':=hd
 simp only[bE,Lim] at hd'
 have hf1:=ZP d.parts
 have h2:=zey (fun n:List UInt8=>AV.str n) d.parts 181 [.ptr b 0] (fun n=>!Zc s n [1]) H (by simp only[Lim];omega) (by kernel_rfl) fun n _=>zpR s n b H hb hl
 obtain⟨k,nm,fs,fl,ps,pa⟩:=d
 simp only at h2
 unfold zkL
 simp only
 generalize (ps.any fun n=>!Zc s n [1])=x2 at *
 obtain⟨sd,sq,sm⟩:=s
 simp only[zq] at h2 hb
 refine zk.go ir180 ck180 (Al4 _) fun KP Q hQ=>?_
 by_cases hk:k=3
 ·subst hk
  simp(disch:=omega) only[ir180,ye,hb,go_sem]
  refine z6 h2 ?_
  rintro _ _ ⟨_,rfl,rfl,rfl⟩
  simp(disch:=omega) only[ZU,go_sem]
  exact hQ _ _ _ _ _ nofun rfl (Low.refl _) ⟨by simp[zd,ze,AV.strip,AV.strip1],rfl⟩
 ·simp(disch:=omega) only[ir180,ye,hb,hk,go_sem]
  exact hQ _ _ _ _ _ nofun rfl (Low.refl _) ⟨by simp[zd,ze,AV.strip,AV.strip1,hk],rfl⟩
def ziE (s:SchD):Bool:=s.defs.all (zkL s)
theorem ztO (s:SchD) (hb:zJ s≤Lim):zi Tryz.prog 122 [.agg (zq s)] (.bool (ziE s)):=by
 have hl:=yc hb
 have hx:=fun b H hb'=>zdS s 180 [.ptr b 0] (zkL s) H hl (by kernel_rfl) fun d hd=>zqL s d b H hb' hl (zio hd hb)
 rw[ziE]
 generalize s.defs.all (zkL s)=x1 at *
 obtain⟨sd,sq,sm⟩:=s
 simp only[zq] at hx ⊢
 refine zi.go ir122 ck122 (Al4 _) fun KP Q hQ=>?_
 simp(disch:=omega) only[ir122,go_sem]
 refine zb fun b1 hb1=>?_
 simp(disch:=omega) only[go_sem]
 refine z6 (hx b1 _ (upd_same ..)) ?_
 rintro _ _ ⟨_,rfl,rfl,rfl⟩
 simp(disch:=omega) only[ZU,go_sem]
 exact hQ _ _ _ _ nofun rfl rfl
def ziN (s:SchD):Bool:=Zc s s.q [1]&&(decide (s.m=[])||(!decide (s.m=s.q)&&Zc s s.m [1]))
theorem ztl (s:SchD) (hb:zJ s≤Lim):zi Tryz.prog 117 [.agg (zq s)] (.bool (ziN s)):=by
 have hl:=yc hb
 have h1:=zcy s s.q [1] hl (by decide)
 have h2:=zcy s s.m [1] hl (by decide)
 unfold ziN
 generalize Zc s s.q [1]=x1 at *
 generalize Zc s s.m [1]=x2 at *
 obtain⟨sd,sq,sm⟩:=s
 simp only[zq,List.map,cI] at h1 h2 ⊢
 refine zi.go ir117 ck117 (Al4 _) fun KP Q hQ=>?_
 simp(disch:=omega) only[ir117,go_sem]
 refine za (zi.low h1) ?_
 cases x1 with
 | false =>
  simp(disch:=omega) only[go_sem]
  exact hQ _ _ _ _ nofun rfl (by simp[zd,ze,AV.strip,AV.strip1])
 | true =>
  by_cases hm:sm=[]
  ·have hm':=eq_true hm
   simp(disch:=omega) only[hm',go_sem]
   exact hQ _ _ _ _ nofun rfl (by simp[zd,ze,AV.strip,AV.strip1,hm])
  ·by_cases hq:sm=sq
   ·have hq':=eq_true hq
    simp(disch:=omega) only[hm,hq',go_sem]
    exact hQ _ _ _ _ nofun rfl (by simp[zd,ze,AV.strip,AV.strip1,hm,hq'])
   ·simp(disch:=omega) only[hm,hq,go_sem]
    refine za (zi.low h2) ?_
    simp(disch:=omega) only[go_sem]
    exact hQ _ _ _ _ nofun rfl (by simp[zd,ze,AV.strip,AV.strip1,hm,hq])
def zda (l:List (List UInt8)):Bool:=zaf l&&zbg l
theorem zk1 (l:List (List UInt8)) (hl:l.length≤Lim):zi Tryz.prog 162 [.sl .no 1 (cT l)] (.bool (zda l)):=by
 have h1:=zml l hl
 have h2:=zjC l hl
 unfold zda
 generalize zaf l=x1 at *
 generalize zbg l=x2 at *
 refine zi.go ir162 ck162 (Al4 _) fun KP Q hQ=>?_
 simp(disch:=omega) only[ir162,go_sem]
 refine za h1 ?_
 cases x1 with
 | false =>
  simp(disch:=omega) only[go_sem]
  exact hQ _ _ _ _ nofun rfl (by simp[zd,ze,AV.strip,AV.strip1])
 | true =>
  simp(disch:=omega) only[go_sem]
  refine za h2 ?_
  simp(disch:=omega) only[go_sem]
  exact hQ _ _ _ _ nofun rfl (by simp[zd,ze,AV.strip,AV.strip1])
theorem znq (f:FldD) (b:Nat) (H:zc) (hb:H b=some (.cells [.clo 162 [] []])) (hp:f.ps.length≤Lim):zk Tryz.prog 170 [.agg (cL f),.ptr b 0] H (At (.bool (!zda (f.ps.map (·.nm)))) H):=by
 have h1:=zgk f.ps hp
 have h2:=zk1 (f.ps.map (·.nm)) (by simpa using hp)
 obtain⟨nm,ps,⟨t1,t2,t3⟩,ds⟩:=f
 simp only at h1 h2 ⊢
 generalize zda (ps.map (·.nm))=x1 at *
 refine zk.go ir170 ck170 (Al4 _) fun KP Q hQ=>?_
 simp(disch:=omega) only[ir170,zaB,hb,go_sem]
 refine za h1 ?_
 simp(disch:=omega) only[hb,go_sem]
 refine⟨by kernel_rfl,za h2 ?_⟩
 simp(disch:=omega) only[go_sem]
 exact hQ _ _ _ _ _ nofun rfl (Low.refl _) ⟨by simp[zd,ze,AV.strip,AV.strip1],rfl⟩
def zjr (d:DefD):Bool:=zda (d.flds.map (·.nm))&&(zda (d.ps.map (·.nm))&&(zaf d.parts&&(zaf d.faces&&!d.flds.any fun f=>!zda (f.ps.map (·.nm)))))
theorem zoS (d:DefD) (b:Nat) (H:zc) (hb:H b=some (.cells [.clo 162 [] []])) (hd:bE d≤Lim):zk Tryz.prog 164 [.agg (cE d),.ptr b 0] H (At (.bool (zjr d)) H):=by
 have hd':=hd
 simp only[bE,Lim] at hd'
 have hf1:=YW d.flds
 have hf2:=yP d.ps
 have hf3:=ZP d.parts
 have hf4:=ZP d.faces
 have h1:=zlq d.flds (by simp only[Lim];omega)
 have h2:=zk1 (d.flds.map (·.nm)) (by simp only[List.length_map,Lim];omega)
 have h3:=zgk d.ps (by simp only[Lim];omega)
 have h4:=zk1 (d.ps.map (·.nm)) (by simp only[List.length_map,Lim];omega)
 have h5:=zml d.parts (by simp only[Lim];omega)
 have h6:=zml d.faces (by simp only[Lim];omega)
 have h7:=zi3 cL (fun _=>rfl) d.flds 170 [.ptr b 0] (fun f=>!zda (f.ps.map (·.nm))) H (by simp only[Lim];omega) (by kernel_rfl) fun f hf=>znq f b H hb (by have:=zcb hf;have:=@zph f;simp only[Lim];omega)
 obtain⟨k,nm,fs,fl,ps,pa⟩:=d
 simp only at h1 h2 h3 h4 h5 h6 h7
 unfold zjr
 simp only
 generalize (fl.any fun f=>!zda (f.ps.map (·.nm)))=x5 at *
 generalize zda (fl.map (·.nm))=x1 at *
 generalize zda (pa.map (·.nm))=x2 at *
 generalize zaf ps=x3 at *
 generalize zaf fs=x4 at *
 refine zk.go ir164 ck164 (Al4 _) fun KP Q hQ=>?_
 simp(disch:=omega) only[ir164,ye,hb,go_sem]
 refine za h1 ?_
 simp(disch:=omega) only[hb,go_sem]
 refine⟨by kernel_rfl,za h2 ?_⟩
 cases x1 with
 | false =>
  simp(disch:=omega) only[hb,go_sem]
  exact hQ _ _ _ _ _ nofun rfl (Low.refl _) ⟨by simp[zd,ze,AV.strip,AV.strip1],rfl⟩
 | true =>
 simp(disch:=omega) only[hb,go_sem]
 refine za h3 ?_
 simp(disch:=omega) only[hb,go_sem]
 refine⟨by kernel_rfl,za h4 ?_⟩
 cases x2 with
 | false =>
  simp(disch:=omega) only[hb,go_sem]
  exact hQ _ _ _ _ _ nofun rfl (Low.refl _) ⟨by simp[zd,ze,AV.strip,AV.strip1],rfl⟩
 | true =>
 simp(disch:=omega) only[hb,go_sem]
 refine za h5 ?_
 cases x3 with
 | false =>
  simp(disch:=omega) only[hb,go_sem]
  exact hQ _ _ _ _ _ nofun rfl (Low.refl _) ⟨by simp[zd,ze,AV.strip,AV.strip1],rfl⟩
 | true =>
 simp(disch:=omega) only[hb,go_sem]
 refine za h6 ?_
 cases x4 with
 | false =>
  simp(disch:=omega) only[hb,go_sem]
  exact hQ _ _ _ _ _ nofun rfl (Low.refl _) ⟨by simp[zd,ze,AV.strip,AV.strip1],rfl⟩
 | true =>
 simp(disch:=omega) only[hb,go_sem]
 refine z6 h7 ?_
 rintro _ _ ⟨_,rfl,rfl,rfl⟩
 simp(disch:=omega) only[ZU,go_sem]
 exact hQ _ _ _ _ _ nofun rfl (Low.refl _) ⟨by simp[zd,ze,AV.strip,AV.strip1],rfl⟩
def zeR (s:SchD):Bool:=s.defs.all zjr
theorem zop (s:SchD) (hb:zJ s≤Lim):zi Tryz.prog 118 [.agg (zq s)] (.bool (zeR s)):=by
 have hl:=yc hb
 have hx:=fun b H hb'=>zdS s 164 [.ptr b 0] zjr H hl (by kernel_rfl) fun d hd=>zoS d b H hb' (zio hd hb)
 rw[zeR]
 generalize s.defs.all zjr=x1 at *
 obtain⟨sd,sq,sm⟩:=s
 simp only[zq] at hx ⊢
 refine zi.go ir118 ck118 (Al4 _) fun KP Q hQ=>?_
 simp(disch:=omega) only[ir118,go_sem]
 refine zb fun b3 hb3=>?_
 simp(disch:=omega) only[go_sem]
 refine z6 (hx b3 _ (upd_same ..)) ?_
 rintro _ _ ⟨_,rfl,rfl,rfl⟩
 simp(disch:=omega) only[ZU,go_sem]
 exact hQ _ _ _ _ nofun rfl rfl
noncomputable def zpM (s:SchD) (p:VarD):Bool:=p.has&&!ZQ s p.t p.d
theorem zsb (s:SchD) (p:VarD) (hs:zJ s≤Lim) (hp:bW p≤Lim):zi Tryz.prog 220 [.agg (cW p),.view (zq s)] (.bool (zpM s p)):=by
 have h1:=zfh s p.t p.d hs (by simp only[bW] at hp;omega) (by simp only[bW] at hp;omega)
 obtain⟨nm,⟨t1,t2,t3⟩,h,⟨k,q,st,l,m⟩⟩:=p
 unfold zpM
 simp only at h1 ⊢
 generalize ZQ s ⟨t1,t2,t3⟩ (.mk k q st l m)=x1 at *
 obtain⟨sd,sq,sm⟩:=s
 simp only[zq,cTy,yh] at h1 ⊢
 refine zi.go ir220 ck220 (Al4 _) fun KP Q hQ=>?_
 cases h with
 | false =>
  simp(disch:=omega) only[ir220,z7,go_sem]
  exact hQ _ _ _ _ nofun rfl (by simp[zd,ze,AV.strip,AV.strip1])
 | true =>
  simp(disch:=omega) only[ir220,z7,go_sem]
  refine za h1 ?_
  simp(disch:=omega) only[go_sem]
  exact hQ _ _ _ _ nofun rfl (by simp[zd,ze,AV.strip,AV.strip1])
noncomputable def zes (s:SchD) (l:List VarD):Bool:=!l.any (zpM s)
theorem zjD (s:SchD) (ps:List VarD) (hs:zJ s≤Lim) (hp:bWs ps≤Lim):zi Tryz.prog 185 [.agg (zq s),.sl .no 10 (cWs ps)] (.bool (zes s ps)):=by
 have hl:=yP ps
 have hx:=zp2 cW zaz ps 220 [.view (zq s)] (zpM s) (by omega) (by kernel_rfl) fun p h=>zsb s p hs (by have:=Yt h;omega)
 unfold zes
 generalize ps.any (zpM s)=x1 at *
 obtain⟨sd,sq,sm⟩:=s
 simp only[zq] at hx ⊢
 refine zi.go ir185 ck185 (Al4 _) fun KP Q hQ=>?_
 simp(disch:=omega) only[ir185,go_sem]
 refine za hx ?_
 simp(disch:=omega) only[go_sem]
 exact hQ _ _ _ _ nofun rfl (by simp[zd,ze,AV.strip,AV.strip1])
theorem zt5 (s:SchD) (p:VarD) (b:Nat) (H:zc) (hb:H b=some (.cells (zq s))) (hl:s.defs.length≤Lim):zk Tryz.prog 187 [.agg (cW p),.ptr b 0] H (At (.bool (p.has&&!zaD s p.t.nm)) H):=by
 have h1:=zjy s p.t.nm hl
 obtain⟨nm,⟨t1,t2,t3⟩,h,⟨k,q,st,l,m⟩⟩:=p
 simp only at h1 ⊢
 generalize zaD s t1=x1 at *
 obtain⟨sd,sq,sm⟩:=s
 simp only[zq] at h1 hb
 refine zk.go ir187 ck187 (Al4 _) fun KP Q hQ=>?_
 cases h with
 | false =>
  simp(disch:=omega) only[ir187,z7,hb,go_sem]
  exact hQ _ _ _ _ _ nofun rfl (Low.refl _) ⟨by simp[zd,ze,AV.strip,AV.strip1],rfl⟩
 | true =>
  simp(disch:=omega) only[ir187,z7,hb,go_sem]
  refine za h1 ?_
  simp(disch:=omega) only[go_sem]
  exact hQ _ _ _ _ _ nofun rfl (Low.refl _) ⟨by simp[zd,ze,AV.strip,AV.strip1],rfl⟩
theorem ztc (s:SchD) (f:FldD) (b:Nat) (H:zc) (hb:H b=some (.cells (zq s))) (hs:zJ s≤Lim) (hp:bWs f.ps≤Lim):zk Tryz.prog 188 [.agg (cL f),.ptr b 0] H (At (.bool (!zes s f.ps)) H):=by
 have h1:=zjD s f.ps hs hp
 obtain⟨nm,ps,⟨t1,t2,t3⟩,ds⟩:=f
 simp only at h1 ⊢
 generalize zes s ps=x1 at *
 obtain⟨sd,sq,sm⟩:=s
 simp only[zq] at h1 hb
 refine zk.go ir188 ck188 (Al4 _) fun KP Q hQ=>?_
 simp(disch:=omega) only[ir188,zaB,hb,go_sem]
 refine za h1 ?_
 simp(disch:=omega) only[go_sem]
 exact hQ _ _ _ _ _ nofun rfl (Low.refl _) ⟨by simp[zd,ze,AV.strip,AV.strip1],rfl⟩
noncomputable def zoV (s:SchD) (d:DefD):Bool:=zes s d.ps&&(!(d.ps.any fun p=>p.has&&!zaD s p.t.nm)&&!(d.flds.any fun f=>!zes s f.ps))
theorem ziJ {f:FldD}:bWs f.ps≤bL f:=by simp only[bL];omega
theorem zuN (s:SchD) (d:DefD) (b:Nat) (H:zc) (hb:H b=some (.cells (zq s))) (hs:zJ s≤Lim) (hd:bE d≤Lim):zk Tryz.prog 184 [.agg (cE d),.ptr b 0] H (At (.bool (zoV s d)) H):=by
 have hl:=yc hs
 have hd':=hd
 simp only[bE,Lim] at hd'
 have hf1:=YW d.flds
 have hp1:=yP d.ps
 have h1:=zjD s d.ps hs (by simp only[Lim];omega)
 have h2:=zr8 cW zaz d.ps 187 [.ptr b 0] (fun p=>p.has&&!zaD s p.t.nm) H (by simp only[Lim];omega) (by kernel_rfl) fun p _=>zt5 s p b H hb hl
 have h3:=zi3 cL (fun _=>rfl) d.flds 188 [.ptr b 0] (fun f=>!zes s f.ps) H (by simp only[Lim];omega) (by kernel_rfl) fun f hf=>ztc s f b H hb hs (by have:=zcb hf;have:=@ziJ f;simp only[Lim];omega)
 obtain⟨k,nm,fs,fl,ps,pa⟩:=d
 simp only at h1 h2 h3
 unfold zoV
 simp only
 generalize (fl.any fun f=>!zes s f.ps)=x3 at *
 generalize zes s pa=x1 at *
 generalize (pa.any fun p=>p.has&&!zaD s p.t.nm)=x2 at *
 obtain⟨sd,sq,sm⟩:=s
 simp only[zq] at h1 hb
 refine zk.go ir184 ck184 (Al4 _) fun KP Q hQ=>?_
 simp(disch:=omega) only[ir184,ye,hb,go_sem]
 refine za h1 ?_
 cases x1 with
 | false =>
  simp(disch:=omega) only[hb,go_sem]
  exact hQ _ _ _ _ _ nofun rfl (Low.refl _) ⟨by simp[zd,ze,AV.strip,AV.strip1],rfl⟩
 | true =>
 simp(disch:=omega) only[hb,go_sem]
 refine z6 h2 ?_
 rintro _ _ ⟨_,rfl,rfl,rfl⟩
 cases x2 with
 | true =>
  simp(disch:=omega) only[ZU,go_sem]
  exact hQ _ _ _ _ _ nofun rfl (Low.refl _) ⟨by simp[zd,ze,AV.strip,AV.strip1],rfl⟩
 | false =>
 simp(disch:=omega) only[ZU,go_sem]
 refine z6 h3 ?_
 rintro _ _ ⟨_,rfl,rfl,rfl⟩
 simp(disch:=omega) only[ZU,go_sem]
 exact hQ _ _ _ _ _ nofun rfl (Low.refl _) ⟨by simp[zd,ze,AV.strip,AV.strip1],rfl⟩
noncomputable def zrQ (s:SchD):Bool:=s.defs.all (zoV s)
theorem znd (s:SchD) (hb:zJ s≤Lim):zi Tryz.prog 124 [.agg (zq s)] (.bool (zrQ s)):=by
 have hl:=yc hb
 have hx:=fun b H hb'=>zdS s 184 [.ptr b 0] (zoV s) H hl (by kernel_rfl) fun d hd=>zuN s d b H hb' hb (zio hd hb)
 rw[zrQ]
 generalize s.defs.all (zoV s)=x1 at *
 obtain⟨sd,sq,sm⟩:=s
 simp only[zq] at hx ⊢
 refine zi.go ir124 ck124 (Al4 _) fun KP Q hQ=>?_
 simp(disch:=omega) only[ir124,go_sem]
 refine zb fun b1 hb1=>?_
 simp(disch:=omega) only[go_sem]
 refine z6 (hx b1 _ (upd_same ..)) ?_
 rintro _ _ ⟨_,rfl,rfl,rfl⟩
 simp(disch:=omega) only[ZU,go_sem]
 exact hQ _ _ _ _ nofun rfl rfl
theorem znm (n:List UInt8) (d:DefD) (b:Nat) (H:zc) (hb:H b=some (.cells (cE d))) (hd:d.faces.length≤Lim):zk Tryz.prog 176 [.str n,.ptr b 0] H (At (.bool (!z8 n d.faces)) H):=by
 have h1:=yQ d.faces n hd
 obtain⟨k,nm,fs,fl,ps,pa⟩:=d
 simp only at h1 ⊢
 rw[ye] at hb
 generalize z8 n fs=x1 at *
 refine zk.go ir176 ck176 (Al4 _) fun KP Q hQ=>?_
 simp(disch:=omega) only[ir176,hb,go_sem]
 refine za h1 ?_
 simp(disch:=omega) only[go_sem]
 exact hQ _ _ _ _ _ nofun rfl (Low.refl _) ⟨by simp[zd,ze,AV.strip,AV.strip1],rfl⟩
def zhF (s:SchD) (d:DefD) (n:List UInt8):Bool:=match yM s n with
 | none=>true
 | some f=>!decide (f.k=2)||(decide (n=d.nm)||f.faces.any fun m=>!z8 m d.faces)
theorem zoX (s:SchD) (d:DefD) (n:List UInt8) (b c:Nat) (H:zc) (hb:H b=some (.cells (zq s))) (hc:H c=some (.cells (cE d))) (hs:zJ s≤Lim) (hd:bE d≤Lim):zk Tryz.prog 175 [.str n,.ptr b 0,.ptr c 0] H (At (.bool (zhF s d n)) H):=by
 have hl:=yc hs
 have h1:=zeB s n hl
 have hle:=@Yr s n
 have hs':zJ s≤1099511627776:=hs
 have hdf:d.faces.length≤Lim:=by have:=ZP d.faces;simp only[bE] at hd;omega
 have h3:=fun(l:List (List UInt8)) (H2:zc) (hl:l.length≤Lim) (h:H2 c=some (.cells (cE d)))=>zey (fun n:List UInt8=>AV.str n) l 176 [.ptr c 0] (fun m=>!z8 m d.faces) H2 hl (by kernel_rfl) fun m _=>znm m d c H2 h hdf
 have hce:cE d=[.int .i64 d.k,.str d.nm,.sl .no 1 (cT d.faces),.sl .no 6 (cLs d.flds),.sl .no 1 (cT d.parts),.sl .no 10 (cWs d.ps)]:=rfl
 have e0:zhF s d n=match yM s n with|none=>true|some f=>!decide (f.k=2)||(decide (n=d.nm)||f.faces.any fun m=>!z8 m d.faces):=rfl
 have hc2:=hc
 rw[hce] at hc2
 generalize zhF s d n=F at *
 obtain⟨sd,sq,sm⟩:=s
 generalize hS:(⟨sd,sq,sm⟩:SchD)=s at *
 have hcs:zq s=[.sl .no 6 (cEs sd),.str sq,.str sm]:=by rw[← hS];rfl
 rw[hcs] at h1 hb
 refine zk.go ir175 ck175 (Al4 _) fun KP Q hQ=>?_
 have fin:∀ r,F=r→∀ ρ H1,zL ρ H1 ir175.res=some [.bool r]→Low H H1→Q .ret ρ H1∧Q .normal ρ H1:=fun r e ρ H1 h1 h2=>⟨hQ _ ρ H1 H _ nofun h1 h2 ⟨by rw[e];rfl,rfl⟩,hQ _ ρ H1 H _ nofun h1 h2 ⟨by rw[e];rfl,rfl⟩⟩
 simp(disch:=omega) only[ir175,hb,go_sem]
 refine za h1 ?_
 cases hfe:yM s n with
 | none =>
  rw[hfe] at e0
  simp(disch:=omega) only[Option.getD,Option.isSome,zE,ye,go_sem]
  refine zb fun b5 hb5=>?_
  simp(disch:=omega) only[go_sem]
  exact(fin true e0 _ _ rfl ((Low.refl _).upd hb5)).1
 | some f =>
  rw[hfe] at e0
  obtain⟨hle1,hle2,_,_⟩:=hle hfe
  obtain⟨k,nm,fs,fl,ps,pa⟩:=f
  simp only at e0 hle1 hle2
  have hfs:=ZP fs
  simp(disch:=omega) only[Option.getD,Option.isSome,ye,go_sem]
  refine zb fun b5 hb5=>?_
  have hne:c≠b5:=fun e=>by subst e;rw[hc] at hb5;cases hb5
  by_cases hk:k=2
  case neg =>
   simp(disch:=omega) only[hk,go_sem]
   exact(fin true (by rw[e0];simp[hk]) _ _ rfl ((Low.refl _).upd hb5)).1
  subst hk
  by_cases hn:n=d.nm
  ·have hn':=eq_true hn
   simp(disch:=omega) only[hc2,hne,Ne.symm hne,hn',go_sem]
   exact(fin true (by rw[e0];simp[hn]) _ _ rfl ((Low.refl _).upd hb5)).1
  simp(disch:=omega) only[hc2,hne,Ne.symm hne,hn,go_sem]
  refine z6 (h3 fs _ (by simp only[Lim];omega) (by rw[upd_ne hne,hc])) ?_
  rintro _ _ ⟨_,rfl,rfl,rfl⟩
  simp(disch:=omega) only[ZU,go_sem]
  exact(fin (fs.any fun m=>!z8 m d.faces) (by rw[e0];simp[hn]) _ _ rfl ((Low.refl _).upd hb5)).1
def zjY (s:SchD) (d:DefD):Bool:=!d.faces.any (zhF s d)
theorem zrr (s:SchD) (d:DefD) (b:Nat) (H:zc) (hb:H b=some (.cells (zq s))) (hs:zJ s≤Lim) (hd:bE d≤Lim):zk Tryz.prog 174 [.agg (cE d),.ptr b 0] H (At (.bool (zjY s d)) H):=by
 have hdf:d.faces.length≤Lim:=by have:=ZP d.faces;simp only[bE] at hd;omega
 have h3:=fun(c:Nat) (H2:zc) (h0:H2 b=some (.cells (zq s))) (h:H2 c=some (.cells (cE d)))=>zey (fun n:List UInt8=>AV.str n) d.faces 175 [.ptr b 0,.ptr c 0] (zhF s d) H2 hdf (by kernel_rfl) fun m _=>zoX s d m b c H2 h0 h hs hd
 unfold zjY
 generalize d.faces.any (zhF s d)=x1 at *
 obtain⟨k,nm,fs,fl,ps,pa⟩:=d
 simp only[ye] at h3 ⊢
 refine zk.go ir174 ck174 (Al4 _) fun KP Q hQ=>?_
 simp(disch:=omega) only[ir174,go_sem]
 refine zb fun b2 hb2=>?_
 have hne:b≠b2:=fun e=>by subst e;rw[hb] at hb2;cases hb2
 simp(disch:=omega) only[hne,Ne.symm hne,go_sem]
 refine z6 (h3 b2 _ (by rw[upd_ne hne,hb]) (upd_same ..)) ?_
 rintro _ _ ⟨_,rfl,rfl,rfl⟩
 simp(disch:=omega) only[ZU,go_sem]
 exact hQ _ _ _ H _ nofun rfl ((Low.refl _).upd hb2) ⟨by simp[zd,ze,AV.strip,AV.strip1],rfl⟩
def ziT (s:SchD):Bool:=s.defs.all (zjY s)
theorem zt6 (s:SchD) (hb:zJ s≤Lim):zi Tryz.prog 120 [.agg (zq s)] (.bool (ziT s)):=by
 have hl:=yc hb
 have hx:=fun b H hb'=>zdS s 174 [.ptr b 0] (zjY s) H hl (by kernel_rfl) fun d hd=>zrr s d b H hb' hb (zio hd hb)
 rw[ziT]
 generalize s.defs.all (zjY s)=x1 at *
 obtain⟨sd,sq,sm⟩:=s
 simp only[zq] at hx ⊢
 refine zi.go ir120 ck120 (Al4 _) fun KP Q hQ=>?_
 simp(disch:=omega) only[ir120,go_sem]
 refine zb fun b1 hb1=>?_
 simp(disch:=omega) only[go_sem]
 refine z6 (hx b1 _ (upd_same ..)) ?_
 rintro _ _ ⟨_,rfl,rfl,rfl⟩
 simp(disch:=omega) only[ZU,go_sem]
 exact hQ _ _ _ _ nofun rfl rfl
end Go.Proofs.YtbcocdloklbkjaaGreatDoor
