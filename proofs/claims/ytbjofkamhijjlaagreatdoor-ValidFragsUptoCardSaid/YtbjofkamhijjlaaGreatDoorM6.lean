import Derived.Lib.ItoaMem
import Derived.Lib.ItoaLen
import Derived.Lib.ValidLaws
import Derived.Lib.Join
import Derived.Lib.DecodeN
import Derived.Lib.TrimUEq
import Derived.Shelf.Strings.OnBuilder
import Derived.Test.YtbjofkamhijjlaaGreatDoorM1
import Derived.Test.YtbjofkamhijjlaaGreatDoorM2
import Derived.Test.YtbjofkamhijjlaaGreatDoorM3
import Derived.Test.YtbjofkamhijjlaaGreatDoorM4
import Derived.Test.YtbjofkamhijjlaaGreatDoorM5
set_option maxRecDepth 100000
set_option linter.all false
namespace Go.Proofs.YtbjofkamhijjlaaGreatDoor
open Go.Ab
def Y2 (n:List UInt8):Bool:=decide (n=[73,110,116])||decide (n=[83,116,114,105,110,103])||decide (n=[66,111,111,108,101,97,110])||decide (n=[73,68])
theorem ztf (n:List UInt8):zg Tryz.prog 186 [.str n] (.bool (Y2 n)):=by
 refine zg.go ir186 ck186 (Al4 _) fun KP Q hQ=>?_
 by_cases h1:n=[73,110,116]
 ·have e:Y2 n=true:=by simp[Y2,h1]
  have h1':=eq_true h1
  rw[e] at hQ
  simp(disch:=omega) only[ir186,h1',go_sem]
  exact hQ _ _ _ _ nofun rfl (by simp[zd,ze,AV.strip,AV.strip1])
 by_cases h2:n=[83,116,114,105,110,103]
 ·have e:Y2 n=true:=by simp[Y2,h2]
  have h2':=eq_true h2
  rw[e] at hQ
  simp(disch:=omega) only[ir186,h1,h2',go_sem]
  exact hQ _ _ _ _ nofun rfl (by simp[zd,ze,AV.strip,AV.strip1])
 by_cases h3:n=[66,111,111,108,101,97,110]
 ·have e:Y2 n=true:=by simp[Y2,h3]
  have h3':=eq_true h3
  rw[e] at hQ
  simp(disch:=omega) only[ir186,h1,h2,h3',go_sem]
  exact hQ _ _ _ _ nofun rfl (by simp[zd,ze,AV.strip,AV.strip1])
 have e:Y2 n=decide (n=[73,68]):=by simp[Y2,h1,h2,h3]
 rw[e] at hQ
 simp(disch:=omega) only[ir186,h1,h2,h3,go_sem]
 exact hQ _ _ _ _ nofun rfl (by simp[zd,ze,AV.strip,AV.strip1])
def zE:DefD:=⟨0,[],[],[],[],[]⟩
def scE (n:List UInt8):DefD:=⟨0,n,[],[],[],[]⟩
def nmE (n:List UInt8) (d:DefD):Bool:=decide (d.nm=n)
def yv (s:SchD) (n:List UInt8):Option DefD:=if Y2 n=true then some (scE n) else s.defs.find? (nmE n)
theorem z7 {s:SchD} (h:zI s≤Lim):s.defs.length≤Lim:=by have:=ze2 s.defs;simp only[zI] at h;omega
theorem zeL (s:SchD) (n:List UInt8) (hb:s.defs.length≤Lim):zg Tryz.prog 118 [.agg (zl s),.str n] (.tup [.agg (cE ((yv s n).getD zE)),.bool (yv s n).isSome]):=by
 refine zg.go ir118 ck118 (Al4 _) fun KP Q hQ=>?_
 obtain⟨defs,q,m⟩:=s
 have h1:=zff defs
 simp only[Lim] at hb
 simp(disch:=omega) only[ir118,zl,go_sem]
 refine zc fun b4 hb4=>?_
 simp(disch:=omega) only[zl,go_sem]
 refine za (ztf n) ?_
 cases hs:Y2 n
 case true =>
  have e:yv ⟨defs,q,m⟩ n=some (scE n):=by simp[yv,hs]
  rw[e] at hQ
  simp(disch:=omega) only[zl,go_sem]
  exact hQ _ _ _ [.agg [.int .i64 0,.str n,.sl .nil 1 [],.sl .nil 6 [],.sl .nil 1 [],.sl .nil 10 []],.bool true] nofun (by simp(disch:=omega) only[ir118,zG,Zk,go_sem]) rfl
 have e:yv ⟨defs,q,m⟩ n=defs.find? (nmE n):=by simp[yv,hs]
 rw[e] at hQ
 simp(disch:=omega) only[zl,h1,go_sem]
 refine zf defs 15 (fun _:Unit=>[]) (fun done rest n' H=>H b4=some (.cells [.int .i64 0,.str [],.sl .nil 1 [],.sl .nil 6 [],.sl .nil 1 [],.sl .nil 10 []])∧rest.find? (nmE n)=defs.find? (nmE n)) () (by simp(disch:=omega) only[go_sem]) ⟨upd_same ..,rfl⟩ ?_ ?_
 ·rintro _ H J ⟨hH,hp⟩ hlt
  rw[← hp] at hQ
  simp(disch:=omega) only[h1,hlt,hH,go_sem]
  exact hQ _ _ _ [.agg [.int .i64 0,.str [],.sl .nil 1 [],.sl .nil 6 [],.sl .nil 1 [],.sl .nil 10 []],.bool false] nofun (by simp(disch:=omega) only[ir118,zG,Zk,go_sem]) rfl
 ·rintro done x rest _ H J hd hlt _ ⟨hH,hp⟩ hJ
  have hg:=zeV hd
  simp(disch:=omega) only[h1,hlt,hg,go_sem]
  refine zc fun b7 hb7=>?_
  have hne:b4≠b7:=fun e=>by subst e;rw[hH] at hb7;cases hb7
  by_cases h:x.nm=n
  ·have e2:defs.find? (nmE n)=some x:=by rw[← hp];simp[nmE,h]
   rw[e2] at hQ
   obtain⟨k,nm,fs,fl,ps,pa⟩:=x
   simp only at h
   simp(disch:=omega) only[yf,hH,hne,Ne.symm hne,h,go_sem]
   exact hQ _ _ _ [.agg (cE ⟨k,nm,fs,fl,ps,pa⟩),.bool true] nofun (by simp(disch:=omega) only[ir118,zG,Zk,yf,h,go_sem]) rfl
  ·have e2:rest.find? (nmE n)=defs.find? (nmE n):=by rw[← hp];simp[nmE,h]
   obtain⟨k,nm,fs,fl,ps,pa⟩:=x
   simp only at h
   simp(disch:=omega) only[yf,hH,hne,Ne.symm hne,h,go_sem]
   exact goJ (hJ () _ ⟨by simp(disch:=omega) only[hH,hne,Ne.symm hne,go_sem],e2⟩) (by simp(disch:=omega) only[wrap64,go_sem])
def cI (k:Int):List AV:=[.int .i64 k]
def zj4 (x:Int):List Int→Int→Int
 | [],_=>-1
 | y::r,i=>if x=y then i else zj4 x r (i+1)
def zpl (l:List Int) (x:Int):Bool:=l.any fun y=>decide (x=y)
theorem zlc (x:Int):∀ l (i:Int),0≤i→decide (0≤zj4 x l i)=zpl l x
 | [],i,_=>by simp[zj4,zpl]
 | y::r,i,hi=>by
  have:=zlc x r (i+1) (by omega)
  simp only[zj4,zpl,List.any_cons] at this ⊢
  by_cases h:x=y
  ·simp[h];omega
  ·simp only[h,if_false,decide_false,Bool.false_or];exact this
theorem zsE (l:List Int) (x:Int) (hl:l.length≤Lim):zg Tryz.prog 224 [.sl .no 1 (l.map cI),.int .i64 x] (.int .i64 (zj4 x l 0)):=by
 refine zg.go ir224 ck224 (Al4 _) fun KP Q hQ=>?_
 have h1:(l.map cI).length=l.length:=List.length_map ..
 simp only[Lim] at hl
 simp(disch:=omega) only[ir224,h1,go_sem]
 refine zf l 8 (fun _:Unit=>[]) (fun done rest n H=>zj4 x rest done.length=zj4 x l 0) () (by simp(disch:=omega) only[go_sem]) rfl ?_ ?_
 ·rintro n H J hn hlt
  simp(disch:=omega) only[h1,hlt,go_sem]
  simp only[zj4] at hn
  exact hQ _ _ _ _ nofun rfl (by simp[zd,ze,AV.strip,AV.strip1,← hn])
 ·rintro done y rest n H J hd hlt _ hn hJ
  have hg:(l.map cI).getD done.length []=[.int .i64 y]:=yN hd
  simp only[zj4] at hn
  by_cases hx:x=y
  ·subst hx
   simp only[if_true] at hn
   simp(disch:=omega) only[h1,hlt,hg,go_sem]
   exact hQ _ _ _ _ nofun rfl (by simp[zd,ze,AV.strip,AV.strip1,← hn])
  ·simp only[hx,if_false] at hn
   simp(disch:=omega) only[h1,hlt,hg,hx,go_sem]
   exact goJ (hJ () _ (by simpa using hn)) (by simp(disch:=omega) only[wrap64,go_sem])
theorem zmF (l:List Int) (x:Int) (hl:l.length≤Lim):zg Tryz.prog 181 [.sl .no 1 (l.map cI),.int .i64 x] (.bool (zpl l x)):=by
 refine zg.go ir181 ck181 (Al4 _) fun KP Q hQ=>?_
 simp(disch:=omega) only[ir181,go_sem]
 refine za (zsE l x hl) ?_
 simp(disch:=omega) only[go_sem]
 have:=zlc x l 0 (by omega)
 exact hQ _ _ _ _ nofun rfl (by simp[zd,ze,AV.strip,AV.strip1,this])
def yQ (s:SchD) (n:List UInt8) (ks:List Int):Bool:=(yv s n).any fun d=>zpl ks d.k
theorem zcM (s:SchD) (n:List UInt8) (ks:List Int) (hb:s.defs.length≤Lim) (hk:ks.length≤Lim):zg Tryz.prog 101 [.agg (zl s),.str n,.sl .no 1 (ks.map cI)] (.bool (yQ s n ks)):=by
 refine zg.go ir101 ck101 (Al4 _) fun KP Q hQ=>?_
 have hf:=zeL s n hb
 obtain⟨defs,q,m⟩:=s
 simp only[yQ] at hQ
 simp only[zl] at hf
 simp(disch:=omega) only[ir101,zl,go_sem]
 refine za hf ?_
 cases hfe:yv ⟨defs,q,m⟩ n with
 | none =>
  simp(disch:=omega) only[Option.getD,Option.isSome,zE,yf,go_sem]
  refine zc fun b7 hb7=>?_
  simp(disch:=omega) only[yf,go_sem]
  exact hQ _ _ _ _ nofun rfl (by simp[zd,ze,AV.strip,AV.strip1,hfe])
 | some d =>
  obtain⟨k,nm,fs,fl,ps,pa⟩:=d
  simp(disch:=omega) only[Option.getD,Option.isSome,yf,go_sem]
  refine zc fun b7 hb7=>?_
  simp(disch:=omega) only[yf,go_sem]
  refine za (zmF ks k hk) ?_
  simp(disch:=omega) only[go_sem]
  exact hQ _ _ _ _ nofun rfl (by simp[zd,ze,AV.strip,AV.strip1,hfe])
def Yb (s:SchD) (n:List UInt8):Bool:=yQ s n [0,4]
def ZC (s:SchD) (n:List UInt8):Bool:=yQ s n [1,2,3]
def zbM (s:SchD) (n:List UInt8):Bool:=yQ s n [0,4,5]
theorem zlM (s:SchD) (n:List UInt8) (hb:s.defs.length≤Lim):zg Tryz.prog 114 [.agg (zl s),.str n] (.bool (Yb s n)):=by
 refine zg.go ir114 ck114 (Al4 _) fun KP Q hQ=>?_
 have hf:=zcM s n [0,4] hb (by decide)
 obtain⟨defs,q,m⟩:=s
 simp only[zl,List.map,cI] at hf
 simp(disch:=omega) only[ir114,zl,go_sem]
 refine za (zg.low hf) ?_
 simp(disch:=omega) only[go_sem]
 exact hQ _ _ _ _ nofun rfl (by simp[zd,ze,AV.strip,AV.strip1,Yb])
theorem zhV (s:SchD) (n:List UInt8) (hb:s.defs.length≤Lim):zg Tryz.prog 115 [.agg (zl s),.str n] (.bool (ZC s n)):=by
 refine zg.go ir115 ck115 (Al4 _) fun KP Q hQ=>?_
 have hf:=zcM s n [1,2,3] hb (by decide)
 obtain⟨defs,q,m⟩:=s
 simp only[zl,List.map,cI] at hf
 simp(disch:=omega) only[ir115,zl,go_sem]
 refine za (zg.low hf) ?_
 simp(disch:=omega) only[go_sem]
 exact hQ _ _ _ _ nofun rfl (by simp[zd,ze,AV.strip,AV.strip1,ZC])
theorem zp3 (s:SchD) (n:List UInt8) (hb:s.defs.length≤Lim):zg Tryz.prog 159 [.agg (zl s),.str n] (.bool (zbM s n)):=by
 refine zg.go ir159 ck159 (Al4 _) fun KP Q hQ=>?_
 have hf:=zcM s n [0,4,5] hb (by decide)
 obtain⟨defs,q,m⟩:=s
 simp only[zl,List.map,cI] at hf
 simp(disch:=omega) only[ir159,zl,go_sem]
 refine za (zg.low hf) ?_
 simp(disch:=omega) only[go_sem]
 exact hQ _ _ _ _ nofun rfl (by simp[zd,ze,AV.strip,AV.strip1,zbM])
def tnB:List UInt8:=[95,95,116,121,112,101,110,97,109,101]
def zF:FldD:=⟨[],[],⟨[],0,0⟩,[]⟩
def tnF:FldD:=⟨tnB,[],⟨[83,116,114,105,110,103],0,1⟩,[]⟩
def nmF (n:List UInt8) (f:FldD):Bool:=decide (f.nm=n)
def yb (s:SchD) (typ nm:List UInt8):Option FldD :=
 if nm=tnB∧ZC s typ=true then some tnF else match yv s typ with
  | none=>none
  | some d=>if d.k=1∨d.k=2 then d.flds.find? (nmF nm) else none
theorem zj6 {d:DefD}:∀ {l:List DefD},d∈l→bE d≤bEs l
 | x::l,h=>by
  rcases List.mem_cons.1 h with rfl|h
  ·simp only[bEs,List.map_cons,List.sum_cons];omega
  ·have:=zj6 h;simp only[bEs,List.map_cons,List.sum_cons] at this ⊢;omega
theorem Yw {s:SchD} {n:List UInt8} {d:DefD} (h:yv s n=some d):bLs d.flds≤zI s∧bT d.faces≤zI s∧bT d.parts≤zI s∧bWs d.ps≤zI s:=by
 unfold yv at h
 split at h
 ·cases h;simp[scE,bLs,bT,bWs]
 ·have:=zj6 (List.mem_of_find?_eq_some h)
  simp only[bE,zI] at this ⊢
  omega
theorem ztE (f:FldD) (n:List UInt8):zg Tryz.prog 196 [.agg (cL f),.view [.str n]] (.bool (nmF n f)):=by
 obtain⟨nm,ps,⟨a,b,c⟩,ds⟩:=f
 refine zg.go ir196 ck196 (Al4 _) fun KP Q hQ=>?_
 simp(disch:=omega) only[ir196,zaL,go_sem]
 exact hQ _ _ _ _ nofun rfl (by simp[zd,ze,AV.strip,AV.strip1,nmF])
theorem zfw (s:SchD) (typ nm:List UInt8) (hb:zI s≤Lim):zg Tryz.prog 144 [.agg (zl s),.str typ,.str nm] (.tup [.agg (cL ((yb s typ nm).getD zF)),.bool (yb s typ nm).isSome]):=by
 refine zg.go ir144 ck144 (Al4 _) fun KP Q hQ=>?_
 have hl:=z7 hb
 have hc:=zhV s typ hl
 have hf:=zeL s typ hl
 have hle:=@Yw s typ
 have hlb:zI s≤1099511627776:=hb
 have stripz:∀ b,(zd [AV.agg [.str [],.sl .nil 10 [],.str [],.int .i64 0,.int .i64 0,.sl .nil 2 []],.bool b]).strip=.tup [.agg (cL zF),.bool b]:=fun _=>rfl
 have strips:∀ x b,(zd [AV.agg (cL x),.bool b]).strip=.tup [.agg (cL x),.bool b]:=fun _ _=>rfl
 obtain⟨sd,sq,sm⟩:=s
 generalize hS:(⟨sd,sq,sm⟩:SchD)=s at *
 have hcs:zl s=[.sl .no 6 (cEs sd),.str sq,.str sm]:=by rw[← hS];rfl
 rw[hcs] at hc hf ⊢
 have fin:∀ o,yb s typ nm=o→∀ ρ H vs,zG ρ H ir144.res=some vs→(zd vs).strip=.tup [.agg (cL (o.getD zF)),.bool o.isSome]→Q .ret ρ H:=fun o e ρ H vs h1 h2=>hQ _ ρ H vs nofun h1 (by rw[h2,e])
 have e0:¬ (nm=tnB∧ZC s typ=true)→yb s typ nm=match yv s typ with|none=>none|some d=>if d.k=1∨d.k=2 then d.flds.find? (nmF nm) else none:=fun h=>by simp only[yb,h,if_false]
 have three:(nm=tnB∧ZC s typ=true)∨(nm=tnB∧ZC s typ=false)∨nm≠tnB:=by
  cases ZC s typ<;>by_cases h:nm=tnB<;>simp[h]
 rcases three with ⟨ht,hcm⟩|h2
 ·have ht':(nm=[95,95,116,121,112,101,110,97,109,101])=True:=eq_true ht
  rw[hcm] at hc
  simp(disch:=omega) only[ir144,go_sem]
  refine zc fun b6 hb6=>?_
  simp(disch:=omega) only[ht',go_sem]
  refine za hc ?_
  simp(disch:=omega) only[go_sem]
  exact fin (some tnF) (by simp[yb,ht,hcm]) _ _ [.agg [.str tnB,.sl .nil 10 [],.str [83,116,114,105,110,103],.int .i64 0,.int .i64 1,.sl .nil 2 []],.bool true] (by simp(disch:=omega) only[ir144,zG,Zk,tnB,go_sem]) rfl
 have e1:=e0 (by rcases h2 with ⟨_,h⟩|h<;>simp[h])
 rcases h2 with ⟨ht,hcm⟩|ht
 case' inl =>
  have ht':(nm=[95,95,116,121,112,101,110,97,109,101])=True:=eq_true ht
  rw[hcm] at hc
  simp(disch:=omega) only[ir144,go_sem]
  refine zc fun b6 hb6=>?_
  simp(disch:=omega) only[ht',go_sem]
  refine za hc ?_
  simp(disch:=omega) only[go_sem]
 case' inr =>
  have ht':¬ nm=[95,95,116,121,112,101,110,97,109,101]:=ht
  simp(disch:=omega) only[ir144,go_sem]
  refine zc fun b6 hb6=>?_
  simp(disch:=omega) only[ht',go_sem]
 all_goals
  refine za hf ?_
  cases hfe:yv s typ with
  | none =>
   rw[hfe] at e1
   simp(disch:=omega) only[Option.getD,Option.isSome,zE,yf,go_sem]
   refine zc fun b8 hb8=>?_
   have hne:=yF hb8
   simp(disch:=omega) only[yf,hne,Ne.symm hne,go_sem]
   exact fin none e1 _ _ [.agg [.str [],.sl .nil 10 [],.str [],.int .i64 0,.int .i64 0,.sl .nil 2 []],.bool false] (by simp(disch:=omega) only[ir144,zG,Zk,hne,Ne.symm hne,go_sem]) rfl
  | some d =>
   rw[hfe] at e1
   have hle2:=(hle hfe).1
   obtain⟨k,dn,fs,fl,ps,pa⟩:=d
   simp only at e1 hle2
   have hfl:=zah fl
   by_cases hk:k=1∨k=2
   case neg =>
    rw[if_neg hk] at e1
    have hk1:¬ k=1:=fun h=>hk (.inl h)
    have hk2:¬ k=2:=fun h=>hk (.inr h)
    simp(disch:=omega) only[Option.getD,Option.isSome,yf,go_sem]
    refine zc fun b8 hb8=>?_
    have hne:=yF hb8
    simp(disch:=omega) only[yf,hne,Ne.symm hne,hk1,hk2,go_sem]
    exact fin none e1 _ _ [.agg [.str [],.sl .nil 10 [],.str [],.int .i64 0,.int .i64 0,.sl .nil 2 []],.bool false] (by simp(disch:=omega) only[ir144,zG,Zk,hne,Ne.symm hne,go_sem]) rfl
   rw[if_pos hk] at e1
   have hx:=zvi cL (fun _=>rfl) fl 196 [.view [.str nm]] (nmF nm) (by simp only[Lim];omega) (by kernel_rfl) fun x _=>ztE x nm
   rcases hk with hk|hk
   all_goals
    subst hk
    simp(disch:=omega) only[Option.getD,Option.isSome,yf,go_sem]
    refine zc fun b8 hb8=>?_
    have hne:=yF hb8
    simp(disch:=omega) only[yf,hne,Ne.symm hne,go_sem]
    refine za hx ?_
    rcases zaw (nmF nm) fl 0 with ⟨a,x,r,h1,h2,h3,h4⟩|⟨h1,h2⟩
    ·rw[h4,Int.zero_add]
     rw[h3] at e1
     have hg:=zdH h1
     have h6:=za3 fl
     have h5:(a.length:Int)<fl.length:=by rw[h1,Al5,Al2];omega
     have h7:¬ ((a.length:Int)<0):=by omega
     simp(disch:=omega) only[hne,Ne.symm hne,hg,h6,h5,h7,cL,go_sem]
     refine fin (some x) e1 _ _ [.agg (cL x),.bool true] ?_ rfl
     simp(disch:=omega) only[ir144,zG,Zk,hne,Ne.symm hne,cL,go_sem]
    ·rw[h2]
     rw[h1] at e1
     simp(disch:=omega) only[hne,Ne.symm hne,go_sem]
     exact fin none e1 _ _ [.agg [.str [],.sl .nil 10 [],.str [],.int .i64 0,.int .i64 0,.sl .nil 2 []],.bool false] (by simp(disch:=omega) only[ir144,zG,Zk,hne,Ne.symm hne,go_sem]) rfl
def zbW (l:List (List UInt8)) (n:List UInt8):List (List UInt8):=if zL n l=true then l else l++[n]
theorem zny (l:List (List UInt8)) (n:List UInt8):(zbW l n).length≤l.length+1:=by unfold zbW;split<;>simp
theorem zw9 (l:List (List UInt8)) (n:List UInt8) (o:Own) (H:zb) (hb:l.length+1≤Lim) (ho:zK H o l.length 1):zae Tryz.prog 227 [.sl o 1 (cT l),.str n] H o 1 (cT (zbW l n)):=by
 have h3:=zD l
 have hb':=hb
 simp only[Lim] at hb'
 refine zi.goO ir227 ck227 (Al4 _) fun KP Q hQ hP=>?_
 simp(disch:=omega) only[ir227,go_sem]
 refine za (zg.low (yE l n (by simp only[Lim];omega))) ?_
 cases hh:zL n l with
 | true =>
  simp(disch:=omega) only[hh,go_sem]
  refine hQ _ _ H H _ nofun rfl (Low.refl _) ⟨o,?_,?_⟩
  ·simp[zd,ze,zbW,hh]
  ·simpa[zbW,hh,h3] using OwnS.refl ho
 | false =>
  simp(disch:=omega) only[hh,go_sem]
  refine zp (by rw[h3];exact ho) ?_ ?_ fun o' H' hs=>?_
  ·simp only[h3,Al2,Al3];omega
  ·simp only[h3,Al2,Al3,maxLen];omega
  simp(disch:=omega) only[go_sem]
  refine hQ _ _ H' H' _ nofun rfl (Low.refl _) ⟨o',?_,?_⟩
  ·simp[zd,ze,zbW,hh,cT,AV.strip1]
  ·simpa[zbW,hh,h3,zD] using hs
def zbI (s:SchD) (n:List UInt8):List (List UInt8):=match yv s n with
 | none=>[]
 | some d=>if d.k=1 then [n] else if d.k=2 then s.defs.foldl (fun l x=>if x.k=1∧zL n x.faces=true then zbW l x.nm else l) []
  else if d.k=3 then d.parts.foldl (fun l p=>if yQ s p [1]=true then zbW l p else l) [] else []
def zbG (n:List UInt8) (l:List (List UInt8)) (x:DefD):List (List UInt8):=if x.k=1∧zL n x.faces=true then zbW l x.nm else l
def zcO (s:SchD) (l:List (List UInt8)) (p:List UInt8):List (List UInt8):=if yQ s p [1]=true then zbW l p else l
theorem zlw (s:SchD) (n:List UInt8):zbI s n=match yv s n with
  | none=>[]
  | some d=>if d.k=1 then [n] else if d.k=2 then s.defs.foldl (zbG n) [] else if d.k=3 then d.parts.foldl (zcO s) [] else []:=rfl
theorem zko (n:List UInt8) (l:List (List UInt8)) (x:DefD):(zbG n l x).length≤l.length+1:=by have:=zny l x.nm;unfold zbG;split<;>omega
theorem zlV (s:SchD) (l:List (List UInt8)) (x:List UInt8):(zcO s l x).length≤l.length+1:=by have:=zny l x;unfold zcO;split<;>omega
theorem zrV (s:SchD) (n:List UInt8) (hb:zI s≤Lim):zg Tryz.prog 197 [.agg (zl s),.str n] (.sl .no 1 (cT (zbI s n))):=by
 refine zg.go ir197 ck197 (Al4 _) fun KP Q hQ=>?_
 have hl:=z7 hb
 have hf:=zeL s n hl
 have hle:=@Yw s n
 have hlb:zI s≤1099511627776:=hb
 have hkind:=fun p=>zcM s p [1] hl (by decide)
 have e0:=zlw s n
 have hbE:=ze2 s.defs
 have hmem:=fun(d:DefD) (h:d∈s.defs)=>zj6 h
 obtain⟨sd,sq,sm⟩:=s
 generalize hS:(⟨sd,sq,sm⟩:SchD)=s at *
 have hcs:zl s=[.sl .no 6 (cEs sd),.str sq,.str sm]:=by rw[← hS];rfl
 have hsd:s.defs=sd:=by rw[← hS]
 have hbs:bEs sd≤zI s:=by rw[← hS];simp only[zI];omega
 rw[hsd] at e0 hbE hmem
 simp only[hcs,List.map,cI] at hf hkind ⊢
 have h1:=zff sd
 have fin:∀ l,zbI s n=l→∀ ρ H vs,zG ρ H ir197.res=some vs→(zd vs).strip=.sl .no 1 (cT l)→Q .ret ρ H:=fun o e ρ H vs h1 h2=>hQ _ ρ H vs nofun h1 (by rw[h2,e])
 simp(disch:=omega) only[ir197,go_sem]
 refine za hf ?_
 cases hfe:yv s n with
 | none =>
  rw[hfe] at e0
  simp(disch:=omega) only[Option.getD,Option.isSome,zE,yf,go_sem]
  refine zc fun b5 hb5=>?_
  simp(disch:=omega) only[yf,go_sem]
  exact fin [] e0 _ _ [.sl .nil 1 []] (by simp(disch:=omega) only[ir197,zG,Zk,go_sem]) rfl
 | some d =>
  rw[hfe] at e0
  obtain⟨_,_,hle2,_⟩:=hle hfe
  obtain⟨k,dn,fs,fl,ps,pa⟩:=d
  simp only at e0 hle2
  have hps:=ZS ps
  by_cases k1:k=1
  ·subst k1
   simp(disch:=omega) only[Option.getD,Option.isSome,yf,go_sem]
   refine zc fun b5 hb5=>?_
   simp(disch:=omega) only[yf,go_sem]
   exact fin [n] (by rw[e0];rfl) _ _ [.sl .full 1 [[.str n]]] (by simp(disch:=omega) only[ir197,zG,Zk,go_sem]) rfl
  by_cases k2:k=2
  ·subst k2
   simp only[Int.reduceEq,if_false,if_true] at e0
   simp(disch:=omega) only[Option.getD,Option.isSome,yf,go_sem]
   refine zc fun b5 hb5=>?_
   simp(disch:=omega) only[yf,h1,go_sem]
   refine zf sd 31 (fun x:Own×List (List UInt8)=>[(7,.sl x.1 1 (cT x.2))]) (fun done rest x H'=>rest.foldl (zbG n) x.2=sd.foldl (zbG n) []∧x.2.length+rest.length≤sd.length∧zK H' x.1 x.2.length 1) (.nil,[]) (by simp(disch:=omega) only[cT,List.map,go_sem]) ⟨rfl,by simp,rfl⟩ ?_ ?_
   ·rintro⟨o1,a⟩ H' J ⟨hn,_,hs⟩ hlt
    simp only[List.foldl] at hn
    simp(disch:=omega) only[h1,hlt,go_sem]
    exact fin a (by rw[e0,← hn]) _ _ [.sl o1 1 (cT a)] (by simp(disch:=omega) only[ir197,zG,Zk,go_sem]) rfl
   ·rintro done x rest ⟨o1,a⟩ H' J hd hlt _ ⟨hn,hle3,hs⟩ hJ
    replace hs:zK H' o1 a.length 1:=hs
    have hg:=zeV hd
    have hx:=hmem x (by rw[hd];simp)
    obtain⟨xk,xn,xfs,xfl,xps,xpa⟩:=x
    have hfs:=ZS xfs
    simp only[bE] at hx
    simp only[List.foldl,Al2] at hn hle3
    have hst:=zko n a ⟨xk,xn,xfs,xfl,xps,xpa⟩
    simp(disch:=omega) only[h1,hlt,hg,yf,go_sem]
    refine zc fun b9 hb9=>?_
    by_cases hk:xk=1
    case neg =>
     have e2:zbG n a ⟨xk,xn,xfs,xfl,xps,xpa⟩=a:=by simp[zbG,hk]
     rw[e2] at hn
     simp(disch:=omega) only[hk,yf,go_sem]
     exact goJ (hJ (o1,a) _ ⟨hn,by simp only;omega,hs.upd hb9⟩) (by simp(disch:=omega) only[wrap64,go_sem])
    subst hk
    simp(disch:=omega) only[yf,go_sem]
    refine za (yE xfs n (by simp only[Lim];omega)) ?_
    cases hh:zL n xfs with
    | false =>
     have e2:zbG n a ⟨1,xn,xfs,xfl,xps,xpa⟩=a:=by simp[zbG,hh]
     rw[e2] at hn
     simp(disch:=omega) only[yf,go_sem]
     exact goJ (hJ (o1,a) _ ⟨hn,by simp only;omega,hs.upd hb9⟩) (by simp(disch:=omega) only[wrap64,go_sem])
    | true =>
     have e2:zbG n a ⟨1,xn,xfs,xfl,xps,xpa⟩=zbW a xn:=by simp[zbG,hh]
     rw[e2] at hn hst
     simp(disch:=omega) only[yf,go_sem]
     refine zB (zw9 a xn o1 _ (by simp only[Lim];omega) (hs.upd hb9)) fun o2 H2 hs2=>?_
     rw[zD] at hs2
     simp(disch:=omega) only[wrap64,go_sem]
     exact goJ (hJ (o2,zbW a xn) H2 ⟨hn,by simp only;omega,hs2.own⟩) (by simp(disch:=omega) only[go_sem])
  by_cases k3:k=3
  ·subst k3
   simp only[Int.reduceEq,if_false,if_true] at e0
   have h2:=zD ps
   simp(disch:=omega) only[Option.getD,Option.isSome,yf,go_sem]
   refine zc fun b5 hb5=>?_
   simp(disch:=omega) only[yf,h2,go_sem]
   refine zf ps 54 (fun x:Own×List (List UInt8)=>[(7,.sl x.1 1 (cT x.2))]) (fun done rest x H'=>rest.foldl (zcO s) x.2=ps.foldl (zcO s) []∧x.2.length+rest.length≤ps.length∧zK H' x.1 x.2.length 1) (.nil,[]) (by simp(disch:=omega) only[cT,List.map,go_sem]) ⟨rfl,by simp,rfl⟩ ?_ ?_
   ·rintro⟨o1,a⟩ H' J ⟨hn,_,hs⟩ hlt
    simp only[List.foldl] at hn
    simp(disch:=omega) only[h2,hlt,go_sem]
    exact fin a (by rw[e0,← hn]) _ _ [.sl o1 1 (cT a)] (by simp(disch:=omega) only[ir197,zG,Zk,go_sem]) rfl
   ·rintro done x rest ⟨o1,a⟩ H' J hd hlt _ ⟨hn,hle3,hs⟩ hJ
    replace hs:zK H' o1 a.length 1:=hs
    have hg:=Yr hd
    simp only[List.foldl,Al2] at hn hle3
    have hst:=zlV s a x
    simp(disch:=omega) only[h2,hlt,hg,go_sem]
    refine za (zg.low (hkind x)) ?_
    cases hh:yQ s x [1] with
    | false =>
     have e2:zcO s a x=a:=by simp[zcO,hh]
     rw[e2] at hn
     simp(disch:=omega) only[go_sem]
     exact goJ (hJ (o1,a) _ ⟨hn,by simp only;omega,hs⟩) (by simp(disch:=omega) only[wrap64,go_sem])
    | true =>
     have e2:zcO s a x=zbW a x:=by simp[zcO,hh]
     rw[e2] at hn hst
     simp(disch:=omega) only[go_sem]
     refine zB (zw9 a x o1 _ (by simp only[Lim];omega) hs) fun o2 H2 hs2=>?_
     rw[zD] at hs2
     simp(disch:=omega) only[wrap64,go_sem]
     exact goJ (hJ (o2,zbW a x) H2 ⟨hn,by simp only;omega,hs2.own⟩) (by simp(disch:=omega) only[go_sem])
  ·simp only[k1,k2,k3,if_false] at e0
   simp(disch:=omega) only[Option.getD,Option.isSome,yf,go_sem]
   refine zc fun b5 hb5=>?_
   simp(disch:=omega) only[yf,k1,k2,k3,go_sem]
   exact fin [] e0 _ _ [.sl .nil 1 []] (by simp(disch:=omega) only[ir197,zG,Zk,go_sem]) rfl
theorem zK.ofKept {H H':zb} {o o2:Own} {n sz:Nat} (h:zK H o n sz) (hk:Kept H o2 H') (hne:∀ b d d2,o=.tip b d→o2≠.tip b d2):zK H' o n sz:=by
 cases o with
 | tip b d=>exact hk b _ h fun d2 e=>hne b d d2 rfl e
 | no=>exact h
 | nil=>exact h
 | full=>exact h
open Go.Lib Go.RowKit Go.Sort
end Go.Proofs.YtbjofkamhijjlaaGreatDoor
namespace Go.Proofs.YtbjofkamhijjlaaGreatDoor
open Go.Ab
theorem zfd (H:zb) (b:Nat) (x y:AObj):(H.upd b x).upd b y=H.upd b y:=by
 funext c;by_cases e:c=b<;>simp[zb.upd,e]
theorem own_ne {H:zb} {c b d n sz:Nat} {cs:List AV} (h:zK H (.tip b d) n sz) (hc:H c=some (.cells cs)):b≠c:=fun e=>by
 subst e
 have:H b=some (.tip (d+n) sz):=h
 rw[hc] at this;cases this
theorem zrw {H H':zb} {o:Own} {n sz c:Nat} {cs:List AV} (h:zK H o n sz) (hc:H c=some (.cells cs)) (hk:Kept H o H'):H' c=some (.cells cs) :=
 hk c _ hc fun d e=>by subst e;exact own_ne h hc rfl
theorem znn {H:zb} {o:Own} {n sz c:Nat} {cs:List AV} {x:AObj} (h:zK H o n sz) (hc:H c=some (.cells cs)):zK (H.upd c x) o n sz:=by
 cases o with
 | tip b d=>have:=own_ne h hc;show (H.upd c x) b=_;rw[upd_ne this];exact h
 | no=>exact h
 | nil=>exact h
 | full=>exact h
open Go.Lib
end Go.Proofs.YtbjofkamhijjlaaGreatDoor
namespace Go.Proofs.YtbjofkamhijjlaaGreatDoor
open Go.Ab
def cv (v0:Nat) (b:Nat→Nat):Nat→Nat
 | 0=>v0
 | j+1=>cv v0 b j*64+b (j+1) % 64
open Go.Lib
end Go.Proofs.YtbjofkamhijjlaaGreatDoor
namespace Go.Proofs.YtbjofkamhijjlaaGreatDoor
open Go.Ab
open Go.Lib
end Go.Proofs.YtbjofkamhijjlaaGreatDoor
namespace Go.Proofs.YtbjofkamhijjlaaGreatDoor
open Go.Ab
structure WAt (H:zb) (w:Nat) (o:Own) (l:List Tok) (ok:Bool) (dp:Int):Prop where
 cell:H w=some (.cells [.sl o 2 (cKs l),.bool ok,.int .i64 dp])
 own:zK H o l.length 2
structure WStep (H:zb) (o:Own) (w:Nat) (H':zb) (o':Own):Prop where
 keep:∀ c x,c≠w→(∀ d,o≠.tip c d)→H c=some x→H' c=some x
 new:∀ b d,o'=.tip b d→H b=none∨∃ d0,o=.tip b d0
theorem WStep.refl (H:zb) (o:Own) (w:Nat):WStep H o w H o:=⟨fun _ _ _ _ h=>h,fun b d e=>.inr ⟨d,e⟩⟩
theorem WStep.trans {H H1 H2:zb} {o o1 o2:Own} {w:Nat} {x:AObj} (h:WStep H o w H1 o1) (hw:H1 w=some x) (h':WStep H1 o1 w H2 o2):WStep H o w H2 o2:=by
 refine⟨fun c y hc hn hy=>h'.keep c y hc (fun d e=>?_) (h.keep c y hc hn hy),fun b d e=>?_⟩
 ·rcases h.new c d e with h1|⟨d0,h1⟩
  ·rw[hy] at h1;cases h1
  ·exact hn d0 h1
 ·rcases h'.new b d e with h1|⟨d0,h1⟩
  ·cases hb:H b with
   | none=>exact .inl rfl
   | some y =>
    by_cases e2:∃ d,o=.tip b d
    ·exact .inr e2
    ·have hbw:b≠w:=fun e3=>by subst e3;rw[hw] at h1;cases h1
     have:=h.keep b y hbw (fun d e3=>e2 ⟨d,e3⟩) hb
     rw[h1] at this;cases this
  ·exact h.new b d0 h1
theorem WStep.box {H H':zb} {o o':Own} {w b n:Nat} {cs:List AV} (h:WStep H o w H' o') (ho:zK H o n 2) (hb:H b=some (.cells cs)) (hw:b≠w):H' b=some (.cells cs) :=
 h.keep b _ hw (fun d e=>by subst e;exact own_ne ho hb rfl) hb
theorem WStep.upd {H H':zb} {o o':Own} {w:Nat} {x:AObj} (h:WStep H o w H' o'):WStep H o w (H'.upd w x) o' :=
 ⟨fun c y hc hn hy=>by rw[upd_ne hc];exact h.keep c y hc hn hy,h.new⟩
theorem WStep.alloc {H H':zb} {o o':Own} {w b:Nat} {x:AObj} (h:WStep H o w H' o') (hb:H' b=none):WStep H o w (H'.upd b x) o' :=
 ⟨fun c y hc hn hy=>by have:=h.keep c y hc hn hy;rw[upd_ne (fun e=>by subst e;rw[hb] at this;cases this)];exact this,h.new⟩
theorem WAt.alloc {H:zb} {w b:Nat} {o:Own} {l:List Tok} {ok:Bool} {dp:Int} {x:AObj} (h:WAt H w o l ok dp) (hb:H b=none):WAt (H.upd b x) w o l ok dp :=
 ⟨by rw[upd_ne (fun e=>by subst e;rw[h.cell] at hb;cases hb)];exact h.cell,h.own.upd hb⟩
theorem WAt.put {H:zb} {w:Nat} {o:Own} {l:List Tok} {ok ok':Bool} {dp dp':Int} (h:WAt H w o l ok dp):WAt (H.upd w (.cells [.sl o 2 (cKs l),.bool ok',.int .i64 dp'])) w o l ok' dp' :=
 ⟨upd_same ..,znn h.own h.cell⟩
theorem WAt.app {H H1:zb} {w:Nat} {o o1:Own} {l ts:List Tok} {ok:Bool} {dp:Int} {n:Nat} (h:WAt H w o l ok dp) (hs:OwnS H o H1 o1 n 2) (hn:n=(l++ts).length) :
  H1 w=some (.cells [.sl o 2 (cKs l),.bool ok,.int .i64 dp])∧WAt (H1.upd w (.cells [.sl o1 2 (cKs (l++ts)),.bool ok,.int .i64 dp])) w o1 (l++ts) ok dp∧WStep H o w (H1.upd w (.cells [.sl o1 2 (cKs (l++ts)),.bool ok,.int .i64 dp])) o1:=by
 subst hn
 have hc:=zrw h.own h.cell hs.kept
 exact⟨hc,⟨upd_same ..,znn hs.own hc⟩,fun c y hcw hn hy=>by rw[upd_ne hcw];exact hs.kept c y hy hn,hs.new⟩
abbrev ztD (R:AV→zb→Prop):AEnd→zb→Prop:=fun e H'=>∃ v,e=.ret v∧R v H'
def WC (f:FuncId) (args:List AV) (B:Nat) (lo hi:Int) (r:Int→Bool) (tk:List Tok):Prop :=
 ∀(H:zb) (w:Nat) (o:Own) (l:List Tok) (ok:Bool) (dp:Int),WAt H w o l ok dp→lo≤dp→dp≤hi→l.length+B≤Lim →
  zi Tryz.prog f (.ptr w 0::args) H (ztD fun v H'=>v=.tup []∧∃ o' l',WAt H' w o' l' (ok&&r dp) dp∧WStep H o w H' o'∧l'.length≤l.length+B∧((ok&&r dp)=true→l'=l++tk))
structure WR (H0:zb) (o0:Own) (w:Nat) (l0:List Tok) (ok0:Bool) (dp:Int) (B:Nat) (r:Bool) (tk:List Tok) (H:zb) (o:Own) (l:List Tok):Prop where
 here:WAt H w o l (ok0&&r) dp
 st:WStep H0 o0 w H o
 len:l.length≤l0.length+B
 eq:(ok0&&r)=true→l=l0++tk
theorem WR.refl {H:zb} {o:Own} {w:Nat} {l:List Tok} {ok:Bool} {dp:Int} (h:WAt H w o l ok dp):WR H o w l ok dp 0 true [] H o l :=
 ⟨by rw[Bool.and_true];exact h,.refl _ _ _,Al4 _,fun _=>by simp⟩
theorem WR.alloc {H0 H:zb} {o0 o:Own} {w b B:Nat} {l0 l tk:List Tok} {ok0 r:Bool} {dp:Int} {x:AObj} (h:WR H0 o0 w l0 ok0 dp B r tk H o l) (hb:H b=none):WR H0 o0 w l0 ok0 dp B r tk (H.upd b x) o l :=
 ⟨h.here.alloc hb,h.st.alloc hb,h.len,h.eq⟩
theorem WR.fin {H0 H:zb} {o0 o:Own} {w B B':Nat} {l0 l tk tk':List Tok} {ok0 r r':Bool} {dp:Int} (h:WR H0 o0 w l0 ok0 dp B r tk H o l) (hr:r=r') (ht:r'=true→tk=tk') (hB:B≤B') :
  ∃ o' l',WAt H w o' l' (ok0&&r') dp∧WStep H0 o0 w H o'∧l'.length≤l0.length+B'∧((ok0&&r')=true→l'=l0++tk'):=by
 subst hr
 refine⟨o,l,h.here,h.st,by have:=h.len;omega,fun e=>?_⟩
 rw[h.eq e,ht (by simp only[Al0] at e;exact e.2)]
section
variable {KP:AV→zb→Prop} {Q:AExit→Env→zb→Prop} {st:List Fr} {ρ:Env} {H:zb} {all items:List AItem} {d:Option Nat} {R:List Chk}
theorem zbb {f:FuncId} {args:List AV} {B:Nat} {lo hi:Int} {r:Int→Bool} {tk:List Tok} (hc:WC f args B lo hi r tk) {w:Nat} {o:Own} {l:List Tok} {ok:Bool} {dp:Int} (h:WAt H w o l ok dp) (h0:lo≤dp) (h1:dp≤hi) (hb:l.length+B≤Lim)
  (k:∀ o' l' H',WAt H' w o' l' (ok&&r dp) dp→WStep H o w H' o'→l'.length≤l.length+B→((ok&&r dp)=true→l'=l++tk)→goR Tryz.prog KP Q all items st R (ρ.set d (.tup [])) H') :
  goK Tryz.prog KP Q all items st d R ρ f (.ptr w 0::args) H:=by
 refine zfa (hc H w o l ok dp h h0 h1 hb) fun v H' ⟨hv,o',l',h2,h3,h4,h5⟩=>?_
 subst hv
 exact k o' l' H' h2 h3 h4 h5
theorem zu {f:FuncId} {args:List AV} {B':Nat} {lo hi:Int} {r':Int→Bool} {tk':List Tok} (hc:WC f args B' lo hi r' tk') {H0:zb} {o0 o:Own} {w B:Nat} {l0 l tk:List Tok} {ok0 r:Bool} {dp:Int} (h:WR H0 o0 w l0 ok0 dp B r tk H o l) (h0:lo≤dp) (h1:dp≤hi)
  (hb:l0.length+(B+B')≤Lim) (k:∀ o' l' H',WR H0 o0 w l0 ok0 dp (B+B') (r&&r' dp) (tk++tk') H' o' l'→WStep H o w H' o'→goR Tryz.prog KP Q all items st R (ρ.set d (.tup [])) H') :
  goK Tryz.prog KP Q all items st d R ρ f (.ptr w 0::args) H:=by
 have hlen:=h.len
 refine zbb hc h.here h0 h1 (by omega) fun o' l' H' h2 h3 h4 h5=>k o' l' H' ⟨by rw[← YU];exact h2,h.st.trans h.here.cell h3,by omega,fun e=>?_⟩ h3
 rw[← YU] at e
 rw[h5 e,h.eq (by simp only[Al0] at e ⊢;exact e.1),zb0]
end
theorem zxk:zi Tryz.prog 44 [] zb.emp (ztD fun v H'=>∃ w,v=.ptr w 0∧WAt H' w .nil [] true 0):=by
 refine zi.go ir44 ck44 (Al4 _) fun KP Q hQ=>?_
 simp(disch:=omega) only[ir44,go_sem]
 refine zc fun b hb=>?_
 simp(disch:=omega) only[go_sem]
 exact hQ _ _ _ _ [_] nofun rfl (Low.refl _) ⟨b,rfl,upd_same ..,rfl⟩
theorem Yn (b:Bool):WC 45 [.bool b] 0 (-1000) 1000 (fun _=>b) []:=by
 intro H w o l ok dp h h0 h1 hb
 refine zi.go ir45 ck45 (Al4 _) fun KP Q hQ=>?_
 have hc:=h.cell
 cases ok
 ·simp(disch:=omega) only[ir45,hc,go_sem]
  exact hQ _ _ _ _ [] nofun rfl (Low.refl _) ⟨rfl,o,l,h.put,(WStep.refl ..).upd,by simp,fun _=>by simp⟩
 ·simp(disch:=omega) only[ir45,hc,go_sem]
  exact hQ _ _ _ _ [] nofun rfl (Low.refl _) ⟨rfl,o,l,by rw[Bool.true_and];exact h.put,(WStep.refl ..).upd,by simp,fun _=>by simp⟩
theorem yA (s:List UInt8) (hs:s.length≤Lim):WC 88 [.str s] 1 (-1000) 1000 (fun _=>zN s) [wk s]:=by
 intro H w o l ok dp h h0 h1 hb
 refine zi.go ir88 ck88 (Al4 _) fun KP Q hQ=>?_
 have hkl:=Zb l
 simp only[Lim] at hb
 simp(disch:=omega) only[ir88,go_sem]
 refine za (zkO s hs) ?_
 simp(disch:=omega) only[go_sem]
 refine zbb (Yn _) h h0 h1 (by simp only[Lim];omega) fun o1 l1 H1 h2 h3 h4 h5=>?_
 have hkl1:=Zb l1
 have hc:=h2.cell
 simp(disch:=omega) only[hc,go_sem]
 refine zp (by rw[hkl1];exact h2.own) (by simp only[hkl1,Al2,Al3];omega) (by simp only[hkl1,Al2,Al3,maxLen];omega) fun o2 H2 hs2=>?_
 obtain⟨g1,g2,g3⟩:=h2.app (ts:=[wk s]) hs2 (by simp[hkl1])
 have ek:cKs l1++[[AV.int .i64 2,AV.str s]]=cKs (l1++[wk s]):=zcm l1 (wk s)
 simp(disch:=omega) only[g1,ek,go_sem]
 exact hQ _ _ _ _ [] nofun rfl (Low.refl _) ⟨rfl,o2,l1++[wk s],g2,h3.trans h2.cell g3,by simp;omega,fun e=>by rw[h5 e];simp⟩
theorem y8 (m:List UInt8) (o9:Own):WC 89 [.sl o9 1 [[.str m]]] 1 (-1000) 1000 (fun _=>true) [pk m]:=by
 intro H w o l ok dp h h0 h1 hb
 refine zi.go ir89 ck89 (Al4 _) fun KP Q hQ=>?_
 simp only[Lim] at hb
 simp(disch:=omega) only[ir89,go_sem]
 refine zf [m] 8 (fun x:Own×List Tok=>[]) (fun done rest x H'=>WAt H' w x.1 x.2 ok dp∧WStep H o w H' x.1∧x.2=l++done.map pk) (o,l) (by simp(disch:=omega) only[go_sem]) ⟨h,.refl _ _ _,by simp⟩ ?_ ?_
 ·rintro⟨o1,l1⟩ H1 J ⟨h2,h3,h4⟩ hlt
  simp only at h2 h3 h4
  simp(disch:=omega) only[go_sem]
  refine hQ _ _ H1 H1 [] nofun rfl (Low.refl _) ⟨rfl,o1,l1,by simpa using h2,h3,by rw[h4];simp,fun _=>by rw[h4];simp⟩
 ·rintro done x rest ⟨o1,l1⟩ H1 J hd hlt hlt2 ⟨h2,h3,h4⟩ hJ
  simp only at h2 h3 h4
  have hl1:l1.length≤l.length+1:=by rw[h4];simp only[Al5,List.length_map];have:=congrArg List.length hd;simp at this;omega
  have hg:([[AV.str m]]:List (List AV)).getD done.length []=[.str x]:=by
   have:([m].map fun k=>[AV.str k]).getD done.length []=[.str x]:=yN hd
   exact this
  have hkl1:=Zb l1
  have hc:=h2.cell
  have hlt1:((done.length:Int)<1)=True:=eq_true (by simpa using hlt)
  have hdl:done.length<1:=by simpa using hlt2
  simp(disch:=omega) only[hlt1,hg,hc,go_sem]
  refine zp (by rw[hkl1];exact h2.own) (by simp only[hkl1,Al2,Al3];omega) (by simp only[hkl1,Al2,Al3,maxLen];omega) fun o2 H2 hs2=>?_
  obtain⟨g1,g2,g3⟩:=h2.app (ts:=[pk x]) hs2 (by simp[hkl1])
  have ek:cKs l1++[[AV.int .i64 1,AV.str x]]=cKs (l1++[pk x]):=zcm l1 (pk x)
  simp(disch:=omega) only[g1,ek,wrap64,go_sem]
  exact goJ (hJ (o2,l1++[pk x]) _ ⟨g2,h3.trans h2.cell g3,by rw[h4];simp⟩) (by simp(disch:=omega) only[go_sem])
theorem ziZ (v:Val):zcN v=if zbT v then zaj v else []:=by unfold zcN;rfl
theorem znR (v:Val) (hw:wfV v) (hv:4*bV v≤Lim) (fixed:Bool):WC 174 [.agg (cV v),.bool fixed] (4*bV v) 0 32 (fun dp=>Zd dp fixed v) (zaj v):=by
 intro H w o l ok dp h h0 h1 hb
 have hvb:bV v≤Lim:=by simp only[Lim] at hv ⊢;omega
 have htl:(zcN v).length≤4*bV v:=by
  have:=zeD v
  rw[ziZ];split
  ·omega
  ·simp
 have hkt:=Zb (zcN v)
 have hdv:=zfE v
 have hvl:=zb7 v []
 have hcv:=zD (ZO v [])
 simp only[Lim] at hb hv
 refine zi.go ir174 ck174 (Al4 _) fun KP Q hQ=>?_
 have hc:=h.cell
 have fin:∀(b:Bool),b=Zd dp fixed v→∀(H2:zb) (o2:Own) (l2:List Tok),WAt H2 w o2 l2 (ok&&b) dp→WStep H o w H2 o2→l2.length≤l.length+0→((ok&&b)=true→l2=l++[]) →
   ∀(H3:zb) (o3:Own),OwnS H2 o2 H3 o3 ((cKs l2).length+(cKs (zcN v)).length) 2 →
   H3 w=some (.cells [.sl o2 2 (cKs l2),.bool (ok&&b),.int .i64 dp])∧∃ o' l',WAt (H3.upd w (.cells [.sl o3 2 (cKs l2++cKs (zcN v)),.bool (ok&&b),.int .i64 dp])) w o' l' (ok&&Zd dp fixed v) dp ∧
    WStep H o w (H3.upd w (.cells [.sl o3 2 (cKs l2++cKs (zcN v)),.bool (ok&&b),.int .i64 dp])) o'∧l'.length≤l.length+4*bV v∧((ok&&Zd dp fixed v)=true→l'=l++zaj v):=by
  intro b hbr H2 o2 l2 h2 h3 h4 h5 H3 o3 hs
  obtain⟨g1,g2,g3⟩:=h2.app (ts:=zcN v) hs (by simp[Zb])
  rw[zlX] at g2 g3
  refine⟨g1,o3,l2++zcN v,by rw[← hbr];exact g2,h3.trans h2.cell g3,by simp only[Al5];omega,fun e=>?_⟩
  rw[← hbr] at e
  have er:Zd dp fixed v=true:=by rw[← hbr];simp only[Al0] at e;exact e.2
  have ep:zbT v=true:=by simp only[Zd,Al0] at er;exact er.1
  rw[h5 e,ziZ,ep];simp
 have d1:IntKind.wrap .i64 (dp+ZV v)=dp+ZV v:=wrap64 (by omega) (by omega)
 cases hp:zbT v with
 | false =>
  have hbr:false=Zd dp fixed v:=by simp[Zd,hp]
  simp(disch:=omega) only[zx,zm,zj,zv,zn,zk,zA,ir174,go_sem]
  refine za (zgC v hw hv) ?_
  simp(disch:=omega) only[hp,go_sem]
  refine zbb (Yn _) h (by omega) (by omega) (by simp only[Lim];omega) fun o2 l2 H2 h2 h3 h4 h5=>?_
  have hk2:=Zb l2
  have hc2:=h2.cell
  simp(disch:=omega) only[hc2,go_sem]
  refine zp (by rw[hk2];exact h2.own) (by rw[hk2,hkt];omega) (by rw[hk2,hkt];simp only[maxLen];omega) fun o3 H3 hs3=>?_
  obtain⟨g1,g2⟩:=fin _ hbr H2 o2 l2 h2 h3 h4 h5 H3 o3 hs3
  simp(disch:=omega) only[g1,zb1,go_sem]
  exact hQ _ _ _ _ [] nofun rfl (Low.refl _) ⟨rfl,g2⟩
 | true =>
  by_cases hd:dp+ZV v≤16
  case neg =>
   have hbr:false=Zd dp fixed v:=by simp[Zd,hd]
   simp(disch:=omega) only[zx,zm,zj,zv,zn,zk,zA,ir174,go_sem]
   refine za (zgC v hw hv) ?_
   simp(disch:=omega) only[zx,zm,zj,zv,zn,zk,zA,hp,hc,go_sem]
   refine za (zjA v hvb) ?_
   simp(disch:=omega) only[zx,zm,zj,zv,zn,zk,zA,d1,hd,hc,go_sem]
   refine zbb (Yn _) h (by omega) (by omega) (by simp only[Lim];omega) fun o2 l2 H2 h2 h3 h4 h5=>?_
   have hk2:=Zb l2
   have hc2:=h2.cell
   simp(disch:=omega) only[hc2,go_sem]
   refine zp (by rw[hk2];exact h2.own) (by rw[hk2,hkt];omega) (by rw[hk2,hkt];simp only[maxLen];omega) fun o3 H3 hs3=>?_
   obtain⟨g1,g2⟩:=fin _ hbr H2 o2 l2 h2 h3 h4 h5 H3 o3 hs3
   simp(disch:=omega) only[g1,zb1,go_sem]
   exact hQ _ _ _ _ [] nofun rfl (Low.refl _) ⟨rfl,g2⟩
  cases fixed with
  | false =>
   have hbr:true=Zd dp false v:=by simp[Zd,hd,hp]
   simp(disch:=omega) only[zx,zm,zj,zv,zn,zk,zA,ir174,go_sem]
   refine za (zgC v hw hv) ?_
   simp(disch:=omega) only[zx,zm,zj,zv,zn,zk,zA,hp,hc,go_sem]
   refine za (zjA v hvb) ?_
   simp(disch:=omega) only[zx,zm,zj,zv,zn,zk,zA,d1,hd,hc,go_sem]
   refine zbb (Yn _) h (by omega) (by omega) (by simp only[Lim];omega) fun o2 l2 H2 h2 h3 h4 h5=>?_
   have hk2:=Zb l2
   have hc2:=h2.cell
   simp(disch:=omega) only[hc2,go_sem]
   refine zp (by rw[hk2];exact h2.own) (by rw[hk2,hkt];omega) (by rw[hk2,hkt];simp only[maxLen];omega) fun o3 H3 hs3=>?_
   obtain⟨g1,g2⟩:=fin _ hbr H2 o2 l2 h2 h3 h4 h5 H3 o3 hs3
   simp(disch:=omega) only[g1,zb1,go_sem]
   exact hQ _ _ _ _ [] nofun rfl (Low.refl _) ⟨rfl,g2⟩
  | true =>
   simp(disch:=omega) only[zx,zm,zj,zv,zn,zk,zA,ir174,go_sem]
   refine za (zgC v hw hv) ?_
   simp(disch:=omega) only[zx,zm,zj,zv,zn,zk,zA,hp,hc,go_sem]
   refine za (zjA v hvb) ?_
   simp(disch:=omega) only[zx,zm,zj,zv,zn,zk,zA,d1,hd,hc,go_sem]
   refine za (zqc v hvb) ?_
   by_cases hz:(ZO v []).length=0
   ·have hbr:true=Zd dp true v:=by simp[Zd,hd,hp,hz]
    have hz':¬ ((0:Int)<(ZO v []).length):=by omega
    simp(disch:=omega) only[zx,zm,zj,zv,zn,zk,zA,hcv,hz',go_sem]
    refine zbb (Yn _) h (by omega) (by omega) (by simp only[Lim];omega) fun o2 l2 H2 h2 h3 h4 h5=>?_
    have hk2:=Zb l2
    have hc2:=h2.cell
    simp(disch:=omega) only[hc2,go_sem]
    refine zp (by rw[hk2];exact h2.own) (by rw[hk2,hkt];omega) (by rw[hk2,hkt];simp only[maxLen];omega) fun o3 H3 hs3=>?_
    obtain⟨g1,g2⟩:=fin _ hbr H2 o2 l2 h2 h3 h4 h5 H3 o3 hs3
    simp(disch:=omega) only[g1,zb1,go_sem]
    exact hQ _ _ _ _ [] nofun rfl (Low.refl _) ⟨rfl,g2⟩
   ·have hbr:false=Zd dp true v:=by simp[Zd,hd,hp,hz]
    have hz':((0:Int)<(ZO v []).length)=True:=eq_true (by omega)
    simp(disch:=omega) only[zx,zm,zj,zv,zn,zk,zA,hcv,hz',go_sem]
    refine zbb (Yn _) h (by omega) (by omega) (by simp only[Lim];omega) fun o2 l2 H2 h2 h3 h4 h5=>?_
    have hk2:=Zb l2
    have hc2:=h2.cell
    simp(disch:=omega) only[hc2,go_sem]
    refine zp (by rw[hk2];exact h2.own) (by rw[hk2,hkt];omega) (by rw[hk2,hkt];simp only[maxLen];omega) fun o3 H3 hs3=>?_
    obtain⟨g1,g2⟩:=fin _ hbr H2 o2 l2 h2 h3 h4 h5 H3 o3 hs3
    simp(disch:=omega) only[g1,zb1,go_sem]
    exact hQ _ _ _ _ [] nofun rfl (Low.refl _) ⟨rfl,g2⟩
theorem znD (m:Int) (k:Nat) (hk:k≤64):m.fdiv (2 ^ min k IntKind.i64.bits)=m / 2 ^ k:=by
 have e:min k IntKind.i64.bits=k:=by show min k 64=k;omega
 have hp:(0:Int)≤2 ^ k:=by exact_mod_cast Nat.zero_le _
 rw[e,Int.fdiv_eq_ediv_of_nonneg _ hp]
theorem zaO (t:TyD) (hs:t.nm.length≤Lim):zg Tryz.prog 172 [.agg (cTy t)] (.bool (zO t)):=by
 refine zg.go ir172 ck172 (Al4 _) fun KP Q hQ=>?_
 obtain⟨nm,ls,ms⟩:=t
 simp only at hs
 simp(disch:=omega) only[ir172,cTy,steps,st2,pev,rev,oev,yJ,yR,Zg,Zf,bound,yi,mm2,mk,zH,AV.cells,AV.boxable,AV.one,AV.strip1,AV.strip2,yh,yc,Nat.reduceEqDiff,reduceCtorEq,↓reduceIte,Nat.reduceAdd,Int.reduceNeg,Nat.reduceLeDiff,Int.reduceToNat,Int.reduceEq,Int.reduceLT,Int.reduceLE,Int.reduceAdd,Io,Im,If,Il,Jt,Jf,AC.rg,Jm,Jl,Ja,Fm,Fl,Fa,Imv,Imb,Iai,Iei,Igi,Isi,Ipf,Ipt,Ilb,Iia,Ilt,Iap,Ink,Iln,Ils,Iad,Iex,Ibx,Ing]
 refine za (zkO nm hs) ?_
 cases h1:zN nm with
 | false =>
  simp(disch:=omega) only[steps,st2,pev,rev,oev,yJ,yR,Zg,Zf,bound,yi,mm2,mk,zH,AV.cells,AV.boxable,AV.one,AV.strip1,AV.strip2,yh,yc,Nat.reduceEqDiff,reduceCtorEq,↓reduceIte,Nat.reduceAdd,Int.reduceNeg,Nat.reduceLeDiff,Int.reduceToNat,Int.reduceEq,Int.reduceLT,Int.reduceLE,Int.reduceAdd]
  exact hQ _ _ _ _ nofun rfl (by simp[zd,ze,AV.strip,AV.strip1,zO,h1])
 | true =>
  by_cases h2:0≤ls
  case neg =>
   simp(disch:=omega) only[h2,steps,st2,pev,rev,oev,yJ,yR,Zg,Zf,bound,yi,mm2,mk,zH,AV.cells,AV.boxable,AV.one,AV.strip1,AV.strip2,yh,yc,Nat.reduceEqDiff,reduceCtorEq,↓reduceIte,Nat.reduceAdd,Int.reduceNeg,Nat.reduceLeDiff,Int.reduceToNat,Int.reduceEq,Int.reduceLT,Int.reduceLE,Int.reduceAdd]
   exact hQ _ _ _ _ nofun rfl (by simp[zd,ze,AV.strip,AV.strip1,zO,h1,h2])
  by_cases h3:ls≤4
  case neg =>
   simp(disch:=omega) only[h2,h3,steps,st2,pev,rev,oev,yJ,yR,Zg,Zf,bound,yi,mm2,mk,zH,AV.cells,AV.boxable,AV.one,AV.strip1,AV.strip2,yh,yc,Nat.reduceEqDiff,reduceCtorEq,↓reduceIte,Nat.reduceAdd,Int.reduceNeg,Nat.reduceLeDiff,Int.reduceToNat,Int.reduceEq,Int.reduceLT,Int.reduceLE,Int.reduceAdd]
   exact hQ _ _ _ _ nofun rfl (by simp[zd,ze,AV.strip,AV.strip1,zO,h1,h2,h3])
  by_cases h4:0≤ms
  case neg =>
   simp(disch:=omega) only[h2,h3,h4,steps,st2,pev,rev,oev,yJ,yR,Zg,Zf,bound,yi,mm2,mk,zH,AV.cells,AV.boxable,AV.one,AV.strip1,AV.strip2,yh,yc,Nat.reduceEqDiff,reduceCtorEq,↓reduceIte,Nat.reduceAdd,Int.reduceNeg,Nat.reduceLeDiff,Int.reduceToNat,Int.reduceEq,Int.reduceLT,Int.reduceLE,Int.reduceAdd]
   exact hQ _ _ _ _ nofun rfl (by simp[zd,ze,AV.strip,AV.strip1,zO,h1,h2,h3,h4])
  have w1:IntKind.wrap .i64 (ls+1)=ls+1:=wrap64 (by omega) (by omega)
  have w2:¬ (ls+1<0):=by omega
  have e1:(ls+1).toNat=ls.toNat+1:=by omega
  have e2:=znD ms (ls.toNat+1) (by omega)
  have hpow:(0:Int)<2 ^ (ls.toNat+1):=by exact_mod_cast Nat.pos_of_ne_zero (by simp)
  have e3:(ms / 2 ^ (ls.toNat+1)=0)=(ms<2 ^ (ls.toNat+1)):=propext ⟨fun h=>by
   by_cases hlt:ms<2 ^ (ls.toNat+1)
   ·exact hlt
   ·have:=(Int.le_ediv_iff_mul_le hpow).2 (show 1*2 ^ (ls.toNat+1)≤ms by omega)
    omega,fun h=>Int.ediv_eq_zero_of_lt h4 h⟩
  simp(disch:=omega) only[h2,h3,h4,w1,w2,e1,e2,e3,steps,st2,pev,rev,oev,yJ,yR,Zg,Zf,bound,yi,mm2,mk,zH,AV.cells,AV.boxable,AV.one,AV.strip1,AV.strip2,yh,yc,Nat.reduceEqDiff,reduceCtorEq,↓reduceIte,Nat.reduceAdd,Int.reduceNeg,Nat.reduceLeDiff,Int.reduceToNat,Int.reduceEq,Int.reduceLT,Int.reduceLE,Int.reduceAdd]
  exact hQ _ _ _ _ nofun rfl (by simp[zd,ze,AV.strip,AV.strip1,zO,h1,h2,h3,h4])
theorem WR.cast {H0 H:zb} {o0 o:Own} {w B B':Nat} {l0 l tk tk':List Tok} {ok0 r r':Bool} {dp:Int} (h:WR H0 o0 w l0 ok0 dp B r tk H o l) (hB:B≤B') (hr:r=r') (ht:tk=tk'):WR H0 o0 w l0 ok0 dp B' r' tk' H o l:=by
 subst hr;subst ht
 exact⟨h.here,h.st,by have:=h.len;omega,h.eq⟩
theorem WR.after {H0 H1 H:zb} {o0 o1 o:Own} {w B:Nat} {l0 l tk:List Tok} {ok0 r:Bool} {dp:Int} (h:WR H1 o1 w l0 ok0 dp B r tk H o l) (hs:WStep H0 o0 w H1 o1) {x:AObj} (hw:H1 w=some x):WR H0 o0 w l0 ok0 dp B r tk H o l :=
 ⟨h.here,hs.trans hw h.st,h.len,h.eq⟩
def zfZ (n:Nat) (m:Int):Nat→List Tok
 | 0=>[]
 | j+1=>ztB n m j++zfZ n m j
theorem ziI (n:Nat) (m:Int):∀ j,zrk n m j=zfZ n m (j+1)
 | 0=>by simp[zrk,zfZ]
 | j+1=>by rw[zrk,ziI n m j];rfl
theorem and1 {x:Int} (h0:0≤x) (h1:x<64):IntKind.wrap .i64 ((BitVec.ofInt IntKind.i64.bits x &&& BitVec.ofInt IntKind.i64.bits 1).toNat:Int)=x % 2:=by
 have:∀ y:Fin 64,IntKind.wrap .i64 ((BitVec.ofInt IntKind.i64.bits (y.val:Int) &&& BitVec.ofInt IntKind.i64.bits 1).toNat:Int)=(y.val:Int) % 2:=by decide +kernel
 have:=this ⟨x.toNat,by omega⟩
 simp only[Int.toNat_of_nonneg h0] at this
 exact this
theorem zjp (t:TyD) (hs:t.nm.length≤Lim):WC 90 [.agg (cTy t)] 20 (-1000) 1000 (fun _=>zO t) (tTy t):=by
 intro H w o l ok dp h h0 h1 hb
 have hb0:=hb
 simp only[Lim] at hb
 refine zi.go ir90 ck90 (Al4 _) fun KP Q hQ=>?_
 obtain⟨nm,ls,ms⟩:=t
 simp only at hs
 have et:cTy ⟨nm,ls,ms⟩=[.str nm,.int .i64 ls,.int .i64 ms]:=rfl
 simp(disch:=omega) only[ir90,et,steps,st2,pev,rev,oev,yJ,yR,Zg,Zf,bound,yi,mm2,mk,zH,AV.cells,AV.boxable,AV.one,AV.strip1,AV.strip2,yh,yc,Nat.reduceEqDiff,reduceCtorEq,↓reduceIte,Nat.reduceAdd,Int.reduceNeg,Nat.reduceLeDiff,Int.reduceToNat,Int.reduceEq,Int.reduceLT,Int.reduceLE,Int.reduceAdd,Io,Im,If,Il,Jt,Jf,AC.rg,Jm,Jl,Ja,Fm,Fl,Fa,Imv,Imb,Iai,Iei,Igi,Isi,Ipf,Ipt,Ilb,Iia,Ilt,Iap,Ink,Iln,Ils,Iad,Iex,Ibx,Ing]
 refine za (show zg Tryz.prog 172 [.agg [.str nm,.int .i64 ls,.int .i64 ms]] (.bool (zO ⟨nm,ls,ms⟩)) from zaO ⟨nm,ls,ms⟩ hs) ?_
 simp(disch:=omega) only[steps,st2,pev,rev,oev,yJ,yR,Zg,Zf,bound,yi,mm2,mk,zH,AV.cells,AV.boxable,AV.one,AV.strip1,AV.strip2,yh,yc,Nat.reduceEqDiff,reduceCtorEq,↓reduceIte,Nat.reduceAdd,Int.reduceNeg,Nat.reduceLeDiff,Int.reduceToNat,Int.reduceEq,Int.reduceLT,Int.reduceLE,Int.reduceAdd]
 refine zbb (Yn _) h (by omega) (by omega) (by simp only[Lim];omega) fun o2 l2 H2 h2 h3 h4 h5=>?_
 have hc2:=h2.cell
 cases hok:ok&&zO ⟨nm,ls,ms⟩ with
 | false =>
  rw[hok] at h2 hc2
  simp(disch:=omega) only[hc2,steps,st2,pev,rev,oev,yJ,yR,Zg,Zf,bound,yi,mm2,mk,zH,AV.cells,AV.boxable,AV.one,AV.strip1,AV.strip2,yh,yc,Nat.reduceEqDiff,reduceCtorEq,↓reduceIte,Nat.reduceAdd,Int.reduceNeg,Nat.reduceLeDiff,Int.reduceToNat,Int.reduceEq,Int.reduceLT,Int.reduceLE,Int.reduceAdd]
  exact hQ _ _ H2 H2 [] nofun rfl (Low.refl _) ⟨rfl,o2,l2,by rw[hok];exact h2,h3,by omega,fun e=>by rw[hok] at e;cases e⟩
 | true =>
  rw[hok] at h2 hc2 h5
  have e2:l2=l:=by have:=h5 rfl;simpa using this
  subst e2
  have hrt:zO ⟨nm,ls,ms⟩=true:=by simp only[Al0] at hok;exact hok.2
  have hok1:ok=true:=by simp only[Al0] at hok;exact hok.1
  simp only[zO,Al0,yH] at hrt
  obtain⟨hnm,r1,r2,r3,r4⟩:=hrt
  obtain⟨n,rfl⟩:∃ n:Nat,ls=(n:Int):=⟨ls.toNat,by omega⟩
  have en:(n:Int).toNat=n:=by omega
  rw[en] at r4
  have hn4:n≤4:=by omega
  have hms:ms<64:=by
   have:(2:Int) ^ (n+1)≤2 ^ 5:=by exact_mod_cast Nat.pow_le_pow_right (by decide) (by omega:n+1≤5)
   omega
  have w0:=WR.refl h2
  simp(disch:=omega) only[hc2,steps,st2,pev,rev,oev,yJ,yR,Zg,Zf,bound,yi,mm2,mk,zH,AV.cells,AV.boxable,AV.one,AV.strip1,AV.strip2,yh,yc,Nat.reduceEqDiff,reduceCtorEq,↓reduceIte,Nat.reduceAdd,Int.reduceNeg,Nat.reduceLeDiff,Int.reduceToNat,Int.reduceEq,Int.reduceLT,Int.reduceLE,Int.reduceAdd]
  refine zcZ (fun x:Nat×Own×List Tok=>[(16,.int .i64 x.1)]) (fun x H'=>x.1≤n∧WR H2 o2 w l2 true dp x.1 true (List.replicate x.1 (pk [91])) H' x.2.1 x.2.2) (fun x=>n-x.1) (0,o2,l2) (by simp(disch:=omega) only[steps,st2,pev,rev,oev,yJ,yR,Zg,Zf,bound,yi,mm2,mk,zH,AV.cells,AV.boxable,AV.one,AV.strip1,AV.strip2,yh,yc,Nat.reduceEqDiff,reduceCtorEq,↓reduceIte,Nat.reduceAdd,Int.reduceNeg,Nat.reduceLeDiff,Int.reduceToNat,Int.reduceEq,Int.reduceLT,Int.reduceLE,Int.reduceAdd]) ⟨by simp,w0⟩ ?_
  rintro⟨i,o3,l3⟩ H3 J ⟨hi,w3⟩ hJ
  simp only at hi w3
  by_cases hlt:i<n
  ·have hlt':((i:Int)<n)=True:=eq_true (by omega)
   simp(disch:=omega) only[hlt',steps,st2,pev,rev,oev,yJ,yR,Zg,Zf,bound,yi,mm2,mk,zH,AV.cells,AV.boxable,AV.one,AV.strip1,AV.strip2,yh,yc,Nat.reduceEqDiff,reduceCtorEq,↓reduceIte,Nat.reduceAdd,Int.reduceNeg,Nat.reduceLeDiff,Int.reduceToNat,Int.reduceEq,Int.reduceLT,Int.reduceLE,Int.reduceAdd]
   refine zu (y8 [91] _) w3 (by omega) (by omega) (by simp only[Lim];omega) fun o4 l4 H4 w4 _=>?_
   simp(disch:=omega) only[wrap64,steps,st2,pev,rev,oev,yJ,yR,Zg,Zf,bound,yi,mm2,mk,zH,AV.cells,AV.boxable,AV.one,AV.strip1,AV.strip2,yh,yc,Nat.reduceEqDiff,reduceCtorEq,↓reduceIte,Nat.reduceAdd,Int.reduceNeg,Nat.reduceLeDiff,Int.reduceToNat,Int.reduceEq,Int.reduceLT,Int.reduceLE,Int.reduceAdd]
   exact goJ (hJ (i+1,o4,l4) H4 (by simp only;omega) ⟨by simp only;omega,w4.cast (Al4 _) rfl (by rw[List.replicate_succ'])⟩) (by simp(disch:=omega) only[Int.natCast_add,steps,st2,pev,rev,oev,yJ,yR,Zg,Zf,bound,yi,mm2,mk,zH,AV.cells,AV.boxable,AV.one,AV.strip1,AV.strip2,yh,yc,Nat.reduceEqDiff,reduceCtorEq,↓reduceIte,Nat.reduceAdd,Int.reduceNeg,Nat.reduceLeDiff,Int.reduceToNat,Int.reduceEq,Int.reduceLT,Int.reduceLE,Int.reduceAdd])
  ·have hlt':¬ ((i:Int)<n):=by omega
   obtain rfl:i=n:=by omega
   simp(disch:=omega) only[hlt',steps,st2,pev,rev,oev,yJ,yR,Zg,Zf,bound,yi,mm2,mk,zH,AV.cells,AV.boxable,AV.one,AV.strip1,AV.strip2,yh,yc,Nat.reduceEqDiff,reduceCtorEq,↓reduceIte,Nat.reduceAdd,Int.reduceNeg,Nat.reduceLeDiff,Int.reduceToNat,Int.reduceEq,Int.reduceLT,Int.reduceLE,Int.reduceAdd]
   refine zu (yA nm hs) w3 (by omega) (by omega) (by simp only[Lim];omega) fun o4 l4 H4 w4 _=>?_
   rw[hnm] at w4
   simp(disch:=omega) only[steps,st2,pev,rev,oev,yJ,yR,Zg,Zf,bound,yi,mm2,mk,zH,AV.cells,AV.boxable,AV.one,AV.strip1,AV.strip2,yh,yc,Nat.reduceEqDiff,reduceCtorEq,↓reduceIte,Nat.reduceAdd,Int.reduceNeg,Nat.reduceLeDiff,Int.reduceToNat,Int.reduceEq,Int.reduceLT,Int.reduceLE,Int.reduceAdd]
   refine zcZ (fun x:Nat×Own×List Tok×Nat×List Tok=>[(4,.int .i64 ((x.1:Int)-1))]) (fun x H'=>x.1≤i+1∧x.2.2.2.1+2*x.1≤19∧x.2.2.2.2++zfZ i ms x.1=tTy ⟨nm,i,ms⟩∧WR H2 o2 w l2 true dp x.2.2.2.1 true x.2.2.2.2 H' x.2.1 x.2.2.1) (fun x=>x.1)
    (i+1,o4,l4,i+1,List.replicate i (pk [91])++[wk nm]) (by simp(disch:=omega) only[Int.natCast_add,Int.add_sub_cancel,steps,st2,pev,rev,oev,yJ,yR,Zg,Zf,bound,yi,mm2,mk,zH,AV.cells,AV.boxable,AV.one,AV.strip1,AV.strip2,yh,yc,Nat.reduceEqDiff,reduceCtorEq,↓reduceIte,Nat.reduceAdd,Int.reduceNeg,Nat.reduceLeDiff,Int.reduceToNat,Int.reduceEq,Int.reduceLT,Int.reduceLE,Int.reduceAdd]) ⟨by simp,by simp only;omega,by simp only[tTy,en,ziI];simp,w4.cast (Al4 _) rfl rfl⟩ ?_
   rintro⟨k,o5,l5,B,tk⟩ H5 J5 ⟨hk,hB,htk,w5⟩ hJ5
   simp only at hk hB htk w5
   cases k with
   | zero =>
    have hz:¬ ((0:Int)≤-1):=by omega
    have w6:=w5.after h3 h2.cell
    simp only[zfZ,List.append_nil] at htk
    simp(disch:=omega) only[hz,Int.reduceSub,steps,st2,pev,rev,oev,yJ,yR,Zg,Zf,bound,yi,mm2,mk,zH,AV.cells,AV.boxable,AV.one,AV.strip1,AV.strip2,yh,yc,Nat.reduceEqDiff,reduceCtorEq,↓reduceIte,Nat.reduceAdd,Int.reduceNeg,Nat.reduceLeDiff,Int.reduceToNat,Int.reduceEq,Int.reduceLT,Int.reduceLE,Int.reduceAdd]
    refine hQ _ _ H5 H5 [] nofun rfl (Low.refl _) ⟨rfl,?_⟩
    obtain⟨o',l',g1,g2,g3,g4⟩:=w6.fin (B':=20) rfl (fun _=>htk) (by omega)
    rw[hok]
    exact⟨o',l',by simpa using g1,g2,by omega,fun _=>by simpa using g4 rfl⟩
   | succ j =>
    have e0:((j+1:Nat):Int)-1=(j:Int):=by omega
    have hz:((0:Int)≤j)=True:=eq_true (by omega)
    have hbit:=znD ms j (by omega)
    have hq0:0≤ms / 2 ^ j:=Int.ediv_nonneg r3 (by exact_mod_cast Nat.zero_le _)
    have hq1:ms / 2 ^ j<64:=by
     have:ms / 2 ^ j≤ms:=Int.ediv_le_self _ r3
     omega
    have ha:=and1 hq0 hq1
    have hj0:¬ ((j:Int)<0):=by omega
    simp only[zfZ,ztB] at htk
    by_cases hji:j<i
    ·have hji':((j:Int)<i)=True:=eq_true (by omega)
     rw[if_pos hji] at htk
     simp(disch:=omega) only[e0,hz,hji',steps,st2,pev,rev,oev,yJ,yR,Zg,Zf,bound,yi,mm2,mk,zH,AV.cells,AV.boxable,AV.one,AV.strip1,AV.strip2,yh,yc,Nat.reduceEqDiff,reduceCtorEq,↓reduceIte,Nat.reduceAdd,Int.reduceNeg,Nat.reduceLeDiff,Int.reduceToNat,Int.reduceEq,Int.reduceLT,Int.reduceLE,Int.reduceAdd]
     refine zu (y8 [93] _) w5 (by omega) (by omega) (by simp only[Lim];omega) fun o6 l6 H6 w6 _=>?_
     by_cases hbt:ms / 2 ^ j % 2=1
     ·have hbb:zjh ms j=true:=by simp[zjh,hbt]
      rw[hbb] at htk
      simp(disch:=omega) only[hbit,hj0,ha,hbt,steps,st2,pev,rev,oev,yJ,yR,Zg,Zf,bound,yi,mm2,mk,zH,AV.cells,AV.boxable,AV.one,AV.strip1,AV.strip2,yh,yc,Nat.reduceEqDiff,reduceCtorEq,↓reduceIte,Nat.reduceAdd,Int.reduceNeg,Nat.reduceLeDiff,Int.reduceToNat,Int.reduceEq,Int.reduceLT,Int.reduceLE,Int.reduceAdd]
      refine zu (y8 [33] _) w6 (by omega) (by omega) (by simp only[Lim];omega) fun o7 l7 H7 w7 _=>?_
      simp(disch:=omega) only[wrap64,steps,st2,pev,rev,oev,yJ,yR,Zg,Zf,bound,yi,mm2,mk,zH,AV.cells,AV.boxable,AV.one,AV.strip1,AV.strip2,yh,yc,Nat.reduceEqDiff,reduceCtorEq,↓reduceIte,Nat.reduceAdd,Int.reduceNeg,Nat.reduceLeDiff,Int.reduceToNat,Int.reduceEq,Int.reduceLT,Int.reduceLE,Int.reduceAdd]
      exact goJ (hJ5 (j,o7,l7,B+1+1,tk++[pk [93]]++[pk [33]]) H7 (Nat.lt_succ_self j) ⟨by simp only;omega,by simp only;omega,by rw[← htk];simp,w7.cast (Al4 _) rfl rfl⟩) (by simp(disch:=omega) only[steps,st2,pev,rev,oev,yJ,yR,Zg,Zf,bound,yi,mm2,mk,zH,AV.cells,AV.boxable,AV.one,AV.strip1,AV.strip2,yh,yc,Nat.reduceEqDiff,reduceCtorEq,↓reduceIte,Nat.reduceAdd,Int.reduceNeg,Nat.reduceLeDiff,Int.reduceToNat,Int.reduceEq,Int.reduceLT,Int.reduceLE,Int.reduceAdd])
     ·have hbb:zjh ms j=false:=by simp[zjh,hbt]
      rw[hbb] at htk
      simp(disch:=omega) only[hbit,hj0,ha,hbt,wrap64,steps,st2,pev,rev,oev,yJ,yR,Zg,Zf,bound,yi,mm2,mk,zH,AV.cells,AV.boxable,AV.one,AV.strip1,AV.strip2,yh,yc,Nat.reduceEqDiff,reduceCtorEq,↓reduceIte,Nat.reduceAdd,Int.reduceNeg,Nat.reduceLeDiff,Int.reduceToNat,Int.reduceEq,Int.reduceLT,Int.reduceLE,Int.reduceAdd]
      exact goJ (hJ5 (j,o6,l6,B+1,tk++[pk [93]]) H6 (Nat.lt_succ_self j) ⟨by simp only;omega,by simp only;omega,by rw[← htk];simp,w6.cast (Al4 _) rfl rfl⟩) (by simp(disch:=omega) only[steps,st2,pev,rev,oev,yJ,yR,Zg,Zf,bound,yi,mm2,mk,zH,AV.cells,AV.boxable,AV.one,AV.strip1,AV.strip2,yh,yc,Nat.reduceEqDiff,reduceCtorEq,↓reduceIte,Nat.reduceAdd,Int.reduceNeg,Nat.reduceLeDiff,Int.reduceToNat,Int.reduceEq,Int.reduceLT,Int.reduceLE,Int.reduceAdd])
    ·have hji':¬ ((j:Int)<i):=by omega
     rw[if_neg hji] at htk
     by_cases hbt:ms / 2 ^ j % 2=1
     ·have hbb:zjh ms j=true:=by simp[zjh,hbt]
      rw[hbb] at htk
      simp(disch:=omega) only[e0,hz,hji',hbit,hj0,ha,hbt,steps,st2,pev,rev,oev,yJ,yR,Zg,Zf,bound,yi,mm2,mk,zH,AV.cells,AV.boxable,AV.one,AV.strip1,AV.strip2,yh,yc,Nat.reduceEqDiff,reduceCtorEq,↓reduceIte,Nat.reduceAdd,Int.reduceNeg,Nat.reduceLeDiff,Int.reduceToNat,Int.reduceEq,Int.reduceLT,Int.reduceLE,Int.reduceAdd]
      refine zu (y8 [33] _) w5 (by omega) (by omega) (by simp only[Lim];omega) fun o7 l7 H7 w7 _=>?_
      simp(disch:=omega) only[wrap64,steps,st2,pev,rev,oev,yJ,yR,Zg,Zf,bound,yi,mm2,mk,zH,AV.cells,AV.boxable,AV.one,AV.strip1,AV.strip2,yh,yc,Nat.reduceEqDiff,reduceCtorEq,↓reduceIte,Nat.reduceAdd,Int.reduceNeg,Nat.reduceLeDiff,Int.reduceToNat,Int.reduceEq,Int.reduceLT,Int.reduceLE,Int.reduceAdd]
      exact goJ (hJ5 (j,o7,l7,B+1,tk++[pk [33]]) H7 (Nat.lt_succ_self j) ⟨by simp only;omega,by simp only;omega,by rw[← htk];simp,w7.cast (Al4 _) rfl rfl⟩) (by simp(disch:=omega) only[steps,st2,pev,rev,oev,yJ,yR,Zg,Zf,bound,yi,mm2,mk,zH,AV.cells,AV.boxable,AV.one,AV.strip1,AV.strip2,yh,yc,Nat.reduceEqDiff,reduceCtorEq,↓reduceIte,Nat.reduceAdd,Int.reduceNeg,Nat.reduceLeDiff,Int.reduceToNat,Int.reduceEq,Int.reduceLT,Int.reduceLE,Int.reduceAdd])
     ·have hbb:zjh ms j=false:=by simp[zjh,hbt]
      rw[hbb] at htk
      simp(disch:=omega) only[e0,hz,hji',hbit,hj0,ha,hbt,wrap64,steps,st2,pev,rev,oev,yJ,yR,Zg,Zf,bound,yi,mm2,mk,zH,AV.cells,AV.boxable,AV.one,AV.strip1,AV.strip2,yh,yc,Nat.reduceEqDiff,reduceCtorEq,↓reduceIte,Nat.reduceAdd,Int.reduceNeg,Nat.reduceLeDiff,Int.reduceToNat,Int.reduceEq,Int.reduceLT,Int.reduceLE,Int.reduceAdd]
      exact goJ (hJ5 (j,o5,l5,B,tk) H5 (Nat.lt_succ_self j) ⟨by simp only;omega,by simp only;omega,by rw[← htk];simp,w5⟩) (by simp(disch:=omega) only[steps,st2,pev,rev,oev,yJ,yR,Zg,Zf,bound,yi,mm2,mk,zH,AV.cells,AV.boxable,AV.one,AV.strip1,AV.strip2,yh,yc,Nat.reduceEqDiff,reduceCtorEq,↓reduceIte,Nat.reduceAdd,Int.reduceNeg,Nat.reduceLeDiff,Int.reduceToNat,Int.reduceEq,Int.reduceLT,Int.reduceLE,Int.reduceAdd])
theorem zjc (has:Bool) (v:Val) (hw:wfV v) (hv:4*bV v≤Lim):WC 91 [.bool has,.agg (cV v)] (1+4*bV v) 0 32 (fun dp=>if has then Zd dp true v else eqd v zV) (tDf has v):=by
 intro H w o l ok dp h h0 h1 hb
 have hvb:bV v≤Lim:=by simp only[Lim] at hv ⊢;omega
 refine zi.go ir91 ck91 (Al4 _) fun KP Q hQ=>?_
 have w0:=WR.refl h
 cases has with
 | false =>
  simp(disch:=omega) only[zx,zm,zj,zv,zn,zk,zA,ir91,go_sem]
  refine za (zg.low (r:=.bool (eqd v zV)) (by
   have:=zua v hvb zV
   simpa[AV.strip,zfb,ztx,AV.strip1] using this)) ?_
  simp(disch:=omega) only[go_sem]
  refine zu (Yn _) w0 (by omega) (by omega) (by omega) fun o2 l2 H2 w2 _=>?_
  simp(disch:=omega) only[go_sem]
  exact hQ _ _ H2 H2 [] nofun rfl (Low.refl _) ⟨rfl,w2.fin (by simp) (fun _=>by simp[tDf]) (by omega)⟩
 | true =>
  simp(disch:=omega) only[zx,zm,zj,zv,zn,zk,zA,ir91,go_sem]
  refine zu (y8 [61] _) w0 (by omega) (by omega) (by omega) fun o2 l2 H2 w2 _=>?_
  simp(disch:=omega) only[zx,zm,zj,zv,zn,zk,zA,go_sem]
  refine zu (znR v hw hv true) w2 (by omega) (by omega) (by omega) fun o3 l3 H3 w3 _=>?_
  simp(disch:=omega) only[go_sem]
  exact hQ _ _ H3 H3 [] nofun rfl (Low.refl _) ⟨rfl,w3.fin (by simp) (fun _=>by simp[tDf]) (by omega)⟩
theorem zpp (fixed:Bool) (m:List Mem) (hw:zif m) (hm:8*bMs m≤Lim):WC 175 [.bool fixed,.sl .no 6 (cMs m)] (2+6*bMs m) 0 32 (fun dp=>zbC dp fixed m) (zkj m):=by
 intro H w o l ok dp h h0 h1 hb
 have hml:=y5 m
 have hcl:=yS m
 refine zi.go ir175 ck175 (Al4 _) fun KP Q hQ=>?_
 have w0:=WR.refl h
 by_cases hz:m.length=0
 ·have hz':((m.length:Int)=0)=True:=eq_true (by omega)
  simp(disch:=omega) only[ir175,hcl,hz',go_sem]
  have em:=zib.1 hz
  subst em
  exact hQ _ _ H H [] nofun rfl (Low.refl _) ⟨rfl,w0.fin rfl (fun _=>rfl) (by omega)⟩
 ·have hz':¬ ((m.length:Int)=0):=by omega
  simp(disch:=omega) only[ir175,hcl,hz',go_sem]
  refine zu (y8 [40] _) w0 (by omega) (by omega) (by omega) fun o2 l2 H2 w2 _=>?_
  simp(disch:=omega) only[hcl,go_sem]
  refine zf m 16 (fun x:Own×List Tok=>[]) (fun done rest x H'=>WR H o w l ok dp (1+6*bMs done) (zbC dp fixed done) (pk [40]::zaJ done) H' x.1 x.2) (o2,l2) (by simp(disch:=omega) only[go_sem]) (w2.cast (by omega) rfl rfl) ?_ ?_
  ·rintro⟨o3,l3⟩ H3 J w3 hlt
   simp only at w3
   simp(disch:=omega) only[hcl,hlt,go_sem]
   refine zu (y8 [41] _) w3 (by omega) (by omega) (by omega) fun o4 l4 H4 w4 _=>?_
   simp(disch:=omega) only[go_sem]
   exact hQ _ _ H4 H4 [] nofun rfl (Low.refl _) ⟨rfl,w4.fin (by simp) (fun _=>by unfold zkj;rw[if_neg hz];rfl) (by omega)⟩
  ·rintro done x rest ⟨o3,l3⟩ H3 J hd hlt hlt2 w3 hJ
   simp only at w3
   have hg:=Zy hd
   have hbm:=za5 done x rest
   rw[← hd] at hbm
   have hmem:x∈m:=by rw[hd];simp
   obtain⟨s,v⟩:=x
   have hwv:=zgN hw s v hmem
   have hvp:=zcY v
   simp only[bM] at hbm
   have hm':=hm
   simp only[Lim] at hm'
   have hbw:b0 w=b0 w:=rfl
   simp(disch:=omega) only[zx,zm,zj,zv,zn,zk,zA,hcl,hlt,hg,go_sem]
   refine zc fun b hb=>?_
   have hbw:b≠w:=fun e=>by subst e;rw[w3.here.cell] at hb;cases hb
   have w4:=w3.alloc (x:=.cells (.str s::cV v)) hb
   have hbc:(H3.upd b (.cells (.str s::cV v))) b=some (.cells (.str s::cV v)):=upd_same ..
   simp(disch:=omega) only[zx,zm,zj,zv,zn,zk,zA,go_sem]
   refine zu (yA s (by simp only[Lim];omega)) w4 (by omega) (by omega) (by omega) fun o5 l5 H5 w5 s5=>?_
   have hb5:=s5.box w4.here.own hbc hbw
   simp(disch:=omega) only[zx,zm,zj,zv,zn,zk,zA,hb5,go_sem]
   refine zu (y8 [58] _) w5 (by omega) (by omega) (by omega) fun o6 l6 H6 w6 s6=>?_
   have hb6:=s6.box w5.here.own hb5 hbw
   simp(disch:=omega) only[zx,zm,zj,zv,zn,zk,zA,hb6,go_sem]
   refine zu (znR v hwv (by simp only[Lim];omega) fixed) w6 (by omega) (by omega) (by omega) fun o7 l7 H7 w7 s7=>?_
   simp(disch:=omega) only[wrap64,go_sem]
   exact goJ (hJ (o7,l7) H7 (w7.cast (by rw[za5 done (.mk s v) []];simp only[bM,bMs];omega) (by simp[zbC,znV,YU]) (by rw[zi0];simp[zaJ,zqt,wk,pk]))) (by simp(disch:=omega) only[go_sem])
theorem zdd {t:TyD} (h:zO t=true):0≤t.lists∧t.lists≤4∧0≤t.musts∧t.musts<32:=by
 simp only[zO,Al0,yH] at h
 obtain⟨h1,h2,h3,h4,h5⟩:=h
 have:(2:Int) ^ (t.lists.toNat+1)≤2 ^ 5:=by exact_mod_cast Nat.pow_le_pow_right (by decide) (by omega)
 refine⟨h2,h3,h4,?_⟩
 have e:(2:Int) ^ 5=32:=by decide
 omega
def zom (m:Int):Bool:=decide (m % 2=1)
theorem zw3 (nm:List UInt8) (ls ms:Int) (h0:0≤ms) (h1:ms<64):zg Tryz.prog 228 [.agg [.str nm,.int .i64 ls,.int .i64 ms],.int .i64 0] (.bool (zom ms)):=by
 refine zg.go ir228 ck228 (Al4 _) fun KP Q hQ=>?_
 have hbit:=znD ms 0 (by omega)
 simp only[Int.pow_zero,Int.ediv_one] at hbit
 have ha:=and1 h0 h1
 by_cases hbt:ms % 2=1
 ·have hbb:zom ms=true:=by simp[zom,hbt]
  rw[hbb] at hQ
  simp(disch:=omega) only[ir228,hbit,ha,hbt,steps,st2,pev,rev,oev,yJ,yR,Zg,Zf,bound,yi,mm2,mk,zH,AV.cells,AV.boxable,AV.one,AV.strip1,AV.strip2,yh,yc,Nat.reduceEqDiff,reduceCtorEq,↓reduceIte,Nat.reduceAdd,Int.reduceNeg,Nat.reduceLeDiff,Int.reduceToNat,Int.reduceEq,Int.reduceLT,Int.reduceLE,Int.reduceAdd,Io,Im,If,Il,Jt,Jf,AC.rg,Jm,Jl,Ja,Fm,Fl,Fa,Imv,Imb,Iai,Iei,Igi,Isi,Ipf,Ipt,Ilb,Iia,Ilt,Iap,Ink,Iln,Ils,Iad,Iex,Ibx,Ing]
  exact hQ _ _ _ _ nofun rfl (by simp[zd,ze,AV.strip,AV.strip1])
 ·have hbb:zom ms=false:=by simp[zom,hbt]
  rw[hbb] at hQ
  simp(disch:=omega) only[ir228,hbit,ha,hbt,steps,st2,pev,rev,oev,yJ,yR,Zg,Zf,bound,yi,mm2,mk,zH,AV.cells,AV.boxable,AV.one,AV.strip1,AV.strip2,yh,yc,Nat.reduceEqDiff,reduceCtorEq,↓reduceIte,Nat.reduceAdd,Int.reduceNeg,Nat.reduceLeDiff,Int.reduceToNat,Int.reduceEq,Int.reduceLT,Int.reduceLE,Int.reduceAdd,Io,Im,If,Il,Jt,Jf,AC.rg,Jm,Jl,Ja,Fm,Fl,Fa,Imv,Imb,Iai,Iei,Igi,Isi,Ipf,Ipt,Ilb,Iia,Ilt,Iap,Ink,Iln,Ils,Iad,Iex,Ibx,Ing]
  exact hQ _ _ _ _ nofun rfl (by simp[zd,ze,AV.strip,AV.strip1])
def isM (t:TyD):Bool:=zO t&&zom t.musts
theorem isC (t:TyD) (hs:t.nm.length≤Lim):zg Tryz.prog 199 [.agg (cTy t)] (.bool (isM t)):=by
 refine zg.go ir199 ck199 (Al4 _) fun KP Q hQ=>?_
 have hr:=zaO t hs
 have hf:=@zdd t
 obtain⟨nm,ls,ms⟩:=t
 simp only[cTy] at hr
 simp(disch:=omega) only[ir199,cTy,go_sem]
 refine za hr ?_
 cases h:zO ⟨nm,ls,ms⟩ with
 | false =>
  simp(disch:=omega) only[go_sem]
  exact hQ _ _ _ _ nofun rfl (by simp[zd,ze,AV.strip,AV.strip1,isM,h])
 | true =>
  obtain⟨h1,h2,h3,h4⟩:=hf h
  simp only at h1 h2 h3 h4
  simp(disch:=omega) only[go_sem]
  refine za (zw3 nm ls ms h3 (by omega)) ?_
  simp(disch:=omega) only[go_sem]
  exact hQ _ _ _ _ nofun rfl (by simp[zd,ze,AV.strip,AV.strip1,isM,h])
def zTy:TyD:=⟨[],0,0⟩
def YM (t:TyD):Option TyD:=if zO t=true∧t.lists≠0 then some ⟨t.nm,t.lists-1,t.musts / 2⟩ else none
theorem zue (t:TyD) (hs:t.nm.length≤Lim):zg Tryz.prog 232 [.agg (cTy t)] (.tup [.agg (cTy ((YM t).getD zTy)),.bool (YM t).isSome]):=by
 refine zg.go ir232 ck232 (Al4 _) fun KP Q hQ=>?_
 have hr:=zaO t hs
 have hf:=@zdd t
 obtain⟨nm,ls,ms⟩:=t
 simp only[cTy] at hr
 have fin:∀ o,YM ⟨nm,ls,ms⟩=o→∀ ρ H vs,zG ρ H ir232.res=some vs→(zd vs).strip=.tup [.agg (cTy (o.getD zTy)),.bool o.isSome]→Q .ret ρ H:=fun o e ρ H vs h1 h2=>hQ _ ρ H vs nofun h1 (by rw[h2,e])
 simp(disch:=omega) only[ir232,cTy,steps,st2,pev,rev,oev,yJ,yR,Zg,Zf,bound,yi,mm2,mk,zH,AV.cells,AV.boxable,AV.one,AV.strip1,AV.strip2,yh,yc,Nat.reduceEqDiff,reduceCtorEq,↓reduceIte,Nat.reduceAdd,Int.reduceNeg,Nat.reduceLeDiff,Int.reduceToNat,Int.reduceEq,Int.reduceLT,Int.reduceLE,Int.reduceAdd,Io,Im,If,Il,Jt,Jf,AC.rg,Jm,Jl,Ja,Fm,Fl,Fa,Imv,Imb,Iai,Iei,Igi,Isi,Ipf,Ipt,Ilb,Iia,Ilt,Iap,Ink,Iln,Ils,Iad,Iex,Ibx,Ing]
 refine zc fun b2 hb2=>?_
 simp(disch:=omega) only[steps,st2,pev,rev,oev,yJ,yR,Zg,Zf,bound,yi,mm2,mk,zH,AV.cells,AV.boxable,AV.one,AV.strip1,AV.strip2,yh,yc,Nat.reduceEqDiff,reduceCtorEq,↓reduceIte,Nat.reduceAdd,Int.reduceNeg,Nat.reduceLeDiff,Int.reduceToNat,Int.reduceEq,Int.reduceLT,Int.reduceLE,Int.reduceAdd]
 refine za hr ?_
 cases h:zO ⟨nm,ls,ms⟩ with
 | false =>
  simp(disch:=omega) only[steps,st2,pev,rev,oev,yJ,yR,Zg,Zf,bound,yi,mm2,mk,zH,AV.cells,AV.boxable,AV.one,AV.strip1,AV.strip2,yh,yc,Nat.reduceEqDiff,reduceCtorEq,↓reduceIte,Nat.reduceAdd,Int.reduceNeg,Nat.reduceLeDiff,Int.reduceToNat,Int.reduceEq,Int.reduceLT,Int.reduceLE,Int.reduceAdd]
  exact fin none (by simp[YM,h]) _ _ [.agg [.str [],.int .i64 0,.int .i64 0],.bool false] (by simp(disch:=omega) only[ir232,zG,Zk,steps,st2,pev,rev,oev,yJ,yR,Zg,Zf,bound,yi,mm2,mk,zH,AV.cells,AV.boxable,AV.one,AV.strip1,AV.strip2,yh,yc,Nat.reduceEqDiff,reduceCtorEq,↓reduceIte,Nat.reduceAdd,Int.reduceNeg,Nat.reduceLeDiff,Int.reduceToNat,Int.reduceEq,Int.reduceLT,Int.reduceLE,Int.reduceAdd,Io,Im,If,Il,Jt,Jf,AC.rg,Jm,Jl,Ja,Fm,Fl,Fa,Imv,Imb,Iai,Iei,Igi,Isi,Ipf,Ipt,Ilb,Iia,Ilt,Iap,Ink,Iln,Ils,Iad,Iex,Ibx,Ing]) rfl
 | true =>
  obtain⟨h1,h2,h3,h4⟩:=hf h
  simp only at h1 h2 h3 h4
  by_cases hz:ls=0
  ·simp(disch:=omega) only[hz,steps,st2,pev,rev,oev,yJ,yR,Zg,Zf,bound,yi,mm2,mk,zH,AV.cells,AV.boxable,AV.one,AV.strip1,AV.strip2,yh,yc,Nat.reduceEqDiff,reduceCtorEq,↓reduceIte,Nat.reduceAdd,Int.reduceNeg,Nat.reduceLeDiff,Int.reduceToNat,Int.reduceEq,Int.reduceLT,Int.reduceLE,Int.reduceAdd]
   exact fin none (by simp[YM,hz]) _ _ [.agg [.str [],.int .i64 0,.int .i64 0],.bool false] (by simp(disch:=omega) only[ir232,zG,Zk,steps,st2,pev,rev,oev,yJ,yR,Zg,Zf,bound,yi,mm2,mk,zH,AV.cells,AV.boxable,AV.one,AV.strip1,AV.strip2,yh,yc,Nat.reduceEqDiff,reduceCtorEq,↓reduceIte,Nat.reduceAdd,Int.reduceNeg,Nat.reduceLeDiff,Int.reduceToNat,Int.reduceEq,Int.reduceLT,Int.reduceLE,Int.reduceAdd,Io,Im,If,Il,Jt,Jf,AC.rg,Jm,Jl,Ja,Fm,Fl,Fa,Imv,Imb,Iai,Iei,Igi,Isi,Ipf,Ipt,Ilb,Iia,Ilt,Iap,Ink,Iln,Ils,Iad,Iex,Ibx,Ing]) rfl
  ·have e1:IntKind.wrap .i64 (ls-1)=ls-1:=wrap64 (by omega) (by omega)
   have e2:ms.fdiv (2 ^ min 1 IntKind.i64.bits)=ms / 2:=by have:=znD ms 1 (by omega);simpa using this
   simp(disch:=omega) only[hz,e1,e2,steps,st2,pev,rev,oev,yJ,yR,Zg,Zf,bound,yi,mm2,mk,zH,AV.cells,AV.boxable,AV.one,AV.strip1,AV.strip2,yh,yc,Nat.reduceEqDiff,reduceCtorEq,↓reduceIte,Nat.reduceAdd,Int.reduceNeg,Nat.reduceLeDiff,Int.reduceToNat,Int.reduceEq,Int.reduceLT,Int.reduceLE,Int.reduceAdd]
   exact fin (some ⟨nm,ls-1,ms / 2⟩) (by simp[YM,hz,h]) _ _ [.agg [.str nm,.int .i64 (ls-1),.int .i64 (ms / 2)],.bool true] (by simp(disch:=omega) only[ir232,zG,Zk,steps,st2,pev,rev,oev,yJ,yR,Zg,Zf,bound,yi,mm2,mk,zH,AV.cells,AV.boxable,AV.one,AV.strip1,AV.strip2,yh,yc,Nat.reduceEqDiff,reduceCtorEq,↓reduceIte,Nat.reduceAdd,Int.reduceNeg,Nat.reduceLeDiff,Int.reduceToNat,Int.reduceEq,Int.reduceLT,Int.reduceLE,Int.reduceAdd,Io,Im,If,Il,Jt,Jf,AC.rg,Jm,Jl,Ja,Fm,Fl,Fa,Imv,Imb,Iai,Iei,Igi,Isi,Ipf,Ipt,Ilb,Iia,Ilt,Iap,Ink,Iln,Ils,Iad,Iex,Ibx,Ing]) rfl
def zmS (b a:Int):Bool:=decide (IntKind.i64.wrap ((BitVec.ofInt IntKind.i64.bits b &&& ~~~BitVec.ofInt IntKind.i64.bits a).toNat:Int)=0)
def za2 (a b:TyD):Bool:=zO a&&(zO b&&(decide (a.nm=b.nm)&&(decide (a.lists=b.lists)&&zmS b.musts a.musts)))
theorem zmb (a b:TyD) (ha:a.nm.length≤Lim) (hb:b.nm.length≤Lim):zg Tryz.prog 207 [.agg (cTy a),.agg (cTy b)] (.bool (za2 a b)):=by
 have hra:=zaO a ha
 have hrb:=zaO b hb
 obtain⟨an,al,am⟩:=a
 obtain⟨bn,bl,bm⟩:=b
 simp only[cTy] at hra hrb ⊢
 refine zg.go ir207 ck207 (Al4 _) fun KP Q hQ=>?_
 simp(disch:=omega) only[ir207,go_sem]
 refine za hra ?_
 cases h1:zO ⟨an,al,am⟩ with
 | false =>
  simp(disch:=omega) only[go_sem]
  exact hQ _ _ _ _ nofun rfl (by simp[zd,ze,AV.strip,AV.strip1,za2,h1])
 | true =>
  simp(disch:=omega) only[go_sem]
  refine za hrb ?_
  cases h2:zO ⟨bn,bl,bm⟩ with
  | false =>
   simp(disch:=omega) only[go_sem]
   exact hQ _ _ _ _ nofun rfl (by simp[zd,ze,AV.strip,AV.strip1,za2,h1,h2])
  | true =>
   by_cases hn:an=bn
   case neg =>
    simp(disch:=omega) only[hn,go_sem]
    exact hQ _ _ _ _ nofun rfl (by simp[zd,ze,AV.strip,AV.strip1,za2,h1,h2,hn])
   by_cases hl:al=bl
   case neg =>
    simp(disch:=omega) only[hn,hl,go_sem]
    exact hQ _ _ _ _ nofun rfl (by simp[zd,ze,AV.strip,AV.strip1,za2,h1,h2,hn,hl])
   subst hn
   subst hl
   have e:za2 ⟨an,al,am⟩ ⟨an,al,bm⟩=zmS bm am:=by simp[za2,h1,h2]
   rw[e] at hQ
   simp(disch:=omega) only[go_sem]
   exact hQ _ _ _ [.bool (zmS bm am)] nofun rfl rfl
def zaF (t:TyD):TyD:=if zO t=true then ⟨t.nm,t.lists,IntKind.i64.wrap ((BitVec.ofInt IntKind.i64.bits t.musts &&& ~~~BitVec.ofInt IntKind.i64.bits 1).toNat:Int)⟩ else t
theorem zsx (t:TyD) (ht:t.nm.length≤Lim):zg Tryz.prog 208 [.agg (cTy t)] (.agg (cTy (zaF t))):=by
 have hr:=zaO t ht
 obtain⟨nm,ls,ms⟩:=t
 simp only[cTy] at hr ⊢
 refine zg.go ir208 ck208 (Al4 _) fun KP Q hQ=>?_
 simp(disch:=omega) only[ir208,steps,st2,pev,rev,oev,yJ,yR,Zg,Zf,bound,yi,mm2,mk,zH,AV.cells,AV.boxable,AV.one,AV.strip1,AV.strip2,yh,yc,Nat.reduceEqDiff,reduceCtorEq,↓reduceIte,Nat.reduceAdd,Int.reduceNeg,Nat.reduceLeDiff,Int.reduceToNat,Int.reduceEq,Int.reduceLT,Int.reduceLE,Int.reduceAdd,Io,Im,If,Il,Jt,Jf,AC.rg,Jm,Jl,Ja,Fm,Fl,Fa,Imv,Imb,Iai,Iei,Igi,Isi,Ipf,Ipt,Ilb,Iia,Ilt,Iap,Ink,Iln,Ils,Iad,Iex,Ibx,Ing]
 refine zc fun b1 hb1=>?_
 simp(disch:=omega) only[steps,st2,pev,rev,oev,yJ,yR,Zg,Zf,bound,yi,mm2,mk,zH,AV.cells,AV.boxable,AV.one,AV.strip1,AV.strip2,yh,yc,Nat.reduceEqDiff,reduceCtorEq,↓reduceIte,Nat.reduceAdd,Int.reduceNeg,Nat.reduceLeDiff,Int.reduceToNat,Int.reduceEq,Int.reduceLT,Int.reduceLE,Int.reduceAdd]
 refine zc fun b2 hb2=>?_
 have hne:=yF hb2
 simp(disch:=omega) only[hne,Ne.symm hne,steps,st2,pev,rev,oev,yJ,yR,Zg,Zf,bound,yi,mm2,mk,zH,AV.cells,AV.boxable,AV.one,AV.strip1,AV.strip2,yh,yc,Nat.reduceEqDiff,reduceCtorEq,↓reduceIte,Nat.reduceAdd,Int.reduceNeg,Nat.reduceLeDiff,Int.reduceToNat,Int.reduceEq,Int.reduceLT,Int.reduceLE,Int.reduceAdd]
 refine za hr ?_
 cases h1:zO ⟨nm,ls,ms⟩ with
 | false =>
  simp(disch:=omega) only[hne,Ne.symm hne,steps,st2,pev,rev,oev,yJ,yR,Zg,Zf,bound,yi,mm2,mk,zH,AV.cells,AV.boxable,AV.one,AV.strip1,AV.strip2,yh,yc,Nat.reduceEqDiff,reduceCtorEq,↓reduceIte,Nat.reduceAdd,Int.reduceNeg,Nat.reduceLeDiff,Int.reduceToNat,Int.reduceEq,Int.reduceLT,Int.reduceLE,Int.reduceAdd]
  exact hQ _ _ _ [.agg [.str nm,.int .i64 ls,.int .i64 ms]] nofun (by simp(disch:=omega) only[ir208,zG,Zk,hne,Ne.symm hne,steps,st2,pev,rev,oev,yJ,yR,Zg,Zf,bound,yi,mm2,mk,zH,AV.cells,AV.boxable,AV.one,AV.strip1,AV.strip2,yh,yc,Nat.reduceEqDiff,reduceCtorEq,↓reduceIte,Nat.reduceAdd,Int.reduceNeg,Nat.reduceLeDiff,Int.reduceToNat,Int.reduceEq,Int.reduceLT,Int.reduceLE,Int.reduceAdd,Io,Im,If,Il,Jt,Jf,AC.rg,Jm,Jl,Ja,Fm,Fl,Fa,Imv,Imb,Iai,Iei,Igi,Isi,Ipf,Ipt,Ilb,Iia,Ilt,Iap,Ink,Iln,Ils,Iad,Iex,Ibx,Ing]) (by simp[zaF,h1];rfl)
 | true =>
  simp(disch:=omega) only[hne,Ne.symm hne,steps,st2,pev,rev,oev,yJ,yR,Zg,Zf,bound,yi,mm2,mk,zH,AV.cells,AV.boxable,AV.one,AV.strip1,AV.strip2,yh,yc,Nat.reduceEqDiff,reduceCtorEq,↓reduceIte,Nat.reduceAdd,Int.reduceNeg,Nat.reduceLeDiff,Int.reduceToNat,Int.reduceEq,Int.reduceLT,Int.reduceLE,Int.reduceAdd]
  exact hQ _ _ _ [.agg [.str nm,.int .i64 ls,.int .i64 (IntKind.i64.wrap ((BitVec.ofInt IntKind.i64.bits ms &&& ~~~BitVec.ofInt IntKind.i64.bits 1).toNat:Int))]] nofun (by simp(disch:=omega) only[ir208,zG,Zk,hne,Ne.symm hne,steps,st2,pev,rev,oev,yJ,yR,Zg,Zf,bound,yi,mm2,mk,zH,AV.cells,AV.boxable,AV.one,AV.strip1,AV.strip2,yh,yc,Nat.reduceEqDiff,reduceCtorEq,↓reduceIte,Nat.reduceAdd,Int.reduceNeg,Nat.reduceLeDiff,Int.reduceToNat,Int.reduceEq,Int.reduceLT,Int.reduceLE,Int.reduceAdd,Io,Im,If,Il,Jt,Jf,AC.rg,Jm,Jl,Ja,Fm,Fl,Fa,Imv,Imb,Iai,Iei,Igi,Isi,Ipf,Ipt,Ilb,Iia,Ilt,Iap,Ink,Iln,Ils,Iad,Iex,Ibx,Ing]) (by simp[zaF,h1];rfl)
def nmW (n:List UInt8) (p:VarD):Bool:=decide (p.nm=n)
def zW:VarD:=⟨[],⟨[],0,0⟩,false,zV⟩
def z6 (l:List VarD) (n:List UInt8):Option VarD:=l.find? (nmW n)
theorem zaP (x:VarD):(cW x).length=10:=by obtain⟨nm,t,h,d⟩:=x;cases d;rfl
theorem zZ (nm:List UInt8) (tn:List UInt8) (tl tm:Int) (h:Bool) (k n:Int) (s:List UInt8) (l:List Val) (m:List Mem):cW ⟨nm,⟨tn,tl,tm⟩,h,.mk k n s l m⟩=[.str nm,.str tn,.int .i64 tl,.int .i64 tm,.bool h,.int .i64 k,.int .i64 n,.str s,.sl .no 5 (cVs l),.sl .no 6 (cMs m)]:=rfl
theorem zr0 (p:VarD) (n:List UInt8):zg Tryz.prog 198 [.agg (cW p),.view [.str n]] (.bool (nmW n p)):=by
 obtain⟨nm,⟨a,b,c⟩,h,⟨k,q,s,l,m⟩⟩:=p
 refine zg.go ir198 ck198 (Al4 _) fun KP Q hQ=>?_
 simp(disch:=omega) only[ir198,zZ,go_sem]
 exact hQ _ _ _ _ nofun rfl (by simp[zd,ze,AV.strip,AV.strip1,nmW])
theorem zeb (l:List VarD) (n:List UInt8) (hl:l.length≤Lim):zg Tryz.prog 152 [.sl .no 10 (cWs l),.str n] (.tup [.agg (cW ((z6 l n).getD zW)),.bool (z6 l n).isSome]):=by
 refine zg.go ir152 ck152 (Al4 _) fun KP Q hQ=>?_
 have hlb:=hl
 simp only[Lim] at hlb
 have hx:=zu1 cW zaP l 198 [.view [.str n]] (nmW n) hl (by kernel_rfl) fun x _=>zr0 x n
 have fin:∀ o,z6 l n=o→∀ ρ H vs,zG ρ H ir152.res=some vs→(zd vs).strip=.tup [.agg (cW (o.getD zW)),.bool o.isSome]→Q .ret ρ H:=fun o e ρ H vs h1 h2=>hQ _ ρ H vs nofun h1 (by rw[h2,e])
 simp(disch:=omega) only[ir152,go_sem]
 refine zc fun b4 hb4=>?_
 simp(disch:=omega) only[go_sem]
 refine za hx ?_
 rcases zaw (nmW n) l 0 with ⟨a,x,r,h1,h2,h3,h4⟩|⟨h1,h2⟩
 ·rw[h4,Int.zero_add]
  have hg:=Z9 h1
  have h6:=Zj l
  have h5:(a.length:Int)<l.length:=by rw[h1,Al5,Al2];omega
  have h7:¬ ((a.length:Int)<0):=by omega
  have e:z6 l n=some x:=h3
  obtain⟨nm,⟨t1,t2,t3⟩,h,⟨k,q,s,l2,m⟩⟩:=x
  rw[zZ] at hg
  simp(disch:=omega) only[hg,h6,h5,h7,go_sem]
  exact fin _ e _ _ [.agg (cW ⟨nm,⟨t1,t2,t3⟩,h,.mk k q s l2 m⟩),.bool true] (by simp(disch:=omega) only[ir152,zG,Zk,zZ,go_sem]) rfl
 ·rw[h2]
  have e:z6 l n=none:=h1
  simp(disch:=omega) only[go_sem]
  exact fin _ e _ _ [.agg [.str [],.str [],.int .i64 0,.int .i64 0,.bool false,.int .i64 0,.int .i64 0,.str [],.sl .nil 5 [],.sl .nil 6 []],.bool false] (by simp(disch:=omega) only[ir152,zG,Zk,go_sem]) rfl
def zhY (p:VarD):Bool:=isM p.t&&!p.has
theorem zu7 (p:VarD) (hl:p.t.nm.length≤Lim):zg Tryz.prog 155 [.agg (cW p)] (.bool (zhY p)):=by
 have hi:=isC p.t hl
 obtain⟨nm,⟨a,b,c⟩,h,⟨k,q,s,l,m⟩⟩:=p
 simp only[cTy] at hi
 refine zg.go ir155 ck155 (Al4 _) fun KP Q hQ=>?_
 simp(disch:=omega) only[ir155,zZ,go_sem]
 refine za hi ?_
 cases h1:isM ⟨a,b,c⟩ with
 | false =>
  simp(disch:=omega) only[go_sem]
  exact hQ _ _ _ _ nofun rfl (by simp[zd,ze,AV.strip,AV.strip1,zhY,h1])
 | true =>
  simp(disch:=omega) only[go_sem]
  exact hQ _ _ _ _ nofun rfl (by simp[zd,ze,AV.strip,AV.strip1,zhY,h1])
open Classical in
noncomputable def zam (s:SchD) (t:TyD) (v:Val) (w:Bool):Bool:=if h:∃ r:Bool,zg Tryz.prog 205 [.agg (zl s),.agg (cTy t),.agg (cV v),.bool w] (.bool r) then Classical.choose h else false
theorem zcs {s:SchD} {t:TyD} {v:Val} {w:Bool} (h:∃ r:Bool,zg Tryz.prog 205 [.agg (zl s),.agg (cTy t),.agg (cV v),.bool w] (.bool r)):zg Tryz.prog 205 [.agg (zl s),.agg (cTy t),.agg (cV v),.bool w] (.bool (zam s t v w)):=by
 unfold zam;rw[dif_pos h];exact Classical.choose_spec h
def ziC (n:List UInt8):Mem→Bool
 | .mk x _=>decide (x=n)
noncomputable def zmR (s:SchD) (ps:List VarD):List Mem→List Mem→Bool
 | _,[]=>true
 | seen,.mk n v::r=>(match z6 ps n with|none=>false|some p=>zam s p.t v false)&&(!seen.any (ziC n)&&zmR s ps (seen++[.mk n v]) r)
def zdM (ps:List VarD) (m:List Mem):Bool:=ps.all fun p=>(zau p.nm m).2||!zhY p
noncomputable def zdP (s:SchD) (ps:List VarD):Val→Bool
 | .mk k _ _ _ m=>decide (k=7)&&(zmR s ps [] m&&zdM ps m)
theorem zss (x:Mem) (n:List UInt8) (b:Nat) (rest:List AV) (H:zb) (hb:H b=some (.cells (.str n::rest))):zi Tryz.prog 261 [.agg (cM x),.ptr b 0] H (At (.bool (ziC n x)) H):=by
 obtain⟨xn,⟨k,q,s,l,m⟩⟩:=x
 refine zi.go ir261 ck261 (Al4 _) fun KP Q hQ=>?_
 simp(disch:=omega) only[ir261,zA,ye,hb,go_sem]
 exact hQ _ _ _ _ _ nofun rfl (Low.refl _) ⟨by simp[zd,ze,AV.strip,AV.strip1,ziC],rfl⟩
theorem zv8 (s : SchD) (ps : List VarD) (v : Val) (hb : bV v ≤ Lim) (hp : ps.length ≤ Lim) (hpt : ∀ p ∈ ps, p.t.nm.length ≤ Lim)
    (hm : ∀ k q st l m, v = .mk k q st l m → ∀ n x, Mem.mk n x ∈ m → ∀ t : TyD, t.nm.length ≤ Lim → zg Tryz.prog 205 [.agg (zl s), .agg (cTy t), .agg (cV x), .bool false] (.bool (zam s t x false))) :
    zg Tryz.prog 247 [.agg (zl s), .sl .no 10 (cWs ps), .agg (cV v)] (.bool (zdP s ps v)) := by
  obtain ⟨k, q, st, l, m⟩ := v
  replace hm := hm k q st l m rfl
  have hb' : 1 + st.length + bVs l + bMs m ≤ 1099511627776 := hb
  have hml := y5 m
  have h1 := yS m
  have h2 := Zj ps
  have hp' := hp
  simp only [Lim] at hp'
  obtain ⟨sd, sq, sm⟩ := s
  generalize hS : (⟨sd, sq, sm⟩ : SchD) = s at *
  have hcs : zl s = [.sl .no 6 (cEs sd), .str sq, .str sm] := by rw [← hS]; rfl
  simp only [hcs] at hm ⊢
  refine zg.go ir247 ck247 (Al4 _) fun KP Q hQ => ?_
  have fin : ∀ r, zdP s ps (.mk k q st l m) = r → ∀ ρ H, zG ρ H ir247.res = some [.bool r] → Q .ret ρ H := fun r e ρ H h1 => hQ _ ρ H _ nofun h1 (by rw [e]; rfl)
  by_cases k7 : k = 7
  case neg =>
    have e : zdP s ps (.mk k q st l m) = false := by simp [zdP, k7]
    simp (disch := omega) only [ir247, ye, k7, go_sem]
    exact fin _ e _ _ rfl
  subst k7
  simp (disch := omega) only [ir247, ye, h1, go_sem]
  refine zf m 21 (fun _ : Unit => []) (fun done rest _ H => zmR s ps done rest = zmR s ps [] m) () (by simp (disch := omega) only [go_sem]) rfl ?_ ?_
  · rintro _ H J hn hlt
    simp only [zmR] at hn
    simp (disch := omega) only [h1, hlt, h2, go_sem]
    refine zf ps 55 (fun _ : Unit => []) (fun done rest _ H => zdM rest m = zdM ps m) () (by simp (disch := omega) only [go_sem]) rfl ?_ ?_
    · rintro _ H J hn2 hlt
      have h0 : zdM ps m = true := by rw [← hn2]; rfl
      have e : zdP s ps (.mk 7 q st l m) = true := by simp [zdP, ← hn, h0]
      simp (disch := omega) only [h2, hlt, go_sem]
      exact fin _ e _ _ rfl
    · rintro done x rest _ H J hd hlt _ hn2 hJ
      have hg := Z9 hd
      have hx := zu7 x (hpt x (by rw [hd]; simp))
      have hG := zsA x.nm m (by simp only [Lim]; omega)
      have hstep : zdM (x :: rest) m = (((zau x.nm m).2 || !zhY x) && zdM rest m) := by simp [zdM]
      rw [hstep] at hn2
      obtain ⟨nm, ⟨t1, t2, t3⟩, hh, ⟨xk, xq, xs, xl, xm⟩⟩ := x
      rw [zZ] at hg hx
      simp only at hG hn2
      simp (disch := omega) only [h2, hlt, hg, go_sem]
      refine zc fun b12 hb12 => ?_
      simp (disch := omega) only [go_sem]
      refine za hG ?_
      generalize zau nm m = g at *
      obtain ⟨⟨gk, gq, gs, gl, gm⟩, gb⟩ := g
      simp (disch := omega) only [ye, go_sem]
      refine zc fun b13 hb13 => ?_
      have hne := yF hb13
      cases gb with
      | true =>
        simp only [Bool.true_or, Bool.true_and] at hn2
        simp (disch := omega) only [hne, Ne.symm hne, go_sem]
        exact goJ (hJ () _ hn2) (by simp (disch := omega) only [wrap64, go_sem])
      | false =>
        simp only [Bool.false_or] at hn2
        simp (disch := omega) only [hne, Ne.symm hne, go_sem]
        refine za hx ?_
        cases hr : zhY ⟨nm, ⟨t1, t2, t3⟩, hh, .mk xk xq xs xl xm⟩ with
        | true =>
          rw [hr] at hn2
          have e : zdP s ps (.mk 7 q st l m) = false := by simp [zdP, ← hn2]
          simp (disch := omega) only [go_sem]
          exact fin _ e _ _ rfl
        | false =>
          rw [hr] at hn2
          simp only [Bool.not_false, Bool.true_and] at hn2
          simp (disch := omega) only [go_sem]
          exact goJ (hJ () _ hn2) (by simp (disch := omega) only [wrap64, go_sem])
  · rintro done x rest _ H J hd hlt _ hn hJ
    have hg := Zy hd
    obtain ⟨n, x⟩ := x
    have hmx := hm n x (by rw [hd]; simp)
    have hP := zeb ps n hp
    have hdl : done.length ≤ Lim := by have : m.length = done.length + (rest.length + 1) := by rw [hd]; simp
                                       simp only [Lim]; omega
    have htk : (cMs m).take done.length = done.map cM := by rw [zbE, hd]; simp
    have hstep : zmR s ps done (.mk n x :: rest) = ((match z6 ps n with | none => false | some p => zam s p.t x false) && (!done.any (ziC n) && zmR s ps (done ++ [.mk n x]) rest)) := rfl
    rw [hstep] at hn
    obtain ⟨xk, xq, xs, xl, xm⟩ := x
    rw [zA, ye] at hg
    rw [ye] at hmx
    simp (disch := omega) only [h1, hlt, hg, go_sem]
    refine zc fun b8 hb8 => ?_
    simp (disch := omega) only [go_sem]
    refine za hP ?_
    cases hp2 : z6 ps n with
    | none =>
      rw [hp2] at hn
      have e : zdP s ps (.mk 7 q st l m) = false := by simp [zdP, ← hn]
      simp (disch := omega) only [Option.getD, Option.isSome, zW, zV, zZ, go_sem]
      refine zc fun b9 hb9 => ?_
      have hne := yF hb9
      simp (disch := omega) only [hne, Ne.symm hne, go_sem]
      exact fin _ e _ _ rfl
    | some p =>
      rw [hp2] at hn
      have hpl := hpt p (List.mem_of_find?_eq_some hp2)
      obtain ⟨pn, ⟨t1, t2, t3⟩, ph, ⟨pk, pq, ps2, pl, pm⟩⟩ := p
      have hf := hmx ⟨t1, t2, t3⟩ hpl
      simp only at hn
      simp only [cTy] at hf
      simp (disch := omega) only [Option.getD, Option.isSome, zZ, go_sem]
      refine zc fun b9 hb9 => ?_
      have hne := yF hb9
      simp (disch := omega) only [hne, Ne.symm hne, go_sem]
      refine za hf ?_
      cases hfv : zam s ⟨t1, t2, t3⟩ (.mk xk xq xs xl xm) false with
      | false =>
        rw [hfv] at hn
        have e : zdP s ps (.mk 7 q st l m) = false := by simp [zdP, ← hn]
        simp (disch := omega) only [go_sem]
        exact fin _ e _ _ rfl
      | true =>
        rw [hfv] at hn
        simp only [Bool.true_and] at hn
        have hle : (done.length : Int) ≤ m.length := by omega
        simp (disch := omega) only [h1, hle, htk, go_sem]
        refine zY (ztN cM zv done 261 [.ptr b8 0] (ziC n) _ hdl (by kernel_rfl) fun y _ => zss y n b8 _ _ (by rw [upd_ne (Ne.symm hne), upd_same])) ?_
        rintro _ _ ⟨_, rfl, rfl, rfl⟩
        cases ha : done.any (ziC n) with
        | true =>
          rw [ha] at hn
          have e : zdP s ps (.mk 7 q st l m) = false := by simp [zdP, ← hn]
          simp (disch := omega) only [ZU, ha, go_sem]
          exact fin _ e _ _ rfl
        | false =>
          rw [ha] at hn
          simp (disch := omega) only [ZU, ha, go_sem]
          exact goJ (hJ () _ (by simpa using hn)) (by simp (disch := omega) only [wrap64, go_sem])
noncomputable def ziP (s:SchD) (name:List UInt8) (v:Val):Bool:=match yv s name,v with
 | none,_=>false
 | some d,.mk k n st l m=>if d.k=4 then decide (k=5)&&zL st d.parts else if d.k=5 then zdP s d.ps (.mk k n st l m) else if d.k≠0 then false
  else if name=[73,110,116] then decide (k=2)&&(decide (-2147483648≤n)&&decide (n≤2147483647)) else if name=[83,116,114,105,110,103] then decide (k=4) else if name=[66,111,111,108,101,97,110] then decide (k=1) else if name=[73,68] then decide (k=4)||decide (k=2) else false
theorem YD {p:VarD}:∀ {l:List VarD},p∈l→bW p≤bWs l
 | x::l,h=>by
  rcases List.mem_cons.1 h with rfl|h
  ·simp only[bWs,List.map_cons,List.sum_cons];omega
  ·have:=YD h;simp only[bWs,List.map_cons,List.sum_cons] at this ⊢;omega
theorem zvz (s:SchD) (name:List UInt8) (v:Val) (hs:zI s≤Lim) (hb:bV v≤Lim)
  (hm:∀ k q st l m,v=.mk k q st l m→∀ n x,Mem.mk n x∈m→∀ t:TyD,t.nm.length≤Lim→zg Tryz.prog 205 [.agg (zl s),.agg (cTy t),.agg (cV x),.bool false] (.bool (zam s t x false))) :
  zg Tryz.prog 233 [.agg (zl s),.str name,.agg (cV v)] (.bool (ziP s name v)):=by
 have hin:=fun ps h1 h2=>zv8 s ps v hb h1 h2 hm
 obtain⟨k,q,st,l,m⟩:=v
 have hf:=zeL s name (z7 hs)
 have hle:=@Yw s name
 have hsl:zI s≤1099511627776:=hs
 obtain⟨sd,sq,sm⟩:=s
 generalize hS:(⟨sd,sq,sm⟩:SchD)=s at *
 have hcs:zl s=[.sl .no 6 (cEs sd),.str sq,.str sm]:=by rw[← hS];rfl
 simp only[hcs,ye] at hf hin ⊢
 refine zg.go ir233 ck233 (Al4 _) fun KP Q hQ=>?_
 have fin:∀ r,ziP s name (.mk k q st l m)=r→∀ ρ H,zG ρ H ir233.res=some [.bool r]→Q .ret ρ H:=fun r e ρ H h1=>hQ _ ρ H _ nofun h1 (by rw[e];rfl)
 have e0:ziP s name (.mk k q st l m)=match yv s name with
  | none=>false
  | some d=>if d.k=4 then decide (k=5)&&zL st d.parts else if d.k=5 then zdP s d.ps (.mk k q st l m) else if d.k≠0 then false
   else if name=[73,110,116] then decide (k=2)&&(decide (-2147483648≤q)&&decide (q≤2147483647)) else if name=[83,116,114,105,110,103] then decide (k=4) else if name=[66,111,111,108,101,97,110] then decide (k=1) else if name=[73,68] then decide (k=4)||decide (k=2) else false:=by
  unfold ziP;cases yv s name<;>rfl
 simp(disch:=omega) only[ir233,go_sem]
 refine za hf ?_
 cases hfe:yv s name with
 | none =>
  rw[hfe] at e0
  simp(disch:=omega) only[Option.getD,Option.isSome,zE,yf,go_sem]
  refine zc fun b7 hb7=>?_
  simp(disch:=omega) only[go_sem]
  exact fin _ e0 _ _ rfl
 | some d =>
  rw[hfe] at e0
  obtain⟨_,_,hle1,hle2⟩:=hle hfe
  obtain⟨dk,dn,fs,fl,ps,pa⟩:=d
  simp only at e0 hle1 hle2
  have hps:=ZS ps
  have hpa:=yD pa
  by_cases k4:dk=4
  ·subst k4
   rw[if_pos rfl] at e0
   simp(disch:=omega) only[Option.getD,Option.isSome,yf,go_sem]
   refine zc fun b7 hb7=>?_
   by_cases k5:k=5
   ·subst k5
    simp(disch:=omega) only[go_sem]
    refine za (yE ps st (by simp only[Lim];omega)) ?_
    simp(disch:=omega) only[go_sem]
    exact fin _ (by rw[e0];simp) _ _ rfl
   ·simp(disch:=omega) only[k5,go_sem]
    exact fin false (by rw[e0];simp[k5]) _ _ rfl
  rw[if_neg k4] at e0
  by_cases k5:dk=5
  ·subst k5
   rw[if_pos rfl] at e0
   simp(disch:=omega) only[Option.getD,Option.isSome,yf,go_sem]
   refine zc fun b7 hb7=>?_
   simp(disch:=omega) only[go_sem]
   refine za (hin pa (by simp only[Lim];omega) fun p hp=>by have:=YD hp;simp only[bW] at this;simp only[Lim];omega) ?_
   simp(disch:=omega) only[go_sem]
   exact fin _ e0 _ _ rfl
  rw[if_neg k5] at e0
  by_cases k0:dk=0
  case neg =>
   rw[if_pos k0] at e0
   simp(disch:=omega) only[Option.getD,Option.isSome,yf,go_sem]
   refine zc fun b7 hb7=>?_
   simp(disch:=omega) only[k4,k5,k0,go_sem]
   exact fin _ e0 _ _ rfl
  subst k0
  rw[if_neg (by simp)] at e0
  simp(disch:=omega) only[Option.getD,Option.isSome,yf,go_sem]
  refine zc fun b7 hb7=>?_
  by_cases n1:name=[73,110,116]
  ·rw[if_pos n1] at e0
   have n1':=eq_true n1
   by_cases v2:k=2
   case neg =>
    simp(disch:=omega) only[n1',v2,go_sem]
    exact fin false (by rw[e0];simp[v2]) _ _ rfl
   subst v2
   by_cases v3:-2147483648≤q
   case neg =>
    simp(disch:=omega) only[n1',v3,go_sem]
    exact fin false (by rw[e0];simp[v3]) _ _ rfl
   simp(disch:=omega) only[n1',v3,go_sem]
   exact fin (decide (q≤2147483647)) (by rw[e0];simp[v3]) _ _ rfl
  rw[if_neg n1] at e0
  by_cases n2:name=[83,116,114,105,110,103]
  ·rw[if_pos n2] at e0
   have n2':=eq_true n2
   simp(disch:=omega) only[n1,n2',go_sem]
   exact fin _ e0 _ _ rfl
  rw[if_neg n2] at e0
  by_cases n3:name=[66,111,111,108,101,97,110]
  ·rw[if_pos n3] at e0
   have n3':=eq_true n3
   simp(disch:=omega) only[n1,n2,n3',go_sem]
   exact fin _ e0 _ _ rfl
  rw[if_neg n3] at e0
  by_cases n4:name=[73,68]
  ·rw[if_pos n4] at e0
   have n4':=eq_true n4
   by_cases v4:k=4
   ·simp(disch:=omega) only[n1,n2,n3,n4',v4,go_sem]
    exact fin true (by rw[e0];simp[v4]) _ _ rfl
   ·simp(disch:=omega) only[n1,n2,n3,n4',v4,go_sem]
    exact fin (decide (k=2)) (by rw[e0];simp[v4]) _ _ rfl
  rw[if_neg n4] at e0
  simp(disch:=omega) only[n1,n2,n3,n4,go_sem]
  exact fin _ e0 _ _ rfl
noncomputable def zqE (s:SchD) (t:TyD) (v:Val) (w:Bool):Bool:=match v with
 | .mk k n st l m=>if k=8 then zO t else if k=0 then zO t&&!isM t else if zO t=false then false else match YM t with
  | none=>ziP s t.nm (.mk k n st l m)
  | some it=>if k≠6 then !w&&zam s it (.mk k n st l m) false else l.all fun x=>zam s it x true
theorem zeW {t it:TyD} (h:YM t=some it):it.nm=t.nm∧0≤it.lists∧it.lists.toNat+1=t.lists.toNat:=by
 unfold YM at h
 split at h
 ·rename_i hc
  have:=zdd hc.1
  have h2:=hc.2
  cases h
  refine⟨rfl,?_,?_⟩
  ·show 0≤t.lists-1
   omega
  ·show (t.lists-1).toNat+1=t.lists.toNat
   omega
 ·cases h
theorem zj3 {v:Val}:∀ {l:List Val},v∈l→bV v≤bVs l
 | x::l,h=>by
  rcases List.mem_cons.1 h with rfl|h
  ·simp only[bVs];omega
  ·have:=zj3 h;simp only[bVs];omega
theorem zxj (s:SchD) (hs:zI s≤Lim):∀ v:Val,∀(n:Nat) (t:TyD) (w:Bool),t.lists.toNat≤n→bV v≤Lim→t.nm.length≤Lim→zg Tryz.prog 205 [.agg (zl s),.agg (cTy t),.agg (cV v),.bool w] (.bool (zqE s t v w)):=by
 refine Val.ind fun k q st l m ihl ihm=>?_
 have hll:=zaB l
 have h1:=YF l
 intro n
 induction n using Nat.strongRecOn with
 | _ n ih =>
 intro t w hn hb ht
 have hb':1+st.length+bVs l+bMs m≤1099511627776:=hb
 have hr:=zaO t ht
 have hi:=isC t ht
 have hit:=zue t ht
 have hbare:=zvz s t.nm (.mk k q st l m) hs hb fun k' q' st' l' m' e n' x hx t' ht'=>by
  cases e
  have hxb:bV x≤Lim:=by have:=ze4 hx;simp only[Lim];omega
  exact zcs ⟨_,ihm n' x hx t'.lists.toNat t' false (Al4 _) hxb ht'⟩
 have hsame:∀ it,YM t=some it→zg Tryz.prog 205 [.agg (zl s),.agg (cTy it),.agg (cV (.mk k q st l m)),.bool false] (.bool (zam s it (.mk k q st l m) false)):=fun it h=>by
  obtain⟨e1,e2,e3⟩:=zeW h
  exact zcs ⟨_,ih it.lists.toNat (by omega) it false (Al4 _) hb (by rw[e1];exact ht)⟩
 have hlist:∀ it,YM t=some it→∀ x∈l,zg Tryz.prog 205 [.agg (zl s),.agg (cTy it),.agg (cV x),.bool true] (.bool (zam s it x true)):=fun it h x hx=>by
  obtain⟨e1,e2,e3⟩:=zeW h
  have hxb:bV x≤Lim:=by have:=zj3 hx;simp only[Lim];omega
  exact zcs ⟨_,ihl x hx it.lists.toNat it true (Al4 _) hxb (by rw[e1];exact ht)⟩
 have e0:zqE s t (.mk k q st l m) w=if k=8 then zO t else if k=0 then zO t&&!isM t else if zO t=false then false else match YM t with
  | none=>ziP s t.nm (.mk k q st l m)
  | some it=>if k≠6 then !w&&zam s it (.mk k q st l m) false else l.all fun x=>zam s it x true:=rfl
 generalize zqE s t (.mk k q st l m) w=F at *
 obtain⟨sd,sq,sm⟩:=s
 generalize hS:(⟨sd,sq,sm⟩:SchD)=s at *
 have hcs:zl s=[.sl .no 6 (cEs sd),.str sq,.str sm]:=by rw[← hS];rfl
 obtain⟨tn,tl,tm⟩:=t
 simp only[hcs,ye] at hbare hsame hlist ⊢
 simp only[cTy] at hr hi hit ⊢
 refine zg.go ir205 ck205 (Al4 _) fun KP Q hQ=>?_
 have fin:∀ r,F=r→∀ ρ H,zG ρ H ir205.res=some [.bool r]→Q .ret ρ H:=fun r e ρ H h1=>hQ _ ρ H _ nofun h1 (by rw[e];rfl)
 by_cases k8:k=8
 ·subst k8
  rw[if_pos rfl] at e0
  simp(disch:=omega) only[ir205,go_sem]
  refine za hr ?_
  simp(disch:=omega) only[go_sem]
  exact fin _ e0 _ _ rfl
 rw[if_neg k8] at e0
 by_cases k0:k=0
 ·subst k0
  rw[if_pos rfl] at e0
  simp(disch:=omega) only[ir205,go_sem]
  refine za hr ?_
  cases hrt:zO ⟨tn,tl,tm⟩ with
  | false =>
   simp(disch:=omega) only[go_sem]
   exact fin false (by rw[e0,hrt];rfl) _ _ rfl
  | true =>
   simp(disch:=omega) only[go_sem]
   refine za hi ?_
   simp(disch:=omega) only[go_sem]
   exact fin (!isM ⟨tn,tl,tm⟩) (by rw[e0,hrt];rfl) _ _ rfl
 rw[if_neg k0] at e0
 simp(disch:=omega) only[ir205,k8,k0,go_sem]
 refine za hr ?_
 cases hrt:zO ⟨tn,tl,tm⟩ with
 | false =>
  rw[if_pos hrt] at e0
  simp(disch:=omega) only[go_sem]
  exact fin false e0 _ _ rfl
 | true =>
  rw[if_neg (by rw[hrt];simp)] at e0
  simp(disch:=omega) only[go_sem]
  refine za hit ?_
  cases him:YM ⟨tn,tl,tm⟩ with
  | none =>
   rw[him] at e0
   simp(disch:=omega) only[Option.getD,Option.isSome,zTy,go_sem]
   refine zc fun b9 hb9=>?_
   simp(disch:=omega) only[go_sem]
   refine za hbare ?_
   simp(disch:=omega) only[go_sem]
   exact fin _ e0 _ _ rfl
  | some it =>
   rw[him] at e0
   replace hsame:=hsame it him
   replace hlist:=hlist it him
   obtain⟨in',il,im⟩:=it
   simp only at hsame hlist e0
   simp(disch:=omega) only[Option.getD,Option.isSome,go_sem]
   refine zc fun b9 hb9=>?_
   by_cases k6:k=6
   case neg =>
    rw[if_pos k6] at e0
    cases w with
    | true =>
     simp(disch:=omega) only[k6,go_sem]
     exact fin false e0 _ _ rfl
    | false =>
     simp(disch:=omega) only[k6,go_sem]
     refine za hsame ?_
     simp(disch:=omega) only[go_sem]
     exact fin _ (by rw[e0];rfl) _ _ rfl
   subst k6
   rw[if_neg (by simp)] at e0
   simp(disch:=omega) only[h1,go_sem]
   refine zf l 59 (fun _:Unit=>[]) (fun done rest _ H=>H b9=some (.cells [.str in',.int .i64 il,.int .i64 im])∧(rest.all fun x=>zam s ⟨in',il,im⟩ x true)=l.all fun x=>zam s ⟨in',il,im⟩ x true) () (by simp(disch:=omega) only[go_sem]) ⟨upd_same ..,rfl⟩ ?_ ?_
   ·rintro _ H J ⟨hH,hp⟩ hlt
    simp(disch:=omega) only[h1,hlt,go_sem]
    exact fin true (by rw[e0,← hp];rfl) _ _ rfl
   ·rintro done x rest _ H J hd hlt _ ⟨hH,hp⟩ hJ
    have hg:=zaC hd
    have hx:=hlist x (by rw[hd];simp)
    rw[List.all_cons] at hp
    obtain⟨xk,xq,xs,xl,xm⟩:=x
    rw[ye] at hg hx
    simp(disch:=omega) only[h1,hlt,hg,go_sem]
    refine zc fun b12 hb12=>?_
    have hne:b9≠b12:=fun e=>by subst e;rw[hH] at hb12;cases hb12
    simp(disch:=omega) only[hH,hne,Ne.symm hne,go_sem]
    refine za hx ?_
    cases hfx:zam s ⟨in',il,im⟩ (.mk xk xq xs xl xm) true with
    | false =>
     rw[hfx] at hp
     simp(disch:=omega) only[go_sem]
     exact fin false (by rw[e0,← hp];rfl) _ _ rfl
    | true =>
     rw[hfx] at hp
     simp(disch:=omega) only[go_sem]
     exact goJ (hJ () _ ⟨by simp(disch:=omega) only[hH,hne,Ne.symm hne,go_sem],by simpa using hp⟩) (by simp(disch:=omega) only[wrap64,go_sem])
theorem zw7 (s:SchD) (t:TyD) (v:Val) (w:Bool) (hs:zI s≤Lim) (hb:bV v≤Lim) (ht:t.nm.length≤Lim):zg Tryz.prog 205 [.agg (zl s),.agg (cTy t),.agg (cV v),.bool w] (.bool (zam s t v w)) :=
 zcs ⟨_,zxj s hs v _ t w (Al4 _) hb ht⟩
noncomputable def ZR (s:SchD) (t:TyD) (v:Val):Bool:=znh v&&zam s t v false
theorem zfJ (s:SchD) (t:TyD) (v:Val) (hs:zI s≤Lim) (hb:bV v≤Lim) (ht:t.nm.length≤Lim):zg Tryz.prog 164 [.agg (zl s),.agg (cTy t),.agg (cV v)] (.bool (ZR s t v)):=by
 have hf:=zw7 s t v false hs hb ht
 have hg:=zvD v hb
 obtain⟨sd,sq,sm⟩:=s
 obtain⟨tn,tl,tm⟩:=t
 obtain⟨k,q,st,l,m⟩:=v
 simp only[zl,cTy,ye] at hf hg ⊢
 refine zg.go ir164 ck164 (Al4 _) fun KP Q hQ=>?_
 simp(disch:=omega) only[ir164,go_sem]
 refine za hg ?_
 cases h:znh (.mk k q st l m) with
 | false =>
  simp(disch:=omega) only[go_sem]
  exact hQ _ _ _ _ nofun rfl (by simp[zd,ze,AV.strip,AV.strip1,ZR,h])
 | true =>
  simp(disch:=omega) only[go_sem]
  refine za hf ?_
  simp(disch:=omega) only[go_sem]
  exact hQ _ _ _ _ nofun rfl (by simp[zd,ze,AV.strip,AV.strip1,ZR,h])
theorem ztz (d:DefD) (f:FuncId) (caps:List AV) (r:Bool) (H:zb) (hf:Program.callable Tryz.prog f=true) (h:zi Tryz.prog f (.agg (cE d)::caps) H (At (.bool r) H)) :
  zi Tryz.prog 183 [.agg (cE d),.view [.clo f [] caps]] H (At (.bool (!r)) H):=by
 obtain⟨k,nm,fs,fl,ps,pa⟩:=d
 rw[yf] at h ⊢
 refine zi.go ir183 ck183 (Al4 _) fun KP Q hQ=>?_
 simp(disch:=omega) only[ir183,go_sem]
 refine⟨hf,zY h ?_⟩
 rintro _ _ ⟨_,rfl,rfl,rfl⟩
 simp(disch:=omega) only[ZU,go_sem]
 exact hQ _ _ _ _ _ nofun rfl (Low.refl _) ⟨rfl,rfl⟩
theorem zef (s:SchD) (f:FuncId) (caps:List AV) (p:DefD→Bool) (H:zb) (hl:s.defs.length≤Lim) (hf:Program.callable Tryz.prog f=true) (hc:∀ d∈s.defs,zi Tryz.prog f (.agg (cE d)::caps) H (At (.bool (p d)) H)) :
  zi Tryz.prog 103 [.agg (zl s),.clo f [] caps] H (At (.bool (s.defs.all p)) H):=by
 have hx:=zsb cE (fun _=>rfl) s.defs 183 [.view [.clo f [] caps]] (fun d=>!p d) H hl (by kernel_rfl) fun d hd=>ztz d f caps (p d) H hf (hc d hd)
 have e:(!s.defs.any fun d=>!p d)=s.defs.all p:=by simp[List.all_eq_not_any_not]
 obtain⟨sd,sq,sm⟩:=s
 simp only at hx e
 refine zi.go ir103 ck103 (Al4 _) fun KP Q hQ=>?_
 simp(disch:=omega) only[ir103,zl,go_sem]
 refine zY hx ?_
 rintro _ _ ⟨_,rfl,rfl,rfl⟩
 simp(disch:=omega) only[ZU,go_sem]
 exact hQ _ _ _ _ _ nofun rfl (Low.refl _) ⟨by rw[← e];rfl,rfl⟩
def zc7:List (List UInt8)→List (List UInt8)→Bool
 | _,[]=>true
 | a,x::r=>!zL x a&&zc7 (a++[x]) r
def zan (l:List (List UInt8)):Bool:=zc7 [] l
theorem zod (l:List (List UInt8)) (hl:l.length≤Lim):zg Tryz.prog 97 [.sl .no 1 (cT l)] (.bool (zan l)):=by
 refine zg.go ir97 ck97 (Al4 _) fun KP Q hQ=>?_
 have h1:=zD l
 simp only[Lim] at hl
 simp(disch:=omega) only[ir97,h1,go_sem]
 refine zf l 7 (fun _:Unit=>[]) (fun done rest _ H=>zc7 done rest=zan l) () (by simp(disch:=omega) only[go_sem]) rfl ?_ ?_
 ·rintro _ H J hn hlt
  simp(disch:=omega) only[h1,hlt,go_sem]
  exact hQ _ _ _ _ nofun rfl (by simp[zd,ze,AV.strip,AV.strip1,← hn,zc7])
 ·rintro done x rest _ H J hd hlt _ hn hJ
  have hg:=Yr hd
  have htk:(cT l).take done.length=cT done:=by rw[hd];simp[cT]
  have hle:(done.length:Int)≤l.length:=by omega
  have hdl:done.length≤Lim:=by simp only[Lim];omega
  simp only[zc7] at hn
  simp(disch:=omega) only[h1,hlt,hg,htk,hle,go_sem]
  refine za (yE done x hdl) ?_
  cases hh:zL x done with
  | true =>
   rw[hh] at hn
   simp(disch:=omega) only[go_sem]
   exact hQ _ _ _ _ nofun rfl (by simp[zd,ze,AV.strip,AV.strip1,← hn])
  | false =>
   rw[hh] at hn
   simp(disch:=omega) only[go_sem]
   exact goJ (hJ () _ (by simpa using hn)) (by simp(disch:=omega) only[wrap64,go_sem])
theorem zow (s:List UInt8):zg Tryz.prog 178 [.str s] (.bool (List.isPrefixOf [95,95] s)):=by
 refine zg.go ir178 ck178 (Al4 _) fun KP Q hQ=>?_
 simp(disch:=omega) only[ir178,go_sem]
 refine za (zjD s [95,95]) ?_
 simp(disch:=omega) only[go_sem]
 exact hQ _ _ _ _ nofun rfl (by simp[zd,ze,AV.strip,AV.strip1])
def zbi (l:List (List UInt8)):Bool:=l.all fun s=>!List.isPrefixOf [95,95] s
theorem zlL (l:List (List UInt8)) (hl:l.length≤Lim):zg Tryz.prog 98 [.sl .no 1 (cT l)] (.bool (zbi l)):=by
 have hx:=zl7 (fun s:List UInt8=>AV.str s) l 178 [] (fun s=>List.isPrefixOf [95,95] s) hl (by kernel_rfl) fun s _=>zow s
 have e:(!l.any fun s=>List.isPrefixOf [95,95] s)=zbi l:=by simp[zbi,List.all_eq_not_any_not]
 refine zg.go ir98 ck98 (Al4 _) fun KP Q hQ=>?_
 simp(disch:=omega) only[ir98,go_sem]
 refine za hx ?_
 simp(disch:=omega) only[go_sem]
 exact hQ _ _ _ _ nofun rfl (by rw[← e];rfl)
theorem zr1 {P:Program} {f:FuncId} {args:List AV} {r:AV} (h:zg P f args r) (H:zb):zi P f args H (At r H) :=
 (h.use (K:=fun v H'=>v=r∧H'=H) (KP:=fun _ _=>False) ⟨rfl,rfl⟩).mono fun e H' he=>by
  cases e with
  | ret v=>exact⟨v,rfl,he.1,he.2⟩
  | pan v=>exact he.elim
theorem zsr (x:DefD):zg Tryz.prog 95 [.agg (cE x)] (.str x.nm):=by
 obtain⟨k,nm,fs,fl,ps,pa⟩:=x
 refine zg.go ir95 ck95 (Al4 _) fun KP Q hQ=>?_
 simp(disch:=omega) only[ir95,yf,go_sem]
 exact hQ _ _ _ _ nofun rfl (by simp[zd,ze,AV.strip,AV.strip1])
theorem zlZ (l:List DefD) (hl:l.length≤Lim):zg Tryz.prog 94 [.sl .no 6 (cEs l),.clo 95 [] []] (.sl .no 1 (cT (l.map (·.nm)))):=by
 have h1:=zff l
 simp only[Lim] at hl
 refine zg.go ir94 ck94 (Al4 _) fun KP Q hQ=>?_
 simp(disch:=omega) only[ir94,h1,go_sem]
 refine zf l 10 (fun x:Own×List (List UInt8)=>[(5,.sl x.1 1 (cT x.2))]) (fun done rest x H'=>x.2=done.map (·.nm)∧zK H' x.1 done.length 1) (.nil,[]) (by simp(disch:=omega) only[cT,List.map,go_sem]) ⟨rfl,rfl⟩ ?_ ?_
 ·rintro⟨o1,a⟩ H' J ⟨hn,hs⟩ hlt
  simp only at hn
  subst hn
  simp(disch:=omega) only[h1,hlt,go_sem]
  exact hQ _ _ _ _ nofun rfl (by simp[zd,ze,AV.strip,AV.strip1])
 ·rintro done x rest ⟨o1,a⟩ H' J hd hlt _ ⟨hn,hs⟩ hJ
  have hg:=zeV hd
  have hx:=zsr x
  simp only at hn
  subst hn
  have h3:=zD (done.map (·.nm))
  rw[List.length_map] at h3
  replace hs:zK H' o1 done.length 1:=hs
  obtain⟨k,nm,fs,fl,ps,pa⟩:=x
  rw[yf] at hg hx
  try simp only at hx
  simp(disch:=omega) only[h1,hlt,hg,go_sem]
  refine zc fun b7 hb7=>?_
  simp(disch:=omega) only[go_sem]
  refine⟨by kernel_rfl,za hx ?_⟩
  simp(disch:=omega) only[go_sem]
  refine zp (by rw[h3];exact hs.upd hb7) ?_ ?_ fun o' H2 hs2=>?_
  ·simp only[h3,Al2,Al3];omega
  ·simp only[h3,Al2,Al3,maxLen];omega
  have e0:cT (done.map (·.nm))++[[AV.str nm]]=cT (done.map (·.nm)++[nm]):=by simp[cT]
  have hs3:=hs2.own
  simp only[h3,Al2,Al3] at hs3
  simp(disch:=omega) only[wrap64,e0,go_sem]
  exact goJ (hJ (o',done.map (·.nm)++[nm]) H2 ⟨by simp,by simpa using hs3⟩) (by simp(disch:=omega) only[go_sem])
theorem zsa (x:FldD):zg Tryz.prog 106 [.agg (cL x)] (.str x.nm):=by
 obtain⟨nm,ps,⟨t1,t2,t3⟩,ds⟩:=x
 refine zg.go ir106 ck106 (Al4 _) fun KP Q hQ=>?_
 simp(disch:=omega) only[ir106,zaL,go_sem]
 exact hQ _ _ _ _ nofun rfl (by simp[zd,ze,AV.strip,AV.strip1])
theorem zmN (l:List FldD) (hl:l.length≤Lim):zg Tryz.prog 105 [.sl .no 6 (cLs l),.clo 106 [] []] (.sl .no 1 (cT (l.map (·.nm)))):=by
 have h1:=za3 l
 simp only[Lim] at hl
 refine zg.go ir105 ck105 (Al4 _) fun KP Q hQ=>?_
 simp(disch:=omega) only[ir105,h1,go_sem]
 refine zf l 10 (fun x:Own×List (List UInt8)=>[(5,.sl x.1 1 (cT x.2))]) (fun done rest x H'=>x.2=done.map (·.nm)∧zK H' x.1 done.length 1) (.nil,[]) (by simp(disch:=omega) only[cT,List.map,go_sem]) ⟨rfl,rfl⟩ ?_ ?_
 ·rintro⟨o1,a⟩ H' J ⟨hn,hs⟩ hlt
  simp only at hn
  subst hn
  simp(disch:=omega) only[h1,hlt,go_sem]
  exact hQ _ _ _ _ nofun rfl (by simp[zd,ze,AV.strip,AV.strip1])
 ·rintro done x rest ⟨o1,a⟩ H' J hd hlt _ ⟨hn,hs⟩ hJ
  have hg:=zdH hd
  have hx:=zsa x
  simp only at hn
  subst hn
  have h3:=zD (done.map (·.nm))
  rw[List.length_map] at h3
  replace hs:zK H' o1 done.length 1:=hs
  obtain⟨nm,ps,⟨t1,t2,t3⟩,ds⟩:=x
  rw[zaL] at hg hx
  try simp only at hx
  simp(disch:=omega) only[h1,hlt,hg,go_sem]
  refine zc fun b7 hb7=>?_
  simp(disch:=omega) only[go_sem]
  refine⟨by kernel_rfl,za hx ?_⟩
  simp(disch:=omega) only[go_sem]
  refine zp (by rw[h3];exact hs.upd hb7) ?_ ?_ fun o' H2 hs2=>?_
  ·simp only[h3,Al2,Al3];omega
  ·simp only[h3,Al2,Al3,maxLen];omega
  have e0:cT (done.map (·.nm))++[[AV.str nm]]=cT (done.map (·.nm)++[nm]):=by simp[cT]
  have hs3:=hs2.own
  simp only[h3,Al2,Al3] at hs3
  simp(disch:=omega) only[wrap64,e0,go_sem]
  exact goJ (hJ (o',done.map (·.nm)++[nm]) H2 ⟨by simp,by simpa using hs3⟩) (by simp(disch:=omega) only[go_sem])
theorem zsT (x:VarD):zg Tryz.prog 108 [.agg (cW x)] (.str x.nm):=by
 obtain⟨nm,⟨t1,t2,t3⟩,h,⟨k,q,st,l2,m⟩⟩:=x
 refine zg.go ir108 ck108 (Al4 _) fun KP Q hQ=>?_
 simp(disch:=omega) only[ir108,zZ,go_sem]
 exact hQ _ _ _ _ nofun rfl (by simp[zd,ze,AV.strip,AV.strip1])
theorem zhD (l:List VarD) (hl:l.length≤Lim):zg Tryz.prog 107 [.sl .no 10 (cWs l),.clo 108 [] []] (.sl .no 1 (cT (l.map (·.nm)))):=by
 have h1:=Zj l
 simp only[Lim] at hl
 refine zg.go ir107 ck107 (Al4 _) fun KP Q hQ=>?_
 simp(disch:=omega) only[ir107,h1,go_sem]
 refine zf l 10 (fun x:Own×List (List UInt8)=>[(5,.sl x.1 1 (cT x.2))]) (fun done rest x H'=>x.2=done.map (·.nm)∧zK H' x.1 done.length 1) (.nil,[]) (by simp(disch:=omega) only[cT,List.map,go_sem]) ⟨rfl,rfl⟩ ?_ ?_
 ·rintro⟨o1,a⟩ H' J ⟨hn,hs⟩ hlt
  simp only at hn
  subst hn
  simp(disch:=omega) only[h1,hlt,go_sem]
  exact hQ _ _ _ _ nofun rfl (by simp[zd,ze,AV.strip,AV.strip1])
 ·rintro done x rest ⟨o1,a⟩ H' J hd hlt _ ⟨hn,hs⟩ hJ
  have hg:=Z9 hd
  have hx:=zsT x
  simp only at hn
  subst hn
  have h3:=zD (done.map (·.nm))
  rw[List.length_map] at h3
  replace hs:zK H' o1 done.length 1:=hs
  obtain⟨nm,⟨t1,t2,t3⟩,h,⟨k,q,st,l2,m⟩⟩:=x
  rw[zZ] at hg hx
  try simp only at hx
  simp(disch:=omega) only[h1,hlt,hg,go_sem]
  refine zc fun b7 hb7=>?_
  simp(disch:=omega) only[go_sem]
  refine⟨by kernel_rfl,za hx ?_⟩
  simp(disch:=omega) only[go_sem]
  refine zp (by rw[h3];exact hs.upd hb7) ?_ ?_ fun o' H2 hs2=>?_
  ·simp only[h3,Al2,Al3];omega
  ·simp only[h3,Al2,Al3,maxLen];omega
  have e0:cT (done.map (·.nm))++[[AV.str nm]]=cT (done.map (·.nm)++[nm]):=by simp[cT]
  have hs3:=hs2.own
  simp only[h3,Al2,Al3] at hs3
  simp(disch:=omega) only[wrap64,e0,go_sem]
  exact goJ (hJ (o',done.map (·.nm)++[nm]) H2 ⟨by simp,by simpa using hs3⟩) (by simp(disch:=omega) only[go_sem])
theorem zoP (s:SchD) (p:VarD) (hl:s.defs.length≤Lim):zg Tryz.prog 185 [.agg (cW p),.view (zl s)] (.bool (!zbM s p.t.nm)):=by
 have he:=zp3 s p.t.nm hl
 obtain⟨nm,⟨t1,t2,t3⟩,h,⟨k,q,st,l,m⟩⟩:=p
 obtain⟨sd,sq,sm⟩:=s
 simp only[zl] at he ⊢
 refine zg.go ir185 ck185 (Al4 _) fun KP Q hQ=>?_
 simp(disch:=omega) only[ir185,zZ,go_sem]
 refine za he ?_
 simp(disch:=omega) only[go_sem]
 exact hQ _ _ _ _ nofun rfl (by simp[zd,ze,AV.strip,AV.strip1])
def zcf (s:SchD) (l:List VarD):Bool:=l.all fun p=>zbM s p.t.nm
theorem not_any {α:Type} (p:α→Bool) (l:List α):(!l.any fun x=>!p x)=l.all p:=by simp[List.all_eq_not_any_not]
theorem zkK (s:SchD) (ps:List VarD) (hl:s.defs.length≤Lim) (hp:ps.length≤Lim):zg Tryz.prog 112 [.agg (zl s),.sl .no 10 (cWs ps)] (.bool (zcf s ps)):=by
 have hx:=zrg cW zaP ps 185 [.view (zl s)] (fun p=>!zbM s p.t.nm) hp (by kernel_rfl) fun p _=>zoP s p hl
 obtain⟨sd,sq,sm⟩:=s
 simp only[zl] at hx ⊢
 refine zg.go ir112 ck112 (Al4 _) fun KP Q hQ=>?_
 simp(disch:=omega) only[ir112,go_sem]
 refine za hx ?_
 simp(disch:=omega) only[go_sem]
 exact hQ _ _ _ _ nofun rfl (by rw[zcf,← not_any];rfl)
def zpi (s:SchD) (f:FldD):Bool:=(!Yb s f.t.nm&&!ZC s f.t.nm)||!zcf s f.ps
theorem zpJ (s:SchD) (f:FldD) (b:Nat) (H:zb) (hb:H b=some (.cells (zl s))) (hl:s.defs.length≤Lim) (hp:f.ps.length≤Lim):zi Tryz.prog 113 [.agg (cL f),.ptr b 0] H (At (.bool (zpi s f)) H):=by
 have h1:=zlM s f.t.nm hl
 have h2:=zhV s f.t.nm hl
 have h3:=zkK s f.ps hl hp
 obtain⟨nm,ps,⟨t1,t2,t3⟩,ds⟩:=f
 simp only at h1 h2 h3
 unfold zpi
 simp only
 generalize Yb s t1=x1 at *
 generalize ZC s t1=x2 at *
 generalize zcf s ps=x3 at *
 obtain⟨sd,sq,sm⟩:=s
 simp only[zl] at h1 h2 h3 hb
 refine zi.go ir113 ck113 (Al4 _) fun KP Q hQ=>?_
 simp(disch:=omega) only[ir113,zaL,hb,go_sem]
 refine za h1 ?_
 cases x1 with
 | true =>
  simp(disch:=omega) only[hb,go_sem]
  refine za h3 ?_
  simp(disch:=omega) only[go_sem]
  exact hQ _ _ _ _ _ nofun rfl (Low.refl _) ⟨by simp[zd,ze,AV.strip,AV.strip1],rfl⟩
 | false =>
  simp(disch:=omega) only[hb,go_sem]
  refine za h2 ?_
  cases x2 with
  | true =>
   simp(disch:=omega) only[hb,go_sem]
   refine za h3 ?_
   simp(disch:=omega) only[go_sem]
   exact hQ _ _ _ _ _ nofun rfl (Low.refl _) ⟨by simp[zd,ze,AV.strip,AV.strip1],rfl⟩
  | false =>
   simp(disch:=omega) only[hb,go_sem]
   exact hQ _ _ _ _ _ nofun rfl (Low.refl _) ⟨by simp[zd,ze,AV.strip,AV.strip1],rfl⟩
def zoM (s:SchD) (d:DefD):Bool:=zcf s d.ps&&!d.flds.any (zpi s)
theorem zcH {f:FldD}:∀ {l:List FldD},f∈l→bL f≤bLs l
 | x::l,h=>by
  rcases List.mem_cons.1 h with rfl|h
  ·simp only[bLs,List.map_cons,List.sum_cons];omega
  ·have:=zcH h;simp only[bLs,List.map_cons,List.sum_cons] at this ⊢;omega
theorem zp7 {f:FldD}:f.ps.length≤bL f:=by have:=yD f.ps;simp only[bL];omega
theorem zs9 (s:SchD) (d:DefD) (b:Nat) (H:zb) (hb:H b=some (.cells (zl s))) (hl:s.defs.length≤Lim) (hd:bE d≤Lim):zi Tryz.prog 111 [.agg (cE d),.ptr b 0] H (At (.bool (zoM s d)) H):=by
 have hd':=hd
 simp only[bE,Lim] at hd'
 have hf1:=zah d.flds
 have hp1:=yD d.ps
 have h1:=zkK s d.ps hl (by simp only[Lim];omega)
 have h2:=zjM cL (fun _=>rfl) d.flds 113 [.ptr b 0] (zpi s) H (by simp only[Lim];omega) (by kernel_rfl) fun f hf=>zpJ s f b H hb hl (by have:=zcH hf;have:=@zp7 f;simp only[Lim];omega)
 obtain⟨k,nm,fs,fl,ps,pa⟩:=d
 simp only at h1 h2
 unfold zoM
 simp only
 generalize zcf s pa=x1 at *
 generalize fl.any (zpi s)=x2 at *
 obtain⟨sd,sq,sm⟩:=s
 simp only[zl] at h1 h2 hb
 refine zi.go ir111 ck111 (Al4 _) fun KP Q hQ=>?_
 simp(disch:=omega) only[ir111,yf,hb,go_sem]
 refine za h1 ?_
 cases x1 with
 | false =>
  simp(disch:=omega) only[hb,go_sem]
  exact hQ _ _ _ _ _ nofun rfl (Low.refl _) ⟨by simp[zd,ze,AV.strip,AV.strip1],rfl⟩
 | true =>
  simp(disch:=omega) only[hb,go_sem]
  refine zY h2 ?_
  rintro _ _ ⟨_,rfl,rfl,rfl⟩
  simp(disch:=omega) only[ZU,go_sem]
  exact hQ _ _ _ _ _ nofun rfl (Low.refl _) ⟨by simp[zd,ze,AV.strip,AV.strip1],rfl⟩
def zdr (s:SchD):Bool:=s.defs.all (zoM s)
theorem ziH {s:SchD} {d:DefD} (h:d∈s.defs) (hb:zI s≤Lim):bE d≤Lim:=by have:=zj6 h;simp only[zI] at hb;omega
theorem zwg (s:SchD) (hb:zI s≤Lim):zg Tryz.prog 51 [.agg (zl s)] (.bool (zdr s)):=by
 have hl:=z7 hb
 have hx:=fun b H hb'=>zef s 111 [.ptr b 0] (zoM s) H hl (by kernel_rfl) fun d hd=>zs9 s d b H hb' hl (ziH hd hb)
 rw[zdr]
 generalize s.defs.all (zoM s)=x1 at *
 obtain⟨sd,sq,sm⟩:=s
 simp only[zl] at hx ⊢
 refine zg.go ir51 ck51 (Al4 _) fun KP Q hQ=>?_
 simp(disch:=omega) only[ir51,go_sem]
 refine zc fun b1 hb1=>?_
 simp(disch:=omega) only[go_sem]
 refine zY (hx b1 _ (upd_same ..)) ?_
 rintro _ _ ⟨_,rfl,rfl,rfl⟩
 simp(disch:=omega) only[ZU,go_sem]
 exact hQ _ _ _ _ nofun rfl rfl
theorem zrx (s:SchD) (n:List UInt8) (b:Nat) (H:zb) (hb:H b=some (.cells (zl s))) (hl:s.defs.length≤Lim):zi Tryz.prog 124 [.str n,.ptr b 0] H (At (.bool (!yQ s n [1])) H):=by
 have h1:=zcM s n [1] hl (by decide)
 generalize yQ s n [1]=x1 at *
 obtain⟨sd,sq,sm⟩:=s
 simp only[zl,List.map,cI] at h1 hb
 refine zi.go ir124 ck124 (Al4 _) fun KP Q hQ=>?_
 simp(disch:=omega) only[ir124,hb,go_sem]
 refine za (zg.low h1) ?_
 simp(disch:=omega) only[go_sem]
 exact hQ _ _ _ _ _ nofun rfl (Low.refl _) ⟨by simp[zd,ze,AV.strip,AV.strip1],rfl⟩
def zld (s:SchD) (d:DefD):Bool:=!decide (d.k=3)||!(d.parts.any fun n=>!yQ s n [1])
theorem ztP (s:SchD) (d:DefD) (b:Nat) (H:zb) (hb:H b=some (.cells (zl s))) (hl:s.defs.length≤Lim) (hd:bE d≤Lim):zi Tryz.prog 123 [.agg (cE d),.ptr b 0] H (At (.bool (zld s d)) H):=by
 have hd':=hd
 simp only[bE,Lim] at hd'
 have hf1:=ZS d.parts
 have h2:=zeQ (fun n:List UInt8=>AV.str n) d.parts 124 [.ptr b 0] (fun n=>!yQ s n [1]) H (by simp only[Lim];omega) (by kernel_rfl) fun n _=>zrx s n b H hb hl
 obtain⟨k,nm,fs,fl,ps,pa⟩:=d
 simp only at h2
 unfold zld
 simp only
 generalize (ps.any fun n=>!yQ s n [1])=x2 at *
 obtain⟨sd,sq,sm⟩:=s
 simp only[zl] at h2 hb
 refine zi.go ir123 ck123 (Al4 _) fun KP Q hQ=>?_
 by_cases hk:k=3
 ·subst hk
  simp(disch:=omega) only[ir123,yf,hb,go_sem]
  refine zY h2 ?_
  rintro _ _ ⟨_,rfl,rfl,rfl⟩
  simp(disch:=omega) only[ZU,go_sem]
  exact hQ _ _ _ _ _ nofun rfl (Low.refl _) ⟨by simp[zd,ze,AV.strip,AV.strip1],rfl⟩
 ·simp(disch:=omega) only[ir123,yf,hb,hk,go_sem]
  exact hQ _ _ _ _ _ nofun rfl (Low.refl _) ⟨by simp[zd,ze,AV.strip,AV.strip1,hk],rfl⟩
def zj5 (s:SchD):Bool:=s.defs.all (zld s)
theorem zvS (s:SchD) (hb:zI s≤Lim):zg Tryz.prog 54 [.agg (zl s)] (.bool (zj5 s)):=by
 have hl:=z7 hb
 have hx:=fun b H hb'=>zef s 123 [.ptr b 0] (zld s) H hl (by kernel_rfl) fun d hd=>ztP s d b H hb' hl (ziH hd hb)
 rw[zj5]
 generalize s.defs.all (zld s)=x1 at *
 obtain⟨sd,sq,sm⟩:=s
 simp only[zl] at hx ⊢
 refine zg.go ir54 ck54 (Al4 _) fun KP Q hQ=>?_
 simp(disch:=omega) only[ir54,go_sem]
 refine zc fun b1 hb1=>?_
 simp(disch:=omega) only[go_sem]
 refine zY (hx b1 _ (upd_same ..)) ?_
 rintro _ _ ⟨_,rfl,rfl,rfl⟩
 simp(disch:=omega) only[ZU,go_sem]
 exact hQ _ _ _ _ nofun rfl rfl
def zjT (s:SchD):Bool:=yQ s s.q [1]&&(decide (s.m=[])||(!decide (s.m=s.q)&&yQ s s.m [1]))
theorem zvc (s:SchD) (hb:zI s≤Lim):zg Tryz.prog 49 [.agg (zl s)] (.bool (zjT s)):=by
 have hl:=z7 hb
 have h1:=zcM s s.q [1] hl (by decide)
 have h2:=zcM s s.m [1] hl (by decide)
 unfold zjT
 generalize yQ s s.q [1]=x1 at *
 generalize yQ s s.m [1]=x2 at *
 obtain⟨sd,sq,sm⟩:=s
 simp only[zl,List.map,cI] at h1 h2 ⊢
 refine zg.go ir49 ck49 (Al4 _) fun KP Q hQ=>?_
 simp(disch:=omega) only[ir49,go_sem]
 refine za (zg.low h1) ?_
 cases x1 with
 | false =>
  simp(disch:=omega) only[go_sem]
  exact hQ _ _ _ _ nofun rfl (by simp[zd,ze,AV.strip,AV.strip1])
 | true =>
  by_cases hm:sm=[]
  ·have hm':=eq_true hm
   simp(disch:=omega) only[hm',go_sem]
   exact hQ _ _ _ _ nofun rfl (by simp[zd,ze,AV.strip,AV.strip1,hm])
  ·by_cases hq:sm=sq
   ·have hq':=eq_true hq
    simp(disch:=omega) only[hm,hq',go_sem]
    exact hQ _ _ _ _ nofun rfl (by simp[zd,ze,AV.strip,AV.strip1,hm,hq'])
   ·simp(disch:=omega) only[hm,hq,go_sem]
    refine za (zg.low h2) ?_
    simp(disch:=omega) only[go_sem]
    exact hQ _ _ _ _ nofun rfl (by simp[zd,ze,AV.strip,AV.strip1,hm,hq])
def zdo (l:List (List UInt8)):Bool:=zan l&&zbi l
theorem zl5 (l:List (List UInt8)) (hl:l.length≤Lim):zg Tryz.prog 102 [.sl .no 1 (cT l)] (.bool (zdo l)):=by
 have h1:=zod l hl
 have h2:=zlL l hl
 unfold zdo
 generalize zan l=x1 at *
 generalize zbi l=x2 at *
 refine zg.go ir102 ck102 (Al4 _) fun KP Q hQ=>?_
 simp(disch:=omega) only[ir102,go_sem]
 refine za h1 ?_
 cases x1 with
 | false =>
  simp(disch:=omega) only[go_sem]
  exact hQ _ _ _ _ nofun rfl (by simp[zd,ze,AV.strip,AV.strip1])
 | true =>
  simp(disch:=omega) only[go_sem]
  refine za h2 ?_
  simp(disch:=omega) only[go_sem]
  exact hQ _ _ _ _ nofun rfl (by simp[zd,ze,AV.strip,AV.strip1])
theorem zoI (f:FldD) (b:Nat) (H:zb) (hb:H b=some (.cells [.clo 102 [] []])) (hp:f.ps.length≤Lim):zi Tryz.prog 110 [.agg (cL f),.ptr b 0] H (At (.bool (!zdo (f.ps.map (·.nm)))) H):=by
 have h1:=zhD f.ps hp
 have h2:=zl5 (f.ps.map (·.nm)) (by simpa using hp)
 obtain⟨nm,ps,⟨t1,t2,t3⟩,ds⟩:=f
 simp only at h1 h2 ⊢
 generalize zdo (ps.map (·.nm))=x1 at *
 refine zi.go ir110 ck110 (Al4 _) fun KP Q hQ=>?_
 simp(disch:=omega) only[ir110,zaL,hb,go_sem]
 refine za h1 ?_
 simp(disch:=omega) only[hb,go_sem]
 refine⟨by kernel_rfl,za h2 ?_⟩
 simp(disch:=omega) only[go_sem]
 exact hQ _ _ _ _ _ nofun rfl (Low.refl _) ⟨by simp[zd,ze,AV.strip,AV.strip1],rfl⟩
def zli (d:DefD):Bool:=zdo (d.flds.map (·.nm))&&(zdo (d.ps.map (·.nm))&&(zan d.parts&&(zan d.faces&&!d.flds.any fun f=>!zdo (f.ps.map (·.nm)))))
theorem zrn (d:DefD) (b:Nat) (H:zb) (hb:H b=some (.cells [.clo 102 [] []])) (hd:bE d≤Lim):zi Tryz.prog 104 [.agg (cE d),.ptr b 0] H (At (.bool (zli d)) H):=by
 have hd':=hd
 simp only[bE,Lim] at hd'
 have hf1:=zah d.flds
 have hf2:=yD d.ps
 have hf3:=ZS d.parts
 have hf4:=ZS d.faces
 have h1:=zmN d.flds (by simp only[Lim];omega)
 have h2:=zl5 (d.flds.map (·.nm)) (by simp only[List.length_map,Lim];omega)
 have h3:=zhD d.ps (by simp only[Lim];omega)
 have h4:=zl5 (d.ps.map (·.nm)) (by simp only[List.length_map,Lim];omega)
 have h5:=zod d.parts (by simp only[Lim];omega)
 have h6:=zod d.faces (by simp only[Lim];omega)
 have h7:=zjM cL (fun _=>rfl) d.flds 110 [.ptr b 0] (fun f=>!zdo (f.ps.map (·.nm))) H (by simp only[Lim];omega) (by kernel_rfl) fun f hf=>zoI f b H hb (by have:=zcH hf;have:=@zp7 f;simp only[Lim];omega)
 obtain⟨k,nm,fs,fl,ps,pa⟩:=d
 simp only at h1 h2 h3 h4 h5 h6 h7
 unfold zli
 simp only
 generalize (fl.any fun f=>!zdo (f.ps.map (·.nm)))=x5 at *
 generalize zdo (fl.map (·.nm))=x1 at *
 generalize zdo (pa.map (·.nm))=x2 at *
 generalize zan ps=x3 at *
 generalize zan fs=x4 at *
 refine zi.go ir104 ck104 (Al4 _) fun KP Q hQ=>?_
 simp(disch:=omega) only[ir104,yf,hb,go_sem]
 refine za h1 ?_
 simp(disch:=omega) only[hb,go_sem]
 refine⟨by kernel_rfl,za h2 ?_⟩
 cases x1 with
 | false =>
  simp(disch:=omega) only[hb,go_sem]
  exact hQ _ _ _ _ _ nofun rfl (Low.refl _) ⟨by simp[zd,ze,AV.strip,AV.strip1],rfl⟩
 | true =>
 simp(disch:=omega) only[hb,go_sem]
 refine za h3 ?_
 simp(disch:=omega) only[hb,go_sem]
 refine⟨by kernel_rfl,za h4 ?_⟩
 cases x2 with
 | false =>
  simp(disch:=omega) only[hb,go_sem]
  exact hQ _ _ _ _ _ nofun rfl (Low.refl _) ⟨by simp[zd,ze,AV.strip,AV.strip1],rfl⟩
 | true =>
 simp(disch:=omega) only[hb,go_sem]
 refine za h5 ?_
 cases x3 with
 | false =>
  simp(disch:=omega) only[hb,go_sem]
  exact hQ _ _ _ _ _ nofun rfl (Low.refl _) ⟨by simp[zd,ze,AV.strip,AV.strip1],rfl⟩
 | true =>
 simp(disch:=omega) only[hb,go_sem]
 refine za h6 ?_
 cases x4 with
 | false =>
  simp(disch:=omega) only[hb,go_sem]
  exact hQ _ _ _ _ _ nofun rfl (Low.refl _) ⟨by simp[zd,ze,AV.strip,AV.strip1],rfl⟩
 | true =>
 simp(disch:=omega) only[hb,go_sem]
 refine zY h7 ?_
 rintro _ _ ⟨_,rfl,rfl,rfl⟩
 simp(disch:=omega) only[ZU,go_sem]
 exact hQ _ _ _ _ _ nofun rfl (Low.refl _) ⟨by simp[zd,ze,AV.strip,AV.strip1],rfl⟩
def zeG (s:SchD):Bool:=s.defs.all zli
theorem zqi (s:SchD) (hb:zI s≤Lim):zg Tryz.prog 50 [.agg (zl s)] (.bool (zeG s)):=by
 have hl:=z7 hb
 have hx:=fun b H hb'=>zef s 104 [.ptr b 0] zli H hl (by kernel_rfl) fun d hd=>zrn d b H hb' (ziH hd hb)
 rw[zeG]
 generalize s.defs.all zli=x1 at *
 obtain⟨sd,sq,sm⟩:=s
 simp only[zl] at hx ⊢
 refine zg.go ir50 ck50 (Al4 _) fun KP Q hQ=>?_
 simp(disch:=omega) only[ir50,go_sem]
 refine zc fun b3 hb3=>?_
 simp(disch:=omega) only[go_sem]
 refine zY (hx b3 _ (upd_same ..)) ?_
 rintro _ _ ⟨_,rfl,rfl,rfl⟩
 simp(disch:=omega) only[ZU,go_sem]
 exact hQ _ _ _ _ nofun rfl rfl
noncomputable def zqP (s:SchD) (p:VarD):Bool:=p.has&&!ZR s p.t p.d
theorem ztj (s:SchD) (p:VarD) (hs:zI s≤Lim) (hp:bW p≤Lim):zg Tryz.prog 191 [.agg (cW p),.view (zl s)] (.bool (zqP s p)):=by
 have h1:=zfJ s p.t p.d hs (by simp only[bW] at hp;omega) (by simp only[bW] at hp;omega)
 obtain⟨nm,⟨t1,t2,t3⟩,h,⟨k,q,st,l,m⟩⟩:=p
 unfold zqP
 simp only at h1 ⊢
 generalize ZR s ⟨t1,t2,t3⟩ (.mk k q st l m)=x1 at *
 obtain⟨sd,sq,sm⟩:=s
 simp only[zl,cTy,ye] at h1 ⊢
 refine zg.go ir191 ck191 (Al4 _) fun KP Q hQ=>?_
 cases h with
 | false =>
  simp(disch:=omega) only[ir191,zZ,go_sem]
  exact hQ _ _ _ _ nofun rfl (by simp[zd,ze,AV.strip,AV.strip1])
 | true =>
  simp(disch:=omega) only[ir191,zZ,go_sem]
  refine za h1 ?_
  simp(disch:=omega) only[go_sem]
  exact hQ _ _ _ _ nofun rfl (by simp[zd,ze,AV.strip,AV.strip1])
noncomputable def zfl (s:SchD) (l:List VarD):Bool:=!l.any (zqP s)
theorem zkE (s:SchD) (ps:List VarD) (hs:zI s≤Lim) (hp:bWs ps≤Lim):zg Tryz.prog 128 [.agg (zl s),.sl .no 10 (cWs ps)] (.bool (zfl s ps)):=by
 have hl:=yD ps
 have hx:=zrg cW zaP ps 191 [.view (zl s)] (zqP s) (by omega) (by kernel_rfl) fun p h=>ztj s p hs (by have:=YD h;omega)
 unfold zfl
 generalize ps.any (zqP s)=x1 at *
 obtain⟨sd,sq,sm⟩:=s
 simp only[zl] at hx ⊢
 refine zg.go ir128 ck128 (Al4 _) fun KP Q hQ=>?_
 simp(disch:=omega) only[ir128,go_sem]
 refine za hx ?_
 simp(disch:=omega) only[go_sem]
 exact hQ _ _ _ _ nofun rfl (by simp[zd,ze,AV.strip,AV.strip1])
theorem zuQ (s:SchD) (p:VarD) (b:Nat) (H:zb) (hb:H b=some (.cells (zl s))) (hl:s.defs.length≤Lim):zi Tryz.prog 130 [.agg (cW p),.ptr b 0] H (At (.bool (p.has&&!Yb s p.t.nm)) H):=by
 have h1:=zlM s p.t.nm hl
 obtain⟨nm,⟨t1,t2,t3⟩,h,⟨k,q,st,l,m⟩⟩:=p
 simp only at h1 ⊢
 generalize Yb s t1=x1 at *
 obtain⟨sd,sq,sm⟩:=s
 simp only[zl] at h1 hb
 refine zi.go ir130 ck130 (Al4 _) fun KP Q hQ=>?_
 cases h with
 | false =>
  simp(disch:=omega) only[ir130,zZ,hb,go_sem]
  exact hQ _ _ _ _ _ nofun rfl (Low.refl _) ⟨by simp[zd,ze,AV.strip,AV.strip1],rfl⟩
 | true =>
  simp(disch:=omega) only[ir130,zZ,hb,go_sem]
  refine za h1 ?_
  simp(disch:=omega) only[go_sem]
  exact hQ _ _ _ _ _ nofun rfl (Low.refl _) ⟨by simp[zd,ze,AV.strip,AV.strip1],rfl⟩
theorem zwb (s:SchD) (f:FldD) (b:Nat) (H:zb) (hb:H b=some (.cells (zl s))) (hs:zI s≤Lim) (hp:bWs f.ps≤Lim):zi Tryz.prog 131 [.agg (cL f),.ptr b 0] H (At (.bool (!zfl s f.ps)) H):=by
 have h1:=zkE s f.ps hs hp
 obtain⟨nm,ps,⟨t1,t2,t3⟩,ds⟩:=f
 simp only at h1 ⊢
 generalize zfl s ps=x1 at *
 obtain⟨sd,sq,sm⟩:=s
 simp only[zl] at h1 hb
 refine zi.go ir131 ck131 (Al4 _) fun KP Q hQ=>?_
 simp(disch:=omega) only[ir131,zaL,hb,go_sem]
 refine za h1 ?_
 simp(disch:=omega) only[go_sem]
 exact hQ _ _ _ _ _ nofun rfl (Low.refl _) ⟨by simp[zd,ze,AV.strip,AV.strip1],rfl⟩
noncomputable def zpR (s:SchD) (d:DefD):Bool:=zfl s d.ps&&(!(d.ps.any fun p=>p.has&&!Yb s p.t.nm)&&!(d.flds.any fun f=>!zfl s f.ps))
theorem zj1 {f:FldD}:bWs f.ps≤bL f:=by simp only[bL];omega
theorem zwA (s:SchD) (d:DefD) (b:Nat) (H:zb) (hb:H b=some (.cells (zl s))) (hs:zI s≤Lim) (hd:bE d≤Lim):zi Tryz.prog 127 [.agg (cE d),.ptr b 0] H (At (.bool (zpR s d)) H):=by
 have hl:=z7 hs
 have hd':=hd
 simp only[bE,Lim] at hd'
 have hf1:=zah d.flds
 have hp1:=yD d.ps
 have h1:=zkE s d.ps hs (by simp only[Lim];omega)
 have h2:=zs5 cW zaP d.ps 130 [.ptr b 0] (fun p=>p.has&&!Yb s p.t.nm) H (by simp only[Lim];omega) (by kernel_rfl) fun p _=>zuQ s p b H hb hl
 have h3:=zjM cL (fun _=>rfl) d.flds 131 [.ptr b 0] (fun f=>!zfl s f.ps) H (by simp only[Lim];omega) (by kernel_rfl) fun f hf=>zwb s f b H hb hs (by have:=zcH hf;have:=@zj1 f;simp only[Lim];omega)
 obtain⟨k,nm,fs,fl,ps,pa⟩:=d
 simp only at h1 h2 h3
 unfold zpR
 simp only
 generalize (fl.any fun f=>!zfl s f.ps)=x3 at *
 generalize zfl s pa=x1 at *
 generalize (pa.any fun p=>p.has&&!Yb s p.t.nm)=x2 at *
 obtain⟨sd,sq,sm⟩:=s
 simp only[zl] at h1 hb
 refine zi.go ir127 ck127 (Al4 _) fun KP Q hQ=>?_
 simp(disch:=omega) only[ir127,yf,hb,go_sem]
 refine za h1 ?_
 cases x1 with
 | false =>
  simp(disch:=omega) only[hb,go_sem]
  exact hQ _ _ _ _ _ nofun rfl (Low.refl _) ⟨by simp[zd,ze,AV.strip,AV.strip1],rfl⟩
 | true =>
 simp(disch:=omega) only[hb,go_sem]
 refine zY h2 ?_
 rintro _ _ ⟨_,rfl,rfl,rfl⟩
 cases x2 with
 | true =>
  simp(disch:=omega) only[ZU,go_sem]
  exact hQ _ _ _ _ _ nofun rfl (Low.refl _) ⟨by simp[zd,ze,AV.strip,AV.strip1],rfl⟩
 | false =>
 simp(disch:=omega) only[ZU,go_sem]
 refine zY h3 ?_
 rintro _ _ ⟨_,rfl,rfl,rfl⟩
 simp(disch:=omega) only[ZU,go_sem]
 exact hQ _ _ _ _ _ nofun rfl (Low.refl _) ⟨by simp[zd,ze,AV.strip,AV.strip1],rfl⟩
noncomputable def ztF (s:SchD):Bool:=s.defs.all (zpR s)
theorem zoZ (s:SchD) (hb:zI s≤Lim):zg Tryz.prog 56 [.agg (zl s)] (.bool (ztF s)):=by
 have hl:=z7 hb
 have hx:=fun b H hb'=>zef s 127 [.ptr b 0] (zpR s) H hl (by kernel_rfl) fun d hd=>zwA s d b H hb' hb (ziH hd hb)
 rw[ztF]
 generalize s.defs.all (zpR s)=x1 at *
 obtain⟨sd,sq,sm⟩:=s
 simp only[zl] at hx ⊢
 refine zg.go ir56 ck56 (Al4 _) fun KP Q hQ=>?_
 simp(disch:=omega) only[ir56,go_sem]
 refine zc fun b1 hb1=>?_
 simp(disch:=omega) only[go_sem]
 refine zY (hx b1 _ (upd_same ..)) ?_
 rintro _ _ ⟨_,rfl,rfl,rfl⟩
 simp(disch:=omega) only[ZU,go_sem]
 exact hQ _ _ _ _ nofun rfl rfl
theorem zpj (n:List UInt8) (d:DefD) (b:Nat) (H:zb) (hb:H b=some (.cells (cE d))) (hd:d.faces.length≤Lim):zi Tryz.prog 119 [.str n,.ptr b 0] H (At (.bool (!zL n d.faces)) H):=by
 have h1:=yE d.faces n hd
 obtain⟨k,nm,fs,fl,ps,pa⟩:=d
 simp only at h1 ⊢
 rw[yf] at hb
 generalize zL n fs=x1 at *
 refine zi.go ir119 ck119 (Al4 _) fun KP Q hQ=>?_
 simp(disch:=omega) only[ir119,hb,go_sem]
 refine za h1 ?_
 simp(disch:=omega) only[go_sem]
 exact hQ _ _ _ _ _ nofun rfl (Low.refl _) ⟨by simp[zd,ze,AV.strip,AV.strip1],rfl⟩
def ziS (s:SchD) (d:DefD) (n:List UInt8):Bool:=match yv s n with
 | none=>true
 | some f=>!decide (f.k=2)||(decide (n=d.nm)||f.faces.any fun m=>!zL m d.faces)
theorem zqy (s:SchD) (d:DefD) (n:List UInt8) (b c:Nat) (H:zb) (hb:H b=some (.cells (zl s))) (hc:H c=some (.cells (cE d))) (hs:zI s≤Lim) (hd:bE d≤Lim):zi Tryz.prog 117 [.str n,.ptr b 0,.ptr c 0] H (At (.bool (ziS s d n)) H):=by
 have hl:=z7 hs
 have h1:=zeL s n hl
 have hle:=@Yw s n
 have hs':zI s≤1099511627776:=hs
 have hdf:d.faces.length≤Lim:=by have:=ZS d.faces;simp only[bE] at hd;omega
 have h3:=fun(l:List (List UInt8)) (H2:zb) (hl:l.length≤Lim) (h:H2 c=some (.cells (cE d)))=>zeQ (fun n:List UInt8=>AV.str n) l 119 [.ptr c 0] (fun m=>!zL m d.faces) H2 hl (by kernel_rfl) fun m _=>zpj m d c H2 h hdf
 have hce:cE d=[.int .i64 d.k,.str d.nm,.sl .no 1 (cT d.faces),.sl .no 6 (cLs d.flds),.sl .no 1 (cT d.parts),.sl .no 10 (cWs d.ps)]:=rfl
 have e0:ziS s d n=match yv s n with|none=>true|some f=>!decide (f.k=2)||(decide (n=d.nm)||f.faces.any fun m=>!zL m d.faces):=rfl
 have hc2:=hc
 rw[hce] at hc2
 generalize ziS s d n=F at *
 obtain⟨sd,sq,sm⟩:=s
 generalize hS:(⟨sd,sq,sm⟩:SchD)=s at *
 have hcs:zl s=[.sl .no 6 (cEs sd),.str sq,.str sm]:=by rw[← hS];rfl
 rw[hcs] at h1 hb
 refine zi.go ir117 ck117 (Al4 _) fun KP Q hQ=>?_
 have fin:∀ r,F=r→∀ ρ H1,zG ρ H1 ir117.res=some [.bool r]→Low H H1→Q .ret ρ H1∧Q .normal ρ H1:=fun r e ρ H1 h1 h2=>⟨hQ _ ρ H1 H _ nofun h1 h2 ⟨by rw[e];rfl,rfl⟩,hQ _ ρ H1 H _ nofun h1 h2 ⟨by rw[e];rfl,rfl⟩⟩
 simp(disch:=omega) only[ir117,hb,go_sem]
 refine za h1 ?_
 cases hfe:yv s n with
 | none =>
  rw[hfe] at e0
  simp(disch:=omega) only[Option.getD,Option.isSome,zE,yf,go_sem]
  refine zc fun b5 hb5=>?_
  simp(disch:=omega) only[go_sem]
  exact(fin true e0 _ _ rfl ((Low.refl _).upd hb5)).1
 | some f =>
  rw[hfe] at e0
  obtain⟨hle1,hle2,_,_⟩:=hle hfe
  obtain⟨k,nm,fs,fl,ps,pa⟩:=f
  simp only at e0 hle1 hle2
  have hfs:=ZS fs
  simp(disch:=omega) only[Option.getD,Option.isSome,yf,go_sem]
  refine zc fun b5 hb5=>?_
  have hne:c≠b5:=fun e=>by subst e;rw[hc] at hb5;cases hb5
  by_cases hk:k=2
  case neg =>
   simp(disch:=omega) only[hk,go_sem]
   exact(fin true (by rw[e0];simp[hk]) _ _ rfl ((Low.refl _).upd hb5)).1
  subst hk
  by_cases hn:n=d.nm
  ·have hn':=eq_true hn
   simp(disch:=omega) only[hc2,hne,Ne.symm hne,hn',go_sem]
   exact(fin true (by rw[e0];simp[hn]) _ _ rfl ((Low.refl _).upd hb5)).1
  simp(disch:=omega) only[hc2,hne,Ne.symm hne,hn,go_sem]
  refine zY (h3 fs _ (by simp only[Lim];omega) (by rw[upd_ne hne,hc])) ?_
  rintro _ _ ⟨_,rfl,rfl,rfl⟩
  simp(disch:=omega) only[ZU,go_sem]
  exact(fin (fs.any fun m=>!zL m d.faces) (by rw[e0];simp[hn]) _ _ rfl ((Low.refl _).upd hb5)).1
def zlF (s:SchD) (d:DefD):Bool:=!d.faces.any (ziS s d)
theorem ztG (s:SchD) (d:DefD) (b:Nat) (H:zb) (hb:H b=some (.cells (zl s))) (hs:zI s≤Lim) (hd:bE d≤Lim):zi Tryz.prog 116 [.agg (cE d),.ptr b 0] H (At (.bool (zlF s d)) H):=by
 have hdf:d.faces.length≤Lim:=by have:=ZS d.faces;simp only[bE] at hd;omega
 have h3:=fun(c:Nat) (H2:zb) (h0:H2 b=some (.cells (zl s))) (h:H2 c=some (.cells (cE d)))=>zeQ (fun n:List UInt8=>AV.str n) d.faces 117 [.ptr b 0,.ptr c 0] (ziS s d) H2 hdf (by kernel_rfl) fun m _=>zqy s d m b c H2 h0 h hs hd
 unfold zlF
 generalize d.faces.any (ziS s d)=x1 at *
 obtain⟨k,nm,fs,fl,ps,pa⟩:=d
 simp only[yf] at h3 ⊢
 refine zi.go ir116 ck116 (Al4 _) fun KP Q hQ=>?_
 simp(disch:=omega) only[ir116,go_sem]
 refine zc fun b2 hb2=>?_
 have hne:b≠b2:=fun e=>by subst e;rw[hb] at hb2;cases hb2
 simp(disch:=omega) only[hne,Ne.symm hne,go_sem]
 refine zY (h3 b2 _ (by rw[upd_ne hne,hb]) (upd_same ..)) ?_
 rintro _ _ ⟨_,rfl,rfl,rfl⟩
 simp(disch:=omega) only[ZU,go_sem]
 exact hQ _ _ _ H _ nofun rfl ((Low.refl _).upd hb2) ⟨by simp[zd,ze,AV.strip,AV.strip1],rfl⟩
def zjK (s:SchD):Bool:=s.defs.all (zlF s)
theorem zvE (s:SchD) (hb:zI s≤Lim):zg Tryz.prog 52 [.agg (zl s)] (.bool (zjK s)):=by
 have hl:=z7 hb
 have hx:=fun b H hb'=>zef s 116 [.ptr b 0] (zlF s) H hl (by kernel_rfl) fun d hd=>ztG s d b H hb' hb (ziH hd hb)
 rw[zjK]
 generalize s.defs.all (zlF s)=x1 at *
 obtain⟨sd,sq,sm⟩:=s
 simp only[zl] at hx ⊢
 refine zg.go ir52 ck52 (Al4 _) fun KP Q hQ=>?_
 simp(disch:=omega) only[ir52,go_sem]
 refine zc fun b1 hb1=>?_
 simp(disch:=omega) only[go_sem]
 refine zY (hx b1 _ (upd_same ..)) ?_
 rintro _ _ ⟨_,rfl,rfl,rfl⟩
 simp(disch:=omega) only[ZU,go_sem]
 exact hQ _ _ _ _ nofun rfl rfl
end Go.Proofs.YtbjofkamhijjlaaGreatDoor
