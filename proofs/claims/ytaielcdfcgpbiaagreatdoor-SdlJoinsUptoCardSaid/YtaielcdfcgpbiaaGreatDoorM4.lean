import Derived.Lib.ItoaMem
import Derived.Lib.ItoaLen
import Derived.Lib.ParseIntBTie
import Derived.Lib.ValidLaws
import Derived.Lib.Join
import Derived.Lib.DecodeN
import Derived.Lib.TrimUEq
import Derived.Shelf.Strings.OnBuilder
import Derived.Test.YtaielcdfcgpbiaaGreatDoorM1
import Derived.Test.YtaielcdfcgpbiaaGreatDoorM2
import Derived.Test.YtaielcdfcgpbiaaGreatDoorM3
set_option maxRecDepth 100000
set_option linter.all false
namespace Go.Proofs.YtaielcdfcgpbiaaGreatDoor
open Go.Ab
structure DirD where
 nm:List UInt8
 args:List Mem
inductive SelD where
 | mk (k:Int) (al nm:List UInt8) (args:List Mem) (dirs:List DirD) (on:List UInt8) (sels:List SelD)
structure TyD where
 nm:List UInt8
 lists:Int
 musts:Int
structure VarD where
 nm:List UInt8
 t:TyD
 has:Bool
 d:Val
structure FragD where
 nm:List UInt8
 on:List UInt8
 dirs:List DirD
 sels:List SelD
def cD (x:DirD):List AV:=[.str x.nm,.sl .no 6 (cMs x.args)]
def cDs (l:List DirD):List (List AV):=l.map cD
def cTy (t:TyD):List AV:=[.str t.nm,.int .i64 t.lists,.int .i64 t.musts]
def cW (x:VarD):List AV:=cTy ⟨x.nm,0,0⟩ |>.take 1 |>.append (cTy x.t++(.bool x.has::cV x.d))
def cWs (l:List VarD):List (List AV):=l.map cW
theorem zf0 (nm:List UInt8) (t:TyD) (h:Bool) (d:Val):cW ⟨nm,t,h,d⟩=.str nm::.str t.nm::.int .i64 t.lists::.int .i64 t.musts::.bool h::cV d:=rfl
theorem zcl (l:List DirD):(cDs l).length=l.length:=by simp[cDs]
theorem zeg (l:List VarD):(cWs l).length=l.length:=by simp[cWs]
theorem zeo {l a:List DirD} {x:DirD} {b:List DirD} (h:l=a++x::b):(cDs l).getD a.length []=cD x:=getD_mid' h
theorem zgJ {l a:List VarD} {x:VarD} {b:List VarD} (h:l=a++x::b):(cWs l).getD a.length []=cW x:=getD_mid' h
theorem zfB (x:DirD):(cD x).map AV.strip1=cD x:=rfl
theorem YV (x:VarD):(cW x).map AV.strip1=cW x:=by rcases x with ⟨a,b,c,⟨⟩⟩;rfl
theorem zeu (l:List VarD):(cWs l).map (·.map AV.strip1)=cWs l:=by rw[cWs,List.map_map];exact List.map_congr_left fun v _=>YV v
theorem zdm (x:VarD):(cW x).length=10:=by rcases x with ⟨a,b,c,⟨⟩⟩;rfl
theorem zcf (x:VarD):(cW x).take 10=cW x:=by rcases x with ⟨a,b,c,⟨⟩⟩;rfl
def bD (x:DirD):Nat:=1+x.nm.length+bMs x.args
def bDs (l:List DirD):Nat:=(l.map bD).sum
mutual
def bS:SelD→Nat
 | .mk _ al nm args dirs on sels=>1+al.length+nm.length+on.length+bMs args+bDs dirs+bSs sels
def bSs:List SelD→Nat
 | []=>0
 | x::r=>bS x+bSs r
end
def bW (x:VarD):Nat:=x.nm.length+x.t.nm.length+bV x.d
def bWs (l:List VarD):Nat:=(l.map bW).sum
def bF (x:FragD):Nat:=1+x.nm.length+x.on.length+bDs x.dirs+bSs x.sels
theorem Ya {α:Type} {f:α→Nat} (hf:∀ x,1≤f x):∀ l:List α,l.length≤(l.map f).sum
 | []=>Nat.zero_le _
 | x::r=>by have:=Ya hf r;have:=hf x;simp only[List.map_cons,List.sum_cons,Al2];omega
theorem zax {α:Type} (f:α→Nat) (a:List α) (x:α) (b:List α):((a++x::b).map f).sum=(a.map f).sum+f x+(b.map f).sum:=by simp;omega
theorem zgS (l:List DirD):l.length≤bDs l:=Ya (fun x=>by simp only[bD];omega) l
theorem zgx (l:List VarD):l.length≤bWs l:=Ya (fun x=>by have:=zdt x.d;simp only[bW];omega) l
theorem zgR (a:List DirD) (x:DirD) (b:List DirD):bDs (a++x::b)=bDs a+bD x+bDs b:=zax ..
theorem zgG (a:List VarD) (x:VarD) (b:List VarD):bWs (a++x::b)=bWs a+bW x+bWs b:=zax ..
mutual
theorem SelD.ind {P:SelD→Prop} (h:∀ k al nm args dirs on sels,(∀ v∈sels,P v)→P (.mk k al nm args dirs on sels)):∀ v,P v
 | .mk k al nm args dirs on sels=>h k al nm args dirs on sels (SelD.indL h sels)
theorem SelD.indL {P:SelD→Prop} (h:∀ k al nm args dirs on sels,(∀ v∈sels,P v)→P (.mk k al nm args dirs on sels)):∀ l:List SelD,∀ v∈l,P v
 | [],_,hv=>by cases hv
 | x::r,v,hv=>(List.mem_cons.1 hv).elim (fun e=>e▸SelD.ind h x) (SelD.indL h r v)
end
theorem zgu {t:List UInt8} {v:Val} {m:List Mem} (h:Mem.mk t v∈m):bV v≤bMs m:=by
 obtain⟨a,b,hd⟩:=List.append_of_mem h
 have:=zd9 a (.mk t v) b
 rw[← hd] at this
 simp only[bM] at this
 omega
theorem zf5 (a b:List Mem) (ha:bMs a≤Lim):Pure Tryz.prog 40 [.sl .no 6 (cMs a),.sl .no 6 (cMs b)] (.bool (eqd a b)) :=
 zcV a b (by have:=zco a;omega) fun s v hm u=>zgY v (by have:=zgu hm;omega) u
def hexL:List UInt8:=[48,49,50,51,52,53,54,55,56,57,97,98,99,100,101,102]
def hexD (c:UInt8):Option Nat:=if Lib.indexByte hexL (c ||| 32)<0∨c.toNat<48∨(57<c.toNat∧c.toNat<65) then none else some (Lib.indexByte hexL (c ||| 32)).toNat
def Za:Nat→List UInt8→Nat→Option Nat
 | 0,_,u=>some u
 | _+1,[],_=>none
 | n+1,c::t,u=>match hexD c with
  | none=>none
  | some k=>Za n t (16*u+k)
def ZC (s:List UInt8):Option Nat:=Za 4 s 0
def yI (n:Nat):List UInt8 :=
 if n≤127 then [UInt8.ofNat n]
 else if n≤2047 then [UInt8.ofNat (192+n / 64),UInt8.ofNat (128+n % 64)]
 else if n≤65535 then [UInt8.ofNat (224+n / 4096),UInt8.ofNat (128+n / 64 % 64),UInt8.ofNat (128+n % 64)]
 else [UInt8.ofNat (240+n / 262144),UInt8.ofNat (128+n / 4096 % 64),UInt8.ofNat (128+n / 64 % 64),UInt8.ofNat (128+n % 64)]
def zN:List Nat→Option (List UInt8)
 | []=>some []
 | u::r=>if 65535<u∨(56320≤u∧u≤57343) then none
  else if 55296≤u∧u<56320 then match r with
   | []=>none
   | v::r=>if v<56320∨57343<v then none else (zN r).map (yI (65536+1024*(u-55296)+(v-56320))++·)
  else (zN r).map (yI u++·)
structure Sd where
 b:List UInt8
 u:List Nat
 ok:Bool
def yx (q:Sd):Sd:=⟨q.b++(zN q.u).getD [],[],q.ok&&(zN q.u).isSome⟩
def Sd.put (q:Sd) (c:UInt8):Sd:=⟨(yx q).b++[c],[],(yx q).ok⟩
def zch:List UInt8:=[34,92,47,98,102,110,114,116]
def zhM:List UInt8:=[34,92,47,8,12,10,13,9]
def ZR (q:Sd):List UInt8→Option (Sd×List UInt8)
 | []=>none
 | c::t=>if c=117 then (ZC t).map fun u=>(⟨q.b,q.u++[u],q.ok⟩,t.drop 4)
  else if Lib.indexByte zch c<0 then none else some (q.put (zhM.getD (Lib.indexByte zch c).toNat 0),t)
def YR (may:UInt8→Bool):Nat→List UInt8→Sd→Option (Sd×List UInt8)
 | 0,_,_=>none
 | _+1,[],_=>none
 | n+1,c::t,q=>if c=34 then some (yx q,t)
  else if c=92 then match ZR q t with
   | none=>none
   | some (q',t')=>YR may n t' q'
  else if may c then YR may n t (q.put c) else none
def Zp (may:UInt8→Bool) (t:List UInt8):Option (List UInt8×List UInt8):=match YR may (t.length+1) t ⟨[],[],true⟩ with
 | some (q,t')=>if q.ok then some (q.b,t') else none
 | none=>none
def bk (c:UInt8):Bool:=decide (0≤Lib.indexByte [9,10,13,32] c)
def nch (c:UInt8):Bool:=decide (0≤Lib.indexByte [48,49,50,51,52,53,54,55,56,57,43,45,46,101,69] c)
def nst (c:UInt8):Bool:=decide (0≤Lib.indexByte [45,48,49,50,51,52,53,54,55,56,57] c)
def zcg (s:List UInt8):Val:=if ZG s then .mk 2 (zcM s) [] [] [] else .mk 3 0 s [] []
theorem zc1 {q q':Sd} {t t':List UInt8} (h:ZR q t=some (q',t')):t' <:+ t∧t'.length<t.length:=by
 cases t with
 | nil=>cases h
 | cons c t =>
  simp only[ZR] at h
  split at h
  ·cases hu:ZC t with
   | none=>simp[hu] at h
   | some u =>
    simp only[hu,zQ,Al1,Al8] at h
    obtain⟨_,rfl⟩:=h
    exact⟨(List.drop_suffix _ _).trans (List.suffix_cons ..),by simp;omega⟩
  ·split at h
   ·cases h
   ·simp only[Al1,Al8] at h
    obtain⟨_,rfl⟩:=h
    exact⟨List.suffix_cons ..,by simp⟩
theorem zaB {may:UInt8→Bool}:∀(n:Nat) (t:List UInt8) (q q':Sd) (t':List UInt8),YR may n t q=some (q',t')→t' <:+ t∧t'.length<t.length
 | 0,_,_,_,_,h=>by cases h
 | _+1,[],_,_,_,h=>by cases h
 | n+1,c::t,q,q',t',h=>by
  simp only[YR] at h
  split at h
  ·simp only[Al1,Al8] at h
   obtain⟨_,rfl⟩:=h
   exact⟨List.suffix_cons ..,by simp⟩
  ·split at h
   ·cases he:ZR q t with
    | none=>simp[he] at h
    | some x =>
     obtain⟨q1,t1⟩:=x
     simp only[he] at h
     have h1:=zc1 he
     have h2:=zaB n t1 q1 q' t' h
     exact⟨(h2.1.trans h1.1).trans (List.suffix_cons ..),by simp;omega⟩
   ·split at h
    ·have h2:=zaB n t _ q' t' h
     exact⟨h2.1.trans (List.suffix_cons ..),by simp;omega⟩
    ·cases h
theorem zcP {may:UInt8→Bool} {t t' b:List UInt8} (h:Zp may t=some (b,t')):t' <:+ t∧t'.length<t.length:=by
 unfold Zp at h
 split at h
 ·rename_i q t1 hq
  split at h
  ·cases h;exact zaB _ _ _ _ _ hq
  ·cases h
 ·cases h
theorem Yk:∀(n:Nat) (t:List UInt8) (u v:Nat),Za n t u=some v→n≤t.length
 | 0,_,_,_,_=>Nat.zero_le _
 | n+1,[],_,_,h=>by cases h
 | n+1,c::t,u,v,h=>by
  simp only[Za] at h
  split at h
  ·cases h
  ·have:=Yk n t _ v h;simp;omega
theorem ZW (n:Nat):(yI n).length≤4∧(n≤65535→(yI n).length≤3):=by
 unfold yI
 split
 ·simp
 ·split
  ·simp
  ·split
   ·simp
   ·refine⟨by simp,fun h=>by omega⟩
theorem Y8:∀(u:List Nat) (s:List UInt8),zN u=some s→s.length≤3*u.length
 | [],s,h=>by cases h;simp
 | u::[],s,h=>by
  simp only[zN] at h
  split at h
  ·cases h
  ·rename_i h1
   split at h
   ·cases h
   ·simp only[zQ,Al1] at h
    subst h
    have:=(ZW u).2 (by omega)
    simp;omega
 | u::v::r,s,h=>by
  rw[zN] at h
  split at h
  ·cases h
  ·rename_i h1
   split at h
   ·split at h
    ·cases h
    ·cases hr:zN r with
     | none=>simp[hr] at h
     | some x =>
      simp only[hr,zQ,Al1] at h
      subst h
      have h2:=Y8 r x hr
      have h3:=(ZW (65536+1024*(u-55296)+(v-56320))).1
      simp only[Al5,Al2];omega
   ·cases hr:zN (v::r) with
    | none=>simp[hr] at h
    | some x =>
     simp only[hr,zQ,Al1] at h
     subst h
     have h2:=Y8 (v::r) x hr
     have h3:=(ZW u).2 (by omega)
     simp only[Al5,Al2] at h2 ⊢;omega
def Sd.w (q:Sd):Nat:=q.b.length+3*q.u.length
theorem YM (q:Sd):(yx q).b.length≤q.w:=by
 unfold yx Sd.w
 cases h:zN q.u with
 | none=>simp
 | some s=>have:=Y8 _ _ h;simp;omega
theorem ze9 (q:Sd) (c:UInt8):(q.put c).w≤q.w+1:=by
 have:=YM q
 simp only[Sd.put,Sd.w,Al5,Al2,Al3] at this ⊢;omega
theorem zgi {q q':Sd} {t t':List UInt8} (h:ZR q t=some (q',t')):q'.w+t'.length≤q.w+t.length:=by
 cases t with
 | nil=>cases h
 | cons c t =>
  simp only[ZR] at h
  split at h
  ·cases hu:ZC t with
   | none=>simp[hu] at h
   | some u =>
    simp only[hu,zQ,Al1,Al8] at h
    obtain⟨rfl,rfl⟩:=h
    have:=Yk _ _ _ _ hu
    simp only[Sd.w,Al5,Al2,Al3,yQ];omega
  ·split at h
   ·cases h
   ·simp only[Al1,Al8] at h
    obtain⟨rfl,rfl⟩:=h
    have:=ze9 q (zhM.getD (Lib.indexByte zch c).toNat 0)
    simp only[Al2];omega
theorem zdq {may:UInt8→Bool}:∀(n:Nat) (t:List UInt8) (q q':Sd) (t':List UInt8),YR may n t q=some (q',t')→q'.b.length+t'.length+1≤q.w+t.length
 | 0,_,_,_,_,h=>by cases h
 | _+1,[],_,_,_,h=>by cases h
 | n+1,c::t,q,q',t',h=>by
  simp only[YR] at h
  split at h
  ·simp only[Al1,Al8] at h
   obtain⟨rfl,rfl⟩:=h
   have:=YM q
   simp only[Al2];omega
  ·split at h
   ·cases he:ZR q t with
    | none=>simp[he] at h
    | some x =>
     obtain⟨q1,t1⟩:=x
     simp only[he] at h
     have h1:=zgi he
     have h2:=zdq n t1 q1 q' t' h
     simp only[Al2];omega
   ·split at h
    ·have h2:=zdq n t _ q' t' h
     have h3:=ze9 q c
     simp only[Al2];omega
    ·cases h
theorem zg6 {may:UInt8→Bool} {t t' b:List UInt8} (h:Zp may t=some (b,t')):b.length+t'.length+1≤t.length:=by
 unfold Zp at h
 split at h
 ·rename_i q t1 hq
  split at h
  ·cases h;have:=zdq _ _ _ _ _ hq;simpa[Sd.w] using this
  ·cases h
 ·cases h
theorem zcx:inR 0:=by simp[inR]
theorem zez {s:List UInt8} {n:Int} (h:Lib.parseIntB 64 s=.ok n):inR n:=by
 cases s with
 | nil=>cases h
 | cons c r =>
  simp only[Lib.parseIntB] at h
  split at h
  ·cases h
  ·cases h
  ·split at h
   ·cases h
   ·split at h
    ·cases h
    ·rename_i h1 h2
     cases h
     simp only[inR]
     split<;>simp_all<;>omega
theorem zfr (s:List UInt8):bV (zcg s)≤1+s.length∧wfV (zcg s):=by
 unfold zcg
 split
 ·rename_i h
  refine⟨by simp only[bV,bVs,bMs,Al3];omega,?_,trivial,trivial⟩
  unfold ZG at h
  unfold zcM
  rcases hp:Lib.parseIntB 64 s with v|_|_
  ·exact zez hp
  ·exact zcx
  ·rw[hp] at h;simp[okI] at h
 ·exact⟨by simp only[bV,bVs,bMs];omega,zcx,trivial,trivial⟩
abbrev TS:=List Tok
def hdT (t:TS):Tok:=t.headD ⟨0,[]⟩
def isP (m:List UInt8) (t:TS):Bool:=decide ((hdT t).k=1)&&decide ((hdT t).s=m)
def isW (w:List UInt8) (t:TS):Bool:=decide ((hdT t).k=2)&&decide ((hdT t).s=w)
abbrev PR (α:Type):=Except Int (α×TS)
def pb {α β:Type} (x:PR α) (f:α→TS→PR β):PR β:=match x with
 | .ok (a,t)=>f a t
 | .error e=>.error e
theorem zd {α β:Type} (a:α) (t:TS) (f:α→TS→PR β):pb (.ok (a,t)) f=f a t:=rfl
def zG (m:List UInt8) (t:TS):PR Unit:=if isP m t then .ok ((),t.tail) else .error 2
def zv (t:TS):PR (List UInt8):=if (hdT t).k=2 then .ok ((hdT t).s,t.tail) else .error 2
def zy (w:List UInt8) (t:TS):TS:=if isW w t then t.tail else t
def zr {α:Type} (m:List UInt8) (f:TS→PR α):Nat→List α→TS→PR (List α)
 | 0,_,_=>.error 0
 | n+1,l,t=>if isP m t then .ok (l,t.tail) else pb (f t) fun x t=>zr m f n (l++[x]) t
def ya {α:Type} (m:List UInt8) (f:TS→PR α) (t:TS):PR (List α):=pb (f t) fun x t=>zr m f (t.length+1) [x] t
def zH {α:Type} (m:List UInt8) (f:TS→PR α):Nat→List α→TS→PR (List α)
 | 0,_,_=>.error 0
 | n+1,l,t=>if isP m t then pb (f t.tail) fun x t=>zH m f n (l++[x]) t else .ok (l,t)
def Ys (ty:TyD) (t:TS):PR TyD:=if isP [33] t then .ok (⟨ty.nm,ty.lists,ty.musts+1⟩,t.tail) else .ok (ty,t)
def zfl {α:Type} (f:Nat→α):Nat→Option α
 | 0=>none
 | k+1=>some (f k)
theorem zdS {α:Type} (f:Nat→α) (k:Nat):zfl f (k+1)=some (f k):=rfl
def zbs (sub:Option (TS→PR TyD)) (t:TS):PR TyD:=if isP [91] t then (match sub with
   | none=>.error 4
   | some f=>pb (f t.tail) fun ty t=>pb (zG [93] t) fun _ t=>Ys ⟨ty.nm,ty.lists+1,ty.musts*2⟩ t)
  else pb (zv t) fun s t=>Ys ⟨s,0,0⟩ t
def Zo:Nat→TS→PR TyD
 | 0=>zbs none
 | k+1=>zbs (some (Zo k))
theorem ZJ (k:Nat) (t:TS):Zo k t=zbs (zfl Zo k) t:=by cases k<;>rfl
def Z6 (s:List UInt8):Val:=if s=[110,117,108,108] then zV else if s=[116,114,117,101] then .mk 1 1 [] [] [] else if s=[102,97,108,115,101] then .mk 1 0 [] [] [] else .mk 5 0 s [] []
def zF (v:TS→PR Val) (t:TS):PR Mem:=pb (zv t) fun s t=>pb (zG [58] t) fun _ t=>pb (v t) fun x t=>.ok (.mk s x,t)
def Zi (fixed:Bool) (sub:Option (TS→PR Val)) (t:TS):PR Val :=
  if (hdT t).k=2 then .ok (Z6 (hdT t).s,t.tail)
  else if (hdT t).k=3∨(hdT t).k=4 then .ok (zcg (hdT t).s,t.tail)
  else if (hdT t).k=5 then .ok (.mk 4 0 (hdT t).s [] [],t.tail)
  else if isP [91] t then (match sub with
   | none=>.error 4
   | some f=>pb (zr [93] f (t.tail.length+1) [] t.tail) fun l t=>.ok (.mk 6 0 [] l [],t))
  else if isP [123] t then (match sub with
   | none=>.error 4
   | some f=>pb (zr [125] (zF f) (t.tail.length+1) [] t.tail) fun l t=>.ok (.mk 7 0 [] [] l,t))
  else if fixed then .error 2
  else pb (zG [36] t) fun _ t=>pb (zv t) fun s t=>.ok (.mk 8 0 s [] [],t)
def zX (fixed:Bool):Nat→TS→PR Val
 | 0=>Zi fixed none
 | k+1=>Zi fixed (some (zX fixed k))
theorem zL (fixed:Bool) (k:Nat) (t:TS):zX fixed k t=Zi fixed (zfl (zX fixed) k) t:=by cases k<;>rfl
def Zw (fixed:Bool) (k:Nat) (t:TS):PR (List Mem):=if isP [40] t then ya [41] (zF (zX fixed k)) t.tail else .ok ([],t)
def zbq (fixed:Bool) (k:Nat) (t:TS):PR DirD:=pb (zv t) fun s t=>pb (Zw fixed k t) fun a t=>.ok (⟨s,a⟩,t)
def Z0 (fixed:Bool) (k:Nat) (t:TS):PR (List DirD):=zH [64] (zbq fixed k) (t.length+1) [] t
def wK (t:Tok):Nat:=t.s.length+4
def wT (l:TS):Nat:=(l.map wK).sum
theorem zce (x:Tok) (l:TS):wT (x::l)=wK x+wT l:=by simp[wT]
theorem zhd {a b:TS} (h:a <:+ b):wT a≤wT b:=by
 obtain⟨p,rfl⟩:=h;simp[wT]
structure Fp {α:Type} (b:α→Nat) (ok:α→Prop) (c:Nat) (t:TS) (a:α) (t':TS):Prop where
 suf:t' <:+ t
 w:b a+c+wT t'≤wT t
 ok:ok a
def GP {α:Type} (b:α→Nat) (ok:α→Prop) (c:Nat) (f:TS→PR α):Prop:=∀ t a t',f t=.ok (a,t')→Fp b ok c t a t'
theorem Fp.lt {α:Type} {b:α→Nat} {ok:α→Prop} {c:Nat} {t t':TS} {a:α} (h:Fp b ok c t a t') (hc:0<c):t'.length<t.length:=by
 obtain⟨p,hp⟩:=h.suf
 have h2:=h.w
 cases p with
 | nil=>simp at hp;subst hp;omega
 | cons x p=>rw[← hp];simp;omega
theorem zS {t:TS} (h:(hdT t).k≠0):t=hdT t::t.tail:=by
 cases t with
 | nil=>exact absurd rfl h
 | cons x t=>rfl
theorem yS {m:List UInt8} {t:TS} (h:isP m t=true):(hdT t).k≠0:=by
 simp only[isP,Al0,zm] at h;rw[h.1];decide
theorem Y4 {m:List UInt8} {t:TS} (h:isW m t=true):(hdT t).k≠0:=by
 simp only[isW,Al0,zm] at h;rw[h.1];decide
theorem YD {t:TS} (h:(hdT t).k≠0):t.tail <:+ t∧(hdT t).s.length+4+wT t.tail=wT t:=by
 refine⟨List.tail_suffix t,?_⟩
 conv=>rhs;rw[zS h,zce]
 rfl
theorem Zf {m:List UInt8} {t:TS} (h:isP m t=true):t.tail <:+ t∧4+wT t.tail≤wT t:=by
 have:=YD (yS h);exact⟨this.1,by omega⟩
theorem Yj {m:List UInt8} {t:TS} (h:isW m t=true):t.tail <:+ t∧4+wT t.tail≤wT t:=by
 have:=YD (Y4 h);exact⟨this.1,by omega⟩
def T1 {α:Type} (_:α):Prop:=True
def b0 {α:Type} (_:α):Nat:=0
theorem zO (m:List UInt8):GP b0 T1 4 (zG m):=fun t a t' h=>by
 unfold zG at h
 split at h
 ·rename_i hp;simp only[Yu,Al8] at h;obtain⟨_,rfl⟩:=h
  have:=Zf hp;exact⟨this.1,by simp only[b0];omega,trivial⟩
 ·cases h
theorem zu:GP List.length T1 4 zv:=fun t a t' h=>by
 unfold zv at h
 split at h
 ·rename_i hp;simp only[Yu,Al8] at h;obtain⟨rfl,rfl⟩:=h
  have:=YD (t:=t) (by rw[hp];decide);exact⟨this.1,by omega,trivial⟩
 ·cases h
theorem zc {α β:Type} {x:PR α} {f:α→TS→PR β} {b:β} {t':TS} (h:pb x f=.ok (b,t')):∃ a t,x=.ok (a,t)∧f a t=.ok (b,t'):=by
 rcases x with e|⟨a,t⟩
 ·cases h
 ·exact⟨a,t,rfl,h⟩
def sm {α:Type} (b:α→Nat) (l:List α):Nat:=(l.map b).sum+l.length
theorem zec {α:Type} (b:α→Nat) (l:List α) (x:α):sm b (l++[x])=sm b l+b x+1:=by simp[sm];omega
theorem zer {α:Type} {ok:α→Prop} {l:List α} {x:α} (h:∀ y∈l,ok y) (hx:ok x):∀ y∈l++[x],ok y:=fun y hy=>by
 rcases List.mem_append.1 hy with h1|h1
 ·exact h y h1
 ·simp at h1;subst h1;exact hx
theorem Z9 {α:Type} {b:α→Nat} {ok:α→Prop} {m:List UInt8} {f:TS→PR α} (hf:GP b ok 1 f):∀(n:Nat) (l:List α) (t:TS) (l':List α) (t':TS),(∀ x∈l,ok x)→zr m f n l t=.ok (l',t')→t' <:+ t∧sm b l'+4+wT t'≤sm b l+wT t∧∀ x∈l',ok x
 | 0,_,_,_,_,_,h=>by cases h
 | n+1,l,t,l',t',hl,h=>by
  simp only[zr] at h
  split at h
  ·rename_i hp;simp only[Yu,Al8] at h;obtain⟨rfl,rfl⟩:=h
   have:=Zf hp;exact⟨this.1,by omega,hl⟩
  ·obtain⟨x,t1,h1,h2⟩:=zc h
   have g1:=hf _ _ _ h1
   have w:=g1.w
   have g2:=Z9 hf n _ _ _ _ (zer hl g1.ok) h2
   rw[zec] at g2
   exact⟨g2.1.trans g1.suf,by omega,g2.2.2⟩
theorem Yz {α:Type} {b:α→Nat} {ok:α→Prop} {m:List UInt8} {f:TS→PR α} (hf:GP b ok 1 f):∀(n:Nat) (l:List α) (t:TS) (l':List α) (t':TS),(∀ x∈l,ok x)→zH m f n l t=.ok (l',t')→t' <:+ t∧sm b l'+wT t'≤sm b l+wT t∧∀ x∈l',ok x
 | 0,_,_,_,_,_,h=>by cases h
 | n+1,l,t,l',t',hl,h=>by
  simp only[zH] at h
  split at h
  ·rename_i hp
   have h0:=Zf hp
   obtain⟨x,t1,h1,h2⟩:=zc h
   have g1:=hf _ _ _ h1
   have w:=g1.w
   have g2:=Yz hf n _ _ _ _ (zer hl g1.ok) h2
   rw[zec] at g2
   exact⟨(g2.1.trans g1.suf).trans h0.1,by omega,g2.2.2⟩
  ·simp only[Yu,Al8] at h;obtain⟨rfl,rfl⟩:=h
   exact⟨List.suffix_refl t,by omega,hl⟩
theorem Zb {α:Type} {b:α→Nat} {ok:α→Prop} {m:List UInt8} {f:TS→PR α} (hf:GP b ok 1 f):GP (sm b) (fun l=>∀ x∈l,ok x) 4 (ya m f):=fun t l t' h=>by
 obtain⟨x,t1,h1,h2⟩:=zc h
 have g1:=hf _ _ _ h1
 have w:=g1.w
 have g2:=Z9 hf _ [x] _ _ _ (fun y hy=>by simp at hy;subst hy;exact g1.ok) h2
 have e:sm b [x]=b x+1:=by simp[sm]
 exact⟨g2.1.trans g1.suf,by omega,g2.2.2⟩
theorem zat {m:List UInt8} {t:TS} (h:isP m t=true):t.tail.length<t.length:=by
 conv=>rhs;rw[zS (yS h)]
 simp
theorem GP.lt {α:Type} {b:α→Nat} {ok:α→Prop} {c:Nat} {f:TS→PR α} (h:GP b ok c f) (hc:0<c):∀ t a t',f t=.ok (a,t')→t'.length<t.length:=fun t a t' e=>(h t a t' e).lt hc
def ziq (ty:TyD) (n:Nat):Prop:=0≤ty.lists∧ty.lists≤n∧0≤ty.musts∧ty.musts<2 ^ (ty.lists.toNat+1)∧ty.musts % 2=0
def zcQ (n:Nat) (ty:TyD):Prop:=0≤ty.lists∧ty.lists≤n∧0≤ty.musts∧ty.musts<2 ^ (ty.lists.toNat+1)
theorem zbU {ty:TyD} {n:Nat} (h:ziq ty n):∀ t a t',Ys ty t=.ok (a,t')→t' <:+ t∧a.nm=ty.nm∧wT t'≤wT t∧zcQ n a:=fun t a t' e=>by
 obtain⟨h1,h2,h3,h4,h5⟩:=h
 unfold Ys at e
 split at e
 ·rename_i hp;simp only[Yu,Al8] at e;obtain⟨rfl,rfl⟩:=e
  have:=Zf hp
  refine⟨this.1,rfl,by omega,h1,h2,by simp only;omega,?_⟩
  have e2:(2:Int) ^ (ty.lists.toNat+1) % 2=0:=by rw[Int.pow_succ];omega
  simp only;omega
 ·simp only[Yu,Al8] at e;obtain⟨rfl,rfl⟩:=e
  exact⟨List.suffix_refl t,rfl,Al4 _,h1,h2,h3,h4⟩
theorem zbR (n:Nat) (ih:∀ m,n=m+1→GP (fun ty=>ty.nm.length) (zcQ m) 4 (Zo m)):GP (fun ty=>ty.nm.length) (zcQ n) 4 (Zo n):=fun t a t' h=>by
 rw[ZJ,zbs.eq_def] at h
 split at h
 ·rename_i hp
  have h0:=Zf hp
  cases n with
  | zero=>cases h
  | succ n =>
   obtain⟨ty,t1,h1,h2⟩:=zc h
   obtain⟨_,t2,h3,h4⟩:=zc h2
   have g1:=ih n rfl _ _ _ h1
   have g3:=zO _ _ _ _ h3
   obtain⟨a1,a2,a3,a4⟩:=g1.ok
   have e1:(ty.lists+1).toNat=ty.lists.toNat+1:=by omega
   have g4:=zbU (n:=n+1) ⟨by simp only;omega,by simp only;omega,by simp only;omega,by simp only;rw[e1,Int.pow_succ];omega,by simp only;omega⟩ _ _ _ h4
   have w1:=g1.w
   have w3:=g3.w
   simp only[b0] at w1 w3
   exact⟨((g4.1.trans g3.suf).trans g1.suf).trans h0.1,by rw[g4.2.1];simp only;omega,g4.2.2.2⟩
 ·obtain⟨s,t1,h1,h2⟩:=zc h
  have g1:=zu _ _ _ h1
  have g4:=zbU (n:=n) ⟨by simp,by simp,by simp,by simp,by simp⟩ _ _ _ h2
  have w1:=g1.w
  exact⟨g4.1.trans g1.suf,by rw[g4.2.1];simp only;omega,g4.2.2.2⟩
theorem za2:∀ n,GP (fun ty=>ty.nm.length) (zcQ n) 4 (Zo n)
 | 0=>zbR 0 fun m h=>by cases h
 | k+1=>zbR (k+1) fun m h=>by cases h;exact za2 k
def yG (x:Tok):AV:=.agg [.int .i64 x.k,.str x.s]
def y7:Own→Option Nat
 | .tip b _=>some b
 | _=>none
structure Sep (H:Heap) (l:List (Own×Nat×Nat)):Prop where
 own:∀ x∈l,Owned H x.1 x.2.1 x.2.2
 nd:(l.filterMap fun x=>y7 x.1).Nodup
theorem ZO {o:Own} {b:Nat} (h:y7 o=some b):∃ d,o=.tip b d:=by
 cases o<;>simp[y7] at h
 rename_i c d;subst h;exact⟨d,rfl⟩
theorem Owned.ofKept {H H':Heap} {o o2:Own} {n sz:Nat} (h:Owned H o n sz) (hk:Kept H o2 H') (hne:∀ b d d2,o=.tip b d→o2≠.tip b d2):Owned H' o n sz:=by
 cases o with
 | tip b d=>exact hk b _ h fun d2 e=>hne b d d2 rfl e
 | no=>exact h
 | nil=>exact h
 | full=>exact h
theorem Sep.step {H H':Heap} {a b:List (Own×Nat×Nat)} {o o':Own} {n n' sz:Nat} (h:Sep H (a++(o,n,sz)::b)) (h':OwnS H o H' o' n' sz):Sep H' (a++(o',n',sz)::b):=by
 have hnd:=h.nd
 simp only[List.filterMap_append,List.filterMap_cons] at hnd
 have hother:∀ x,x∈a∨x∈b→∀ c d d2,x.1=.tip c d→o≠.tip c d2:=fun x hx c d d2 hxe e=>by
  subst e
  simp only[y7] at hnd
  rw[List.nodup_append] at hnd
  obtain⟨_,hb,hab⟩:=hnd
  rcases hx with hx|hx
  ·exact hab c (List.mem_filterMap.2 ⟨x,hx,by rw[hxe]⟩) c (yM ..) rfl
  ·exact(List.nodup_cons.1 hb).1 (List.mem_filterMap.2 ⟨x,hx,by rw[hxe]⟩)
 refine⟨fun x hx=>?_,?_⟩
 ·rcases List.mem_append.1 hx with hx|hx
  ·exact Owned.ofKept (h.own x (by simp[hx])) h'.kept fun c d d2=>hother x (.inl hx) c d d2
  ·rcases List.mem_cons.1 hx with rfl|hx
   ·exact h'.own
   ·exact Owned.ofKept (h.own x (by simp[hx])) h'.kept fun c d d2=>hother x (.inr hx) c d d2
 ·simp only[List.filterMap_append,List.filterMap_cons]
  have hsub:∀ c,c∈a.filterMap (fun x=>y7 x.1)∨c∈b.filterMap (fun x=>y7 x.1)→y7 o'≠some c:=fun c hc e=>by
   obtain⟨d',e⟩:=ZO e
   have hH:H c≠none∧∀ d0,o≠.tip c d0:=by
    rcases hc with hc|hc<;>obtain⟨x,hx,hxe⟩:=List.mem_filterMap.1 hc<;>obtain⟨d,hxe⟩:=ZO hxe
    ·have:=h.own x (by simp[hx]);rw[hxe] at this
     have h2:H c=some _:=this
     exact⟨by simp[h2],fun d0=>hother x (.inl hx) c d d0 hxe⟩
    ·have:=h.own x (by simp[hx]);rw[hxe] at this
     have h2:H c=some _:=this
     exact⟨by simp[h2],fun d0=>hother x (.inr hx) c d d0 hxe⟩
   rcases h'.new c d' e with h1|⟨d0,h1⟩
   ·exact hH.1 h1
   ·exact hH.2 d0 h1
  have hnd2:(a.filterMap (fun x=>y7 x.1)++b.filterMap (fun x=>y7 x.1)).Nodup:=by
   cases ho:y7 o with
   | none=>rw[ho] at hnd;exact hnd
   | some c =>
    rw[ho] at hnd
    rw[List.nodup_append] at hnd ⊢
    exact⟨hnd.1,(List.nodup_cons.1 hnd.2.1).2,fun x hx y hy=>hnd.2.2 x hx y (y8 _ hy)⟩
  cases ho:y7 o' with
  | none=>exact hnd2
  | some c =>
   have hc:=hsub c
   rw[List.nodup_append] at hnd2 ⊢
   refine⟨hnd2.1,List.nodup_cons.2 ⟨fun hm=>hc (.inr hm) ho,hnd2.2.1⟩,fun x hx y hy=>?_⟩
   rcases List.mem_cons.1 hy with rfl|hy
   ·exact fun e=>hc (.inl (e▸hx)) ho
   ·exact hnd2.2.2 x hx y hy
theorem Sep.mono {H H':Heap} {l:List (Own×Nat×Nat)} (h:Sep H l) (hk:∀ c n sz,H c=some (.tip n sz)→H' c=some (.tip n sz)):Sep H' l :=
 ⟨fun x hx=>by
  have:=h.own x hx
  obtain⟨o,n,sz⟩:=x
  cases o with
  | tip c d=>exact hk c _ _ this
  | no=>exact this
  | nil=>exact this
  | full=>exact this,h.nd⟩
open Go.Lib Go.RowKit Go.Sort
theorem zaJ (s:List UInt8) (c:UInt8):Pure Tryz.prog 122 [.str s,.int .u8 c.toNat] (.int .i64 (Lib.indexByte s c)):=by
 refine Pure.of_calls fun γ w vs ht hv=>?_
 obtain⟨hl,hr⟩:=hv
 match vs,hl with
 | [v,u],_ =>
  cases hr 0 _ _ rfl rfl
  cases hr 1 _ _ rfl rfl
  refine(Tryz.strings_IndexByte ⟨s.toArray⟩ c.toNat w).mono fun e w' ⟨he,hw⟩=>⟨hw,_,he,?_⟩
  have e1:((c.toNat:Int)).toNat.toUInt8=c:=by simp
  rw[e1]
  exact .int _ _
end Go.Proofs.YtaielcdfcgpbiaaGreatDoor
namespace Go.Proofs.YtaielcdfcgpbiaaGreatDoor
open Go.Ab
theorem zt (l:List UInt8):(bytesOf l).length=l.length:=by simp[bytesOf]
theorem zR (a b:List UInt8):bytesOf a++bytesOf b=bytesOf (a++b):=by simp[bytesOf]
theorem ym (l:List UInt8):(bytesOf l).map (·.map AV.strip1)=bytesOf l:=by simp[bytesOf,AV.strip1]
theorem zcw (l:List UInt8):byts (bytesOf l)=some l:=by
 induction l with
 | nil=>rfl
 | cons c r ih =>
  have h:=c.toNat_lt
  simp only[bytesOf,List.map_cons] at ih ⊢
  simp only[byts,ih,zQ]
  rw[if_pos ⟨by omega,by omega⟩]
  simp
theorem zah (acc:List UInt8) (c:UInt8):bytesOf acc++[[.int .u8 c.toNat]]=bytesOf (acc++[c]):=zR acc [c]
theorem zh2 {n:Nat} (h:n<4294967296):IntKind.wrap .u32 (n:Int)=n:=by
 have e:IntKind.wrap .u32 (n:Int)=(n:Int) % 4294967296:=rfl
 rw[e];omega
theorem zfN {n:Nat} (h:n<2147483648):IntKind.wrap .i32 (n:Int)=n:=by
 have e:IntKind.wrap .i32 (n:Int)=if (n:Int) % 4294967296≥2147483648 then (n:Int) % 4294967296-4294967296 else (n:Int) % 4294967296:=by
  simp[IntKind.wrap,IntKind.bits,IntKind.signed]
 rw[e];split<;>omega
theorem wr8 (n:Nat):IntKind.wrap .u8 (n:Int)=((n % 256:Nat):Int):=by
 have e:IntKind.wrap .u8 (n:Int)=(n:Int) % 256:=rfl
 rw[e];omega
theorem fd6 (n:Nat):(n:Int).fdiv (2 ^ min 6 IntKind.i32.bits)=((n / 64:Nat):Int):=by
 show (n:Int).fdiv 64=_
 rw[Int.fdiv_eq_ediv_of_nonneg _ (by decide)];omega
theorem zhp (n:Nat):(n:Int).fdiv (2 ^ min 12 IntKind.i32.bits)=((n / 4096:Nat):Int):=by
 show (n:Int).fdiv 4096=_
 rw[Int.fdiv_eq_ediv_of_nonneg _ (by decide)];omega
theorem zii (n:Nat):(n:Int).fdiv (2 ^ min 18 IntKind.i32.bits)=((n / 262144:Nat):Int):=by
 show (n:Int).fdiv 262144=_
 rw[Int.fdiv_eq_ediv_of_nonneg _ (by decide)];omega
theorem zhL:∀ x:Fin 32,IntKind.wrap .u8 ((BitVec.ofInt IntKind.u8.bits 192 ||| BitVec.ofInt IntKind.u8.bits ((x.val:Nat):Int)).toNat:Int)=((UInt8.ofNat (192+x.val)).toNat:Int):=by decide +kernel
theorem zhJ:∀ x:Fin 16,IntKind.wrap .u8 ((BitVec.ofInt IntKind.u8.bits 224 ||| BitVec.ofInt IntKind.u8.bits ((x.val:Nat):Int)).toNat:Int)=((UInt8.ofNat (224+x.val)).toNat:Int):=by decide +kernel
theorem zhW:∀ x:Fin 8,IntKind.wrap .u8 ((BitVec.ofInt IntKind.u8.bits 240 ||| BitVec.ofInt IntKind.u8.bits ((x.val:Nat):Int)).toNat:Int)=((UInt8.ofNat (240+x.val)).toNat:Int):=by decide +kernel
theorem zhH:∀ x:Fin 256,IntKind.wrap .u8 ((BitVec.ofInt IntKind.u8.bits 128 ||| BitVec.ofInt IntKind.u8.bits (IntKind.wrap .u8 ((BitVec.ofInt IntKind.u8.bits ((x.val:Nat):Int) &&& BitVec.ofInt IntKind.u8.bits 63).toNat:Int))).toNat:Int)=((UInt8.ofNat (128+x.val % 64)).toNat:Int):=by decide +kernel
theorem zhD {m:Nat} (h:m<32):IntKind.wrap .u8 ((BitVec.ofInt IntKind.u8.bits 192 ||| BitVec.ofInt IntKind.u8.bits (IntKind.wrap .u8 (m:Int))).toNat:Int)=((UInt8.ofNat (192+m)).toNat:Int):=by
 rw[wr8 m,Nat.mod_eq_of_lt (show m<256 by omega)];exact zhL ⟨m,h⟩
theorem zgX {m:Nat} (h:m<16):IntKind.wrap .u8 ((BitVec.ofInt IntKind.u8.bits 224 ||| BitVec.ofInt IntKind.u8.bits (IntKind.wrap .u8 (m:Int))).toNat:Int)=((UInt8.ofNat (224+m)).toNat:Int):=by
 rw[wr8 m,Nat.mod_eq_of_lt (show m<256 by omega)];exact zhJ ⟨m,h⟩
theorem zhS {m:Nat} (h:m<8):IntKind.wrap .u8 ((BitVec.ofInt IntKind.u8.bits 240 ||| BitVec.ofInt IntKind.u8.bits (IntKind.wrap .u8 (m:Int))).toNat:Int)=((UInt8.ofNat (240+m)).toNat:Int):=by
 rw[wr8 m,Nat.mod_eq_of_lt (show m<256 by omega)];exact zhW ⟨m,h⟩
theorem zgy (m:Nat):IntKind.wrap .u8 ((BitVec.ofInt IntKind.u8.bits 128 ||| BitVec.ofInt IntKind.u8.bits (IntKind.wrap .u8 ((BitVec.ofInt IntKind.u8.bits (IntKind.wrap .u8 (m:Int)) &&& BitVec.ofInt IntKind.u8.bits 63).toNat:Int))).toNat:Int)=((UInt8.ofNat (128+m % 64)).toNat:Int):=by
 rw[wr8 m]
 have:=zhH ⟨m % 256,Nat.mod_lt _ (by decide)⟩
 simp only at this
 rw[this,Nat.mod_mod_of_dvd m (by decide)]
theorem zhA (n:Nat) (h0:127<n) (h1:n≤1114111) (h2:¬ (55296≤n∧n≤57343)) (acc:List UInt8) (H:Heap) (o:Own) (ho:Owned H o acc.length 1) (hb:acc.length≤Lim) :
  zff Tryz.prog 268 [.sl o 1 (bytesOf acc),.int .i32 n] H o 1 (bytesOf (acc++yI n)):=by
 refine ACalls.goO ir268 ck268 (Al4 _) fun KP Q hQ hP=>?_
 have e1:=zh2 (n:=n) (by omega)
 have hal:=zt acc
 simp only[Lim] at hb
 have ho':Owned H o (bytesOf acc).length 1:=by rw[hal];exact ho
 have fin:∀(e:List UInt8) o' H',yI n=e→OwnS H o H' o' ((bytesOf acc).length+e.length) 1→zib H o 1 (bytesOf (acc++yI n)) (.sl o' 1 (bytesOf acc++bytesOf e)) H':=fun e o' H' he hs=>by
  rw[he];exact⟨o',by rw[zR],by rw[zt,Al5];rw[hal] at hs;exact hs⟩
 by_cases h3:n≤2047
 ·have g1:((n:Int)≤2047)=True:=eq_true (by omega)
  simp(disch:=first|omega|assumption) only[ir268,e1,g1,steps,st2,pev,rev,oev,optr,ibin,sbin,ishf,bound,mmAll,mm2,mk,mkArgs,AV.cells,AV.boxable,AV.one,AV.strip1,fillA,fillS,Nat.reduceEqDiff,reduceCtorEq,↓reduceIte,Nat.reduceAdd,Int.reduceNeg,Nat.reduceLeDiff,Int.reduceToNat,Int.reduceEq,Int.reduceLT,Int.reduceLE,Int.reduceAdd,Io,Im,If,Il,Jt,Jf,AC.rg,Jm,Jl,Ja,Fm,Fl,Fa,Imv,Imb,Iai,Iei,Igi,Isi,Ipf,Ipt,Ilb,Iia,Ilt,Iap,Ink,Iln,Ils,Iad,Iex,Ibx,Ing]
  simp only[fd6,zhD (show n / 64<32 by omega),zgy]
  refine goP_ownS ho' (by simp[hal];omega) (by simp[hal,maxLen];omega) fun o' H' hs=>?_
  simp(disch:=first|omega|assumption) only[steps,st2,pev,rev,oev,optr,ibin,sbin,ishf,bound,mmAll,mm2,mk,mkArgs,AV.cells,AV.boxable,AV.one,AV.strip1,fillA,fillS,Nat.reduceEqDiff,reduceCtorEq,↓reduceIte,Nat.reduceAdd,Int.reduceNeg,Nat.reduceLeDiff,Int.reduceToNat,Int.reduceEq,Int.reduceLT,Int.reduceLE,Int.reduceAdd]
  exact hQ _ _ H' H' [_] nofun rfl (Low.refl _) (fin [_,_] o' H' (by unfold yI;rw[if_neg (by omega),if_pos h3]) hs)
 ·have g1:¬ ((n:Int)≤2047):=by omega
  by_cases h4:n≤65535
  ·by_cases h5:n<55296
   ·have g2:((n:Int)<55296)=True:=eq_true (by omega)
    simp(disch:=first|omega|assumption) only[ir268,e1,g1,g2,steps,st2,pev,rev,oev,optr,ibin,sbin,ishf,bound,mmAll,mm2,mk,mkArgs,AV.cells,AV.boxable,AV.one,AV.strip1,fillA,fillS,Nat.reduceEqDiff,reduceCtorEq,↓reduceIte,Nat.reduceAdd,Int.reduceNeg,Nat.reduceLeDiff,Int.reduceToNat,Int.reduceEq,Int.reduceLT,Int.reduceLE,Int.reduceAdd,Io,Im,If,Il,Jt,Jf,AC.rg,Jm,Jl,Ja,Fm,Fl,Fa,Imv,Imb,Iai,Iei,Igi,Isi,Ipf,Ipt,Ilb,Iia,Ilt,Iap,Ink,Iln,Ils,Iad,Iex,Ibx,Ing]
    simp only[fd6,zhp,zgX (show n / 4096<16 by omega),zgy]
    refine goP_ownS ho' (by simp[hal];omega) (by simp[hal,maxLen];omega) fun o' H' hs=>?_
    simp(disch:=first|omega|assumption) only[steps,st2,pev,rev,oev,optr,ibin,sbin,ishf,bound,mmAll,mm2,mk,mkArgs,AV.cells,AV.boxable,AV.one,AV.strip1,fillA,fillS,Nat.reduceEqDiff,reduceCtorEq,↓reduceIte,Nat.reduceAdd,Int.reduceNeg,Nat.reduceLeDiff,Int.reduceToNat,Int.reduceEq,Int.reduceLT,Int.reduceLE,Int.reduceAdd]
    exact hQ _ _ H' H' [_] nofun rfl (Low.refl _) (fin [_,_,_] o' H' (by unfold yI;rw[if_neg (by omega),if_neg h3,if_pos h4]) hs)
   ·have g2:¬ ((n:Int)<55296):=by omega
    have g3:((57343:Int)<n)=True:=eq_true (by omega)
    have g4:((n:Int)≤65535)=True:=eq_true (by omega)
    simp(disch:=first|omega|assumption) only[ir268,e1,g1,g2,g3,g4,steps,st2,pev,rev,oev,optr,ibin,sbin,ishf,bound,mmAll,mm2,mk,mkArgs,AV.cells,AV.boxable,AV.one,AV.strip1,fillA,fillS,Nat.reduceEqDiff,reduceCtorEq,↓reduceIte,Nat.reduceAdd,Int.reduceNeg,Nat.reduceLeDiff,Int.reduceToNat,Int.reduceEq,Int.reduceLT,Int.reduceLE,Int.reduceAdd,Io,Im,If,Il,Jt,Jf,AC.rg,Jm,Jl,Ja,Fm,Fl,Fa,Imv,Imb,Iai,Iei,Igi,Isi,Ipf,Ipt,Ilb,Iia,Ilt,Iap,Ink,Iln,Ils,Iad,Iex,Ibx,Ing]
    simp only[fd6,zhp,zgX (show n / 4096<16 by omega),zgy]
    refine goP_ownS ho' (by simp[hal];omega) (by simp[hal,maxLen];omega) fun o' H' hs=>?_
    simp(disch:=first|omega|assumption) only[steps,st2,pev,rev,oev,optr,ibin,sbin,ishf,bound,mmAll,mm2,mk,mkArgs,AV.cells,AV.boxable,AV.one,AV.strip1,fillA,fillS,Nat.reduceEqDiff,reduceCtorEq,↓reduceIte,Nat.reduceAdd,Int.reduceNeg,Nat.reduceLeDiff,Int.reduceToNat,Int.reduceEq,Int.reduceLT,Int.reduceLE,Int.reduceAdd]
    exact hQ _ _ H' H' [_] nofun rfl (Low.refl _) (fin [_,_,_] o' H' (by unfold yI;rw[if_neg (by omega),if_neg h3,if_pos h4]) hs)
  ·have g2:¬ ((n:Int)<55296):=by omega
   have g3:((57343:Int)<n)=True:=eq_true (by omega)
   have g4:¬ ((n:Int)≤65535):=by omega
   have g5:((65535:Int)<n)=True:=eq_true (by omega)
   have g6:((n:Int)≤1114111)=True:=eq_true (by omega)
   simp(disch:=first|omega|assumption) only[ir268,e1,g1,g2,g3,g4,g5,g6,steps,st2,pev,rev,oev,optr,ibin,sbin,ishf,bound,mmAll,mm2,mk,mkArgs,AV.cells,AV.boxable,AV.one,AV.strip1,fillA,fillS,Nat.reduceEqDiff,reduceCtorEq,↓reduceIte,Nat.reduceAdd,Int.reduceNeg,Nat.reduceLeDiff,Int.reduceToNat,Int.reduceEq,Int.reduceLT,Int.reduceLE,Int.reduceAdd,Io,Im,If,Il,Jt,Jf,AC.rg,Jm,Jl,Ja,Fm,Fl,Fa,Imv,Imb,Iai,Iei,Igi,Isi,Ipf,Ipt,Ilb,Iia,Ilt,Iap,Ink,Iln,Ils,Iad,Iex,Ibx,Ing]
   simp only[fd6,zhp,zii,zhS (show n / 262144<8 by omega),zgy]
   refine goP_ownS ho' (by simp[hal];omega) (by simp[hal,maxLen];omega) fun o' H' hs=>?_
   simp(disch:=first|omega|assumption) only[steps,st2,pev,rev,oev,optr,ibin,sbin,ishf,bound,mmAll,mm2,mk,mkArgs,AV.cells,AV.boxable,AV.one,AV.strip1,fillA,fillS,Nat.reduceEqDiff,reduceCtorEq,↓reduceIte,Nat.reduceAdd,Int.reduceNeg,Nat.reduceLeDiff,Int.reduceToNat,Int.reduceEq,Int.reduceLT,Int.reduceLE,Int.reduceAdd]
   exact hQ _ _ H' H' [_] nofun rfl (Low.refl _) (fin [_,_,_,_] o' H' (by unfold yI;rw[if_neg (by omega),if_neg h3,if_neg h4]) hs)
theorem zcs (n:Nat) (h1:n≤1114111) (h2:¬ (55296≤n∧n≤57343)) (acc:List UInt8) (H:Heap) (o:Own) (ho:Owned H o acc.length 1) (hb:acc.length≤Lim) :
  zff Tryz.prog 247 [.sl o 1 (bytesOf acc),.int .i32 n] H o 1 (bytesOf (acc++yI n)):=by
 refine ACalls.goO ir247 ck247 (Al4 _) fun KP Q hQ hP=>?_
 have e1:=zh2 (n:=n) (by omega)
 have hal:=zt acc
 by_cases h3:n≤127
 ·have g1:((n:Int)≤127)=True:=eq_true (by omega)
  have g2:IntKind.wrap .u8 (n:Int)=((UInt8.ofNat n).toNat:Int):=by rw[wr8];simp
  simp only[Lim] at hb
  simp(disch:=first|omega|assumption) only[ir247,e1,g1,g2,go_sem]
  refine goP_ownS (by rw[hal];exact ho) (by simp[hal];omega) (by simp[hal,maxLen];omega) fun o' H' hs=>?_
  simp(disch:=first|omega|assumption) only[go_sem]
  refine hQ _ _ H' H' [_] nofun rfl (Low.refl _) ⟨o',?_,?_⟩
  ·have:yI n=[UInt8.ofNat n]:=by unfold yI;rw[if_pos h3]
   rw[this];exact congrArg _ (zah _ _)
  ·have:yI n=[UInt8.ofNat n]:=by unfold yI;rw[if_pos h3]
   rw[this,zt];simpa[hal] using hs
 ·have g1:¬ ((n:Int)≤127):=by omega
  simp(disch:=first|omega|assumption) only[ir247,e1,g1,go_sem]
  refine Z8 (zhA n (by omega) h1 h2 acc H o ho hb) fun o' H' hs=>?_
  simp(disch:=first|omega|assumption) only[go_sem]
  exact hQ _ _ H' H' [_] nofun rfl (Low.refl _) ⟨o',rfl,hs⟩
theorem zh6:∀ x:Fin 256,IntKind.wrap .u8 ((BitVec.ofInt IntKind.u8.bits ((x.val:Nat):Int) ||| BitVec.ofInt IntKind.u8.bits 32).toNat:Int)=((UInt8.ofNat x.val ||| 32).toNat:Int):=by decide +kernel
theorem zij (c:UInt8):IntKind.wrap .u8 ((BitVec.ofInt IntKind.u8.bits (c.toNat:Int) ||| BitVec.ofInt IntKind.u8.bits 32).toNat:Int)=((c ||| 32).toNat:Int):=by
 have:=zh6 ⟨c.toNat,c.toNat_lt⟩
 simpa using this
theorem zgg (l:List UInt8) (c:UInt8):-1≤Lib.indexByte l c∧Lib.indexByte l c<l.length:=by
 induction l with
 | nil=>simp[Lib.indexByte]
 | cons x r ih =>
  simp only[Lib.indexByte,Al2]
  split
  ·omega
  ·split
   ·omega
   ·omega
theorem zhN (s:List UInt8) (hs:s.length≤Lim):Pure Tryz.prog 219 [.str s] (.tup [.int .i64 ((ZC s).getD 0:Nat),.bool (ZC s).isSome]):=by
 refine Pure.go ir219 ck219 (Al4 _) fun KP Q hQ=>?_
 simp only[Lim] at hs
 by_cases h4:s.length<4
 ·have g1:((s.length:Int)<4)=True:=eq_true (by omega)
  have:ZC s=none:=by
   cases h:ZC s with
   | none=>rfl
   | some u=>have:=Yk _ _ _ _ h;omega
  simp(disch:=first|omega|assumption) only[ir219,g1,steps,st2,pev,rev,oev,optr,ibin,sbin,ishf,bound,mmAll,mm2,mk,mkArgs,AV.cells,AV.boxable,AV.one,AV.strip1,fillA,fillS,Nat.reduceEqDiff,reduceCtorEq,↓reduceIte,Nat.reduceAdd,Int.reduceNeg,Nat.reduceLeDiff,Int.reduceToNat,Int.reduceEq,Int.reduceLT,Int.reduceLE,Int.reduceAdd,Io,Im,If,Il,Jt,Jf,AC.rg,Jm,Jl,Ja,Fm,Fl,Fa,Imv,Imb,Iai,Iei,Igi,Isi,Ipf,Ipt,Ilb,Iia,Ilt,Iap,Ink,Iln,Ils,Iad,Iex,Ibx,Ing]
  exact hQ _ _ _ _ nofun rfl (by simp[tupOf,envOf,AV.strip,AV.strip1,this])
 ·have g1:¬ ((s.length:Int)<4):=by omega
  obtain⟨l,r,hl,hsr⟩:∃ l r:List UInt8,l.length=4∧s=l++r:=⟨s.take 4,s.drop 4,by simp;omega,by simp⟩
  have hl':(l.length:Int)=4:=by omega
  have key:∀(a b:List UInt8) (u:Nat),l=a++b→Za b.length (b++r) u=Za (4-a.length) (s.drop a.length) u:=fun a b u h=>by
   have:a.length+b.length=4:=by rw[← hl,h];simp
   rw[hsr,h,yn,List.drop_left];congr 1;omega
  simp(disch:=first|omega|assumption) only[ir219,g1,steps,st2,pev,rev,oev,optr,ibin,sbin,ishf,bound,mmAll,mm2,mk,mkArgs,AV.cells,AV.boxable,AV.one,AV.strip1,fillA,fillS,Nat.reduceEqDiff,reduceCtorEq,↓reduceIte,Nat.reduceAdd,Int.reduceNeg,Nat.reduceLeDiff,Int.reduceToNat,Int.reduceEq,Int.reduceLT,Int.reduceLE,Int.reduceAdd,Io,Im,If,Il,Jt,Jf,AC.rg,Jm,Jl,Ja,Fm,Fl,Fa,Imv,Imb,Iai,Iei,Igi,Isi,Ipf,Ipt,Ilb,Iia,Ilt,Iap,Ink,Iln,Ils,Iad,Iex,Ibx,Ing]
  refine goL_range l 10 (fun u:Nat=>[(4,.int .i64 u)]) (fun done rest u H=>Za rest.length (rest++r) u=ZC s∧u<16 ^ done.length∧H=Heap.emp) 0 (by simp(disch:=first|omega|assumption) only[steps,st2,pev,rev,oev,optr,ibin,sbin,ishf,bound,mmAll,mm2,mk,mkArgs,AV.cells,AV.boxable,AV.one,AV.strip1,fillA,fillS,Nat.reduceEqDiff,reduceCtorEq,↓reduceIte,Nat.reduceAdd,Int.reduceNeg,Nat.reduceLeDiff,Int.reduceToNat,Int.reduceEq,Int.reduceLT,Int.reduceLE,Int.reduceAdd]) ⟨by rw[hl,← hsr];rfl,by simp,rfl⟩ ?_ ?_
  ·rintro u H J ⟨hu,_,rfl⟩ hlt
   simp only[Al3,Za] at hu
   simp(disch:=first|omega|assumption) only[hl',steps,st2,pev,rev,oev,optr,ibin,sbin,ishf,bound,mmAll,mm2,mk,mkArgs,AV.cells,AV.boxable,AV.one,AV.strip1,fillA,fillS,Nat.reduceEqDiff,reduceCtorEq,↓reduceIte,Nat.reduceAdd,Int.reduceNeg,Nat.reduceLeDiff,Int.reduceToNat,Int.reduceEq,Int.reduceLT,Int.reduceLE,Int.reduceAdd]
   exact hQ _ _ _ _ nofun rfl (by simp[tupOf,envOf,AV.strip,AV.strip1,← hu])
  ·rintro done c rest u H J hd hlt hlt2 ⟨hu,hb,rfl⟩ hJ
   have hd4:done.length<4:=by omega
   have hlt':(done.length:Int)<4:=by omega
   have hlt3:(done.length:Int)<s.length:=by omega
   have hg:s.getD done.length 0=c:=by rw[hsr,hd];simp
   have hpow:16 ^ done.length≤4096:=by
    have:done.length≤3:=by omega
    calc 16 ^ done.length≤16 ^ 3:=Nat.pow_le_pow_right (by decide) this
     _=4096:=rfl
   simp only[Al2,Al6,Za] at hu
   have hidx:=zgg hexL (c ||| 32)
   have hc:=c.toNat_lt
   simp only[hexL,Al2,Al3] at hidx
   simp(disch:=first|omega|assumption) only[hlt',hlt3,hg,zij,steps,st2,pev,rev,oev,optr,ibin,sbin,ishf,bound,mmAll,mm2,mk,mkArgs,AV.cells,AV.boxable,AV.one,AV.strip1,fillA,fillS,Nat.reduceEqDiff,reduceCtorEq,↓reduceIte,Nat.reduceAdd,Int.reduceNeg,Nat.reduceLeDiff,Int.reduceToNat,Int.reduceEq,Int.reduceLT,Int.reduceLE,Int.reduceAdd]
   refine goK_pure (zaJ hexL (c ||| 32)) ?_
   have no:hexD c=none→(ZC s)=none:=fun e=>by rw[e] at hu;exact hu.symm
   by_cases n1:Lib.indexByte hexL (c ||| 32)<0
   ·have e:hexD c=none:=by unfold hexD;rw[if_pos (.inl n1)]
    simp(disch:=first|omega|assumption) only[n1,steps,st2,pev,rev,oev,optr,ibin,sbin,ishf,bound,mmAll,mm2,mk,mkArgs,AV.cells,AV.boxable,AV.one,AV.strip1,fillA,fillS,Nat.reduceEqDiff,reduceCtorEq,↓reduceIte,Nat.reduceAdd,Int.reduceNeg,Nat.reduceLeDiff,Int.reduceToNat,Int.reduceEq,Int.reduceLT,Int.reduceLE,Int.reduceAdd]
    exact hQ _ _ _ _ nofun rfl (by simp[tupOf,envOf,AV.strip,AV.strip1,no e])
   obtain⟨k,hk⟩:∃ k:Nat,Lib.indexByte hexL (c ||| 32)=(k:Int):=⟨(Lib.indexByte hexL (c ||| 32)).toNat,by omega⟩
   have hk16:k<16:=by rw[show Lib.indexByte [48,49,50,51,52,53,54,55,56,57,97,98,99,100,101,102] (c ||| 32)=(k:Int) from hk] at hidx;omega
   have hu4:u<4096:=by omega
   have hkn:¬ ((k:Int)<0):=by omega
   have hnext:hexD c=some k→Za rest.length (rest++r) (16*u+k)=ZC s∧16*u+k<16 ^ (done++[c]).length∧Heap.emp=Heap.emp:=fun e=>by
    rw[e] at hu
    refine⟨hu,?_,rfl⟩
    rw[Al5,Al2,Al3,Nat.pow_succ];omega
   have hpush:((16*u+k:Nat):Int)=16*(u:Int)+k:=by omega
   by_cases n2:c.toNat<48
   ·have e:hexD c=none:=by unfold hexD;rw[if_pos (.inr (.inl n2))]
    have n2':((c.toNat:Int)<48)=True:=eq_true (by omega)
    simp(disch:=first|omega|assumption) only[hk,hkn,n2',hlt3,hg,steps,st2,pev,rev,oev,optr,ibin,sbin,ishf,bound,mmAll,mm2,mk,mkArgs,AV.cells,AV.boxable,AV.one,AV.strip1,fillA,fillS,Nat.reduceEqDiff,reduceCtorEq,↓reduceIte,Nat.reduceAdd,Int.reduceNeg,Nat.reduceLeDiff,Int.reduceToNat,Int.reduceEq,Int.reduceLT,Int.reduceLE,Int.reduceAdd]
    exact hQ _ _ _ _ nofun rfl (by simp[tupOf,envOf,AV.strip,AV.strip1,no e])
   have n2':¬ ((c.toNat:Int)<48):=by omega
   by_cases n3:57<c.toNat
   ·have n3':((57:Int)<c.toNat)=True:=eq_true (by omega)
    by_cases n4:c.toNat<65
    ·have e:hexD c=none:=by unfold hexD;rw[if_pos (.inr (.inr ⟨n3,n4⟩))]
     have n4':((c.toNat:Int)<65)=True:=eq_true (by omega)
     simp(disch:=first|omega|assumption) only[hk,hkn,n2',n3',n4',hlt3,hg,steps,st2,pev,rev,oev,optr,ibin,sbin,ishf,bound,mmAll,mm2,mk,mkArgs,AV.cells,AV.boxable,AV.one,AV.strip1,fillA,fillS,Nat.reduceEqDiff,reduceCtorEq,↓reduceIte,Nat.reduceAdd,Int.reduceNeg,Nat.reduceLeDiff,Int.reduceToNat,Int.reduceEq,Int.reduceLT,Int.reduceLE,Int.reduceAdd]
     exact hQ _ _ _ _ nofun rfl (by simp[tupOf,envOf,AV.strip,AV.strip1,no e])
    ·have e:hexD c=some k:=by unfold hexD;rw[if_neg (by omega),hk];rfl
     have n4':¬ ((c.toNat:Int)<65):=by omega
     simp(disch:=first|omega|assumption) only[hk,hkn,n2',n3',n4',hlt3,hg,wrap64,steps,st2,pev,rev,oev,optr,ibin,sbin,ishf,bound,mmAll,mm2,mk,mkArgs,AV.cells,AV.boxable,AV.one,AV.strip1,fillA,fillS,Nat.reduceEqDiff,reduceCtorEq,↓reduceIte,Nat.reduceAdd,Int.reduceNeg,Nat.reduceLeDiff,Int.reduceToNat,Int.reduceEq,Int.reduceLT,Int.reduceLE,Int.reduceAdd]
     refine goJ (hJ (16*u+k) _ (hnext e)) (by simp(disch:=first|omega|assumption) only[hpush,steps,st2,pev,rev,oev,optr,ibin,sbin,ishf,bound,mmAll,mm2,mk,mkArgs,AV.cells,AV.boxable,AV.one,AV.strip1,fillA,fillS,Nat.reduceEqDiff,reduceCtorEq,↓reduceIte,Nat.reduceAdd,Int.reduceNeg,Nat.reduceLeDiff,Int.reduceToNat,Int.reduceEq,Int.reduceLT,Int.reduceLE,Int.reduceAdd])
   ·have e:hexD c=some k:=by unfold hexD;rw[if_neg (by omega),hk];rfl
    have n3':¬ ((57:Int)<c.toNat):=by omega
    simp(disch:=first|omega|assumption) only[hk,hkn,n2',n3',hlt3,hg,wrap64,steps,st2,pev,rev,oev,optr,ibin,sbin,ishf,bound,mmAll,mm2,mk,mkArgs,AV.cells,AV.boxable,AV.one,AV.strip1,fillA,fillS,Nat.reduceEqDiff,reduceCtorEq,↓reduceIte,Nat.reduceAdd,Int.reduceNeg,Nat.reduceLeDiff,Int.reduceToNat,Int.reduceEq,Int.reduceLT,Int.reduceLE,Int.reduceAdd]
    refine goJ (hJ (16*u+k) _ (hnext e)) (by simp(disch:=first|omega|assumption) only[hpush,steps,st2,pev,rev,oev,optr,ibin,sbin,ishf,bound,mmAll,mm2,mk,mkArgs,AV.cells,AV.boxable,AV.one,AV.strip1,fillA,fillS,Nat.reduceEqDiff,reduceCtorEq,↓reduceIte,Nat.reduceAdd,Int.reduceNeg,Nat.reduceLeDiff,Int.reduceToNat,Int.reduceEq,Int.reduceLT,Int.reduceLE,Int.reduceAdd])
def cU (l:List Nat):List (List AV):=l.map fun(n:Nat)=>[AV.int .i64 (n:Int)]
theorem zfJ (l:List Nat):(cU l).length=l.length:=by simp[cU]
theorem zfE (l:List Nat):(cU l).map (·.map AV.strip1)=cU l:=by simp[cU,AV.strip1]
theorem zh7 (us:List Nat) (hl:us.length≤68719476736):Pure Tryz.prog 220 [.sl .no 1 (cU us)] (.tup [.str ((zN us).getD []),.bool (zN us).isSome]):=by
 refine Pure.go ir220 ck220 (Al4 _) fun KP Q hQ=>?_
 have hll:=zfJ us
 simp(disch:=first|omega|assumption) only[ir220,go_sem]
 refine goL_st (fun s:List Nat×List Nat×Own×List UInt8=>[(4,.sl s.2.2.1 1 (bytesOf s.2.2.2)),(5,.int .i64 s.1.length)]) (fun s H=>us=s.1++s.2.1∧zN us=(zN s.2.1).map (s.2.2.2++·)∧s.2.2.2.length≤2*s.1.length*2∧Owned H s.2.2.1 s.2.2.2.length 1) (fun s=>s.2.1.length) ([],us,.nil,[]) (by simp(disch:=first|omega|assumption) only[go_sem];rfl) ⟨rfl,by cases zN us<;>rfl,by simp,rfl⟩ ?_
 rintro⟨done,rest,o,out⟩ H J ⟨hd,hj,hle,ho⟩ hJ
 simp only at hd hj hle ho
 have hdl:done.length+rest.length=us.length:=by rw[hd];simp
 cases rest with
 | nil =>
  simp only[List.append_nil] at hd
  have hlt:¬ ((done.length:Int)<us.length):=by rw[hd];omega
  simp(disch:=first|omega|assumption) only[hll,hlt,go_sem]
  simp only[zN,zQ,List.append_nil] at hj
  simp(disch:=first|omega|assumption) only[zcw,go_sem]
  exact hQ _ _ _ _ nofun rfl (by simp[tupOf,envOf,AV.strip,AV.strip1,hj])
 | cons u r =>
  have hlt:((done.length:Int)<us.length):=by simp at hdl;omega
  have hg:(cU us).getD done.length []=[.int .i64 u]:=by rw[hd];simp[cU]
  have hu0:¬ ((u:Int)<0):=by omega
  have hrl:r.length+1+done.length=us.length:=by simp at hdl;omega
  have none_of:zN (u::r)=none→zN us=none:=fun e=>by rw[hj,e];rfl
  have hmax:maxLen=9223372036854775807:=rfl
  by_cases a1:65535<u
  ·have e:=none_of (by rw[zN.eq_def];simp only;rw[if_pos (.inl a1)])
   have a1':((65535:Int)<u)=True:=eq_true (by omega)
   simp(disch:=first|omega|assumption) only[hll,hlt,hg,hu0,a1',go_sem]
   exact hQ _ _ _ _ nofun rfl (by simp[tupOf,envOf,AV.strip,AV.strip1,e])
  have a1':¬ ((65535:Int)<u):=by omega
  by_cases a2:56320≤u∧u≤57343
  ·have e:=none_of (by rw[zN.eq_def];simp only;rw[if_pos (.inr a2)])
   have a2':((56320:Int)≤u)=True:=eq_true (by omega)
   have a3':((u:Int)≤57343)=True:=eq_true (by omega)
   simp(disch:=first|omega|assumption) only[hll,hlt,hg,hu0,a1',a2',a3',go_sem]
   exact hQ _ _ _ _ nofun rfl (by simp[tupOf,envOf,AV.strip,AV.strip1,e])
  by_cases a3:55296≤u∧u<56320
  ·have b1:¬ ((56320:Int)≤u):=by omega
   have b2:((55296:Int)≤u)=True:=eq_true (by omega)
   have b3:((u:Int)<56320)=True:=eq_true (by omega)
   cases r with
   | nil =>
    have e:=none_of (by rw[zN.eq_def];simp only;rw[if_neg (by omega),if_pos a3])
    have b4:((done.length:Int)+1=us.length)=True:=eq_true (by simp at hrl;omega)
    simp(disch:=first|omega|assumption) only[hll,hlt,hg,hu0,a1',b1,b2,b3,wrap64,b4,go_sem]
    exact hQ _ _ _ _ nofun rfl (by simp[tupOf,envOf,AV.strip,AV.strip1,e])
   | cons v r =>
    have b4:¬ ((done.length:Int)+1=us.length):=by simp at hrl;omega
    have b5:((done.length:Int)+1<us.length):=by simp at hrl;omega
    have b6:((done.length:Int)+1).toNat=done.length+1:=by omega
    have hg2:(cU us).getD (done.length+1) []=[.int .i64 v]:=by rw[hd];simp[cU]
    by_cases c1:v<56320
    ·have e:=none_of (by rw[zN.eq_def];simp only;rw[if_neg (by omega),if_pos a3,if_pos (.inl c1)])
     have c1':((v:Int)<56320)=True:=eq_true (by omega)
     simp(disch:=first|omega|assumption) only[hll,hlt,hg,hu0,a1',b1,b2,b3,wrap64,b4,b5,b6,hg2,c1',go_sem]
     exact hQ _ _ _ _ nofun rfl (by simp[tupOf,envOf,AV.strip,AV.strip1,e])
    have c1':¬ ((v:Int)<56320):=by omega
    by_cases c2:57343<v
    ·have e:=none_of (by rw[zN.eq_def];simp only;rw[if_neg (by omega),if_pos a3,if_pos (.inr c2)])
     have c2':((57343:Int)<v)=True:=eq_true (by omega)
     simp(disch:=first|omega|assumption) only[hll,hlt,hg,hu0,a1',b1,b2,b3,wrap64,b4,b5,b6,hg2,c1',c2',go_sem]
     exact hQ _ _ _ _ nofun rfl (by simp[tupOf,envOf,AV.strip,AV.strip1,e])
    have c2':¬ ((57343:Int)<v):=by omega
    have ej:zN (u::v::r)=(zN r).map (yI (65536+1024*(u-55296)+(v-56320))++·):=by rw[zN.eq_def];simp only;rw[if_neg (by omega),if_pos a3,if_neg (by omega)]
    obtain⟨m,hm⟩:∃ m,65536+1024*(u-55296)+(v-56320)=m:=⟨_,rfl⟩
    rw[hm] at ej
    have hm2:(65536+1024*((u:Int)-55296)+v-56320)=(m:Int):=by omega
    have hm3:=(ZW m).1
    simp(disch:=first|omega|assumption) only[hll,hlt,hg,hu0,a1',b1,b2,b3,wrap64,b4,b5,b6,hg2,c1',c2',hm2,zfN (show m<2147483648 by omega),go_sem]
    refine Z8 (zcs m (by omega) (by omega) out _ o ho (by simp only[Lim];omega)) fun o' H' hs=>?_
    simp(disch:=first|omega|assumption) only[wrap64,go_sem]
    have hown:=hs.own
    rw[zt] at hown
    have e5:(((done++[u,v]).length:Nat):Int)=(done.length:Int)+1+1:=by simp;omega
    refine goJ (hJ (done++[u,v],r,o',out++yI m) _ (by simp;omega) ⟨by simp[hd],?_,?_,hown⟩) (by simp(disch:=first|omega|assumption) only[e5,go_sem])
    ·simp only[hj,ej];cases zN r<;>simp
    ·simp;omega
  have ej:zN (u::r)=(zN r).map (yI u++·):=by
   rw[zN.eq_def];simp only;rw[if_neg (by omega),if_neg a3]
  have hm3:=(ZW u).1
  have e5:(((done++[u]).length:Nat):Int)=(done.length:Int)+1:=by simp
  by_cases h:u<55296
  ·have b1:¬ ((56320:Int)≤u):=by omega
   have b2:¬ ((55296:Int)≤u):=by omega
   simp(disch:=first|omega|assumption) only[hll,hlt,hg,hu0,a1',b1,b2,zfN (show u<2147483648 by omega),go_sem]
   refine Z8 (zcs u (by omega) (by omega) out _ o ho (by simp only[Lim];omega)) fun o' H' hs=>?_
   simp(disch:=first|omega|assumption) only[wrap64,go_sem]
   have hown:=hs.own
   rw[zt] at hown
   refine goJ (hJ (done++[u],r,o',out++yI u) _ (by simp) ⟨by simp[hd],?_,?_,hown⟩) (by simp(disch:=first|omega|assumption) only[e5,go_sem])
   ·simp only[hj,ej];cases zN r<;>simp
   ·simp;omega
  ·have b1:((56320:Int)≤u)=True:=eq_true (by omega)
   have b2:¬ ((u:Int)≤57343):=by omega
   have b3:((55296:Int)≤u)=True:=eq_true (by omega)
   have b4:¬ ((u:Int)<56320):=by omega
   simp(disch:=first|omega|assumption) only[hll,hlt,hg,hu0,a1',b1,b2,b3,b4,zfN (show u<2147483648 by omega),go_sem]
   refine Z8 (zcs u (by omega) (by omega) out _ o ho (by simp only[Lim];omega)) fun o' H' hs=>?_
   simp(disch:=first|omega|assumption) only[wrap64,go_sem]
   have hown:=hs.own
   rw[zt] at hown
   refine goJ (hJ (done++[u],r,o',out++yI u) _ (by simp) ⟨by simp[hd],?_,?_,hown⟩) (by simp(disch:=first|omega|assumption) only[e5,go_sem])
   ·simp only[hj,ej];cases zN r<;>simp
   ·simp;omega
abbrev yX:Nat:=68719476736
theorem upd_upd (H:Heap) (b:Nat) (x y:AObj):(H.upd b x).upd b y=H.upd b y:=by
 funext c;by_cases e:c=b<;>simp[Heap.upd,e]
theorem zU {P:Program} {f:FuncId} {args:List AV} {H:Heap} {R RP:AV→Heap→Prop} (h:ACalls P f args H (fun e H'=>match e with|.ret v=>R v.strip H'|.pan v=>RP v H')) :
  ACalls P f args H (fun e H'=>match e with|.ret v=>R v H'|.pan v=>RP v H'):=by
 intro γ w vs ht hs hv
 refine(h γ w vs ht hs hv).mono fun e w' ⟨γ',H',r,h1,h2,h3,h4,h5⟩=>?_
 cases r with
 | ret v =>
  cases e with
  | returned u=>exact⟨γ',H',.ret v.strip,h1,h2,h3,Rep.strip h4,h5⟩
  | panicked ch=>exact h4.elim
  | outgrown=>exact h4.elim
 | pan v=>exact⟨γ',H',.pan v,h1,h2,h3,h4,h5⟩
theorem own_ne {H:Heap} {c b d n sz:Nat} {cs:List AV} (h:Owned H (.tip b d) n sz) (hc:H c=some (.cells cs)):b≠c:=fun e=>by
 subst e
 have:H b=some (.tip (d+n) sz):=h
 rw[hc] at this;cases this
theorem zA {H H':Heap} {o:Own} {n sz c:Nat} {cs:List AV} (h:Owned H o n sz) (hc:H c=some (.cells cs)) (hk:Kept H o H'):H' c=some (.cells cs) :=
 hk c _ hc fun d e=>by subst e;exact own_ne h hc rfl
theorem yr {H:Heap} {o:Own} {n sz c:Nat} {cs:List AV} {x:AObj} (h:Owned H o n sz) (hc:H c=some (.cells cs)):Owned (H.upd c x) o n sz:=by
 cases o with
 | tip b d=>have:=own_ne h hc;show (H.upd c x) b=_;rw[upd_ne this];exact h
 | no=>exact h
 | nil=>exact h
 | full=>exact h
structure SaidAt (H:Heap) (q:Nat) (x:Sd) (o o2:Own):Prop where
 hq:H q=some (.cells [.sl o 1 (bytesOf x.b),.sl o2 1 (cU x.u),.bool x.ok])
 ho:Owned H o x.b.length 1
 ho2:Owned H o2 x.u.length 1
 ne:∀ b d d2,o=.tip b d→o2≠.tip b d2
theorem zdf {H:Heap} {q:Nat} {x:Sd} {o o2:Own} (hs:SaidAt H q x o o2) (hw:x.w≤yX) :
  ACalls Tryz.prog 177 [.ptr q 0] H (fun e H'=>∃ v,e=.ret v∧(v=.tup []∧∃ o',SaidAt H' q (yx x) o' .nil)):=by
 refine ACalls.go ir177 ck177 (Al4 _) fun KP Q hQ=>?_
 obtain⟨hq,ho,ho2,hne⟩:=hs
 have hbl:=zt x.b
 simp only[yX,Sd.w] at hw
 simp(disch:=first|omega|assumption) only[ir177,hq,go_sem]
 refine goK_pure (Pure.low (zh7 x.u (by omega))) ?_
 have hfw:=YM x
 simp only[yx,Sd.w,Al5] at hfw
 simp(disch:=first|omega|assumption) only[hq,go_sem]
 refine goP_ownS (by rw[hbl];exact ho) (by simp[zt];omega) (by simp[maxLen,zt];omega) fun o' H1 hs=>?_
 have h1:H1 q=some (.cells [.sl o 1 (bytesOf x.b),.sl o2 1 (cU x.u),.bool x.ok]):=zA ho hq hs.kept
 have hown:=hs.own
 simp only[Al5,zt] at hown
 cases hok:x.ok
 ·rw[hok] at h1
  simp(disch:=first|omega|assumption) only[h1,ym,zR,go_sem]
  refine hQ _ _ _ _ _ nofun rfl (Low.refl _) ⟨rfl,o',?_,?_,rfl,nofun⟩
  ·simp[yx,hok,upd_same,cU,zR,ym]
  ·simp only[yx,Al5]
   exact yr hown h1
 ·rw[hok] at h1
  simp(disch:=first|omega|assumption) only[h1,ym,zR,go_sem]
  refine hQ _ _ _ _ _ nofun rfl (Low.refl _) ⟨rfl,o',?_,?_,rfl,nofun⟩
  ·simp[yx,hok,upd_same,cU,zR,ym]
  ·simp only[yx,Al5]
   exact yr hown h1
def zdF (H':Heap) (q:Nat) (x:Sd) (s:List UInt8) (v:AV):Prop:=match ZR x s with
 | none=>v=.int .i64 0
 | some (x',t')=>v=.int .i64 ((s.length-t'.length:Nat):Int)∧∃ o o2,SaidAt H' q x' o o2
theorem zih {H:Heap} {q:Nat} {x:Sd} {o o2:Own} (hs:SaidAt H q x o o2) (hw:x.w≤yX) (s:List UInt8) (hl:s.length≤Lim) :
  ACalls Tryz.prog 176 [.ptr q 0,.str s] H (fun e H'=>∃ v,e=.ret v∧zdF H' q x s v):=by
 refine ACalls.go ir176 ck176 (Al4 _) fun KP Q hQ=>?_
 have hs0:=hs
 obtain⟨hq,ho,ho2,hne⟩:=hs
 have hul:=zfJ x.u
 have hw0:=hw
 simp only[yX,Sd.w] at hw
 simp only[Lim] at hl
 simp(disch:=first|omega|assumption) only[ir176,go_sem]
 refine goK_pure (Zm s [117]) ?_
 cases s with
 | nil =>
  simp(disch:=first|omega|assumption) only[List.isPrefixOf,go_sem]
  exact hQ _ _ _ _ [_] nofun rfl (Low.refl _) (by simp[zdF,ZR,tupOf,envOf,AV.strip,AV.strip1])
 | cons c t =>
  simp only[Al2] at hl
  by_cases hc:c=117
  ·subst hc
   have hp:[117].isPrefixOf ((117:UInt8)::t)=true:=rfl
   have h1:((1:Int)≤((t.length+1:Nat):Int))=True:=eq_true (by omega)
   simp(disch:=first|omega|assumption) only[hp,h1,go_sem]
   refine goK_pure (zhN t (by simp only[Lim];omega)) ?_
   cases hu:ZC t with
   | none =>
    simp(disch:=first|omega|assumption) only[Option.isSome_none,go_sem]
    exact hQ _ _ _ _ [_] nofun rfl (Low.refl _) (by simp[zdF,ZR,hu,tupOf,envOf,AV.strip,AV.strip1])
   | some u =>
    have h4:=Yk _ _ _ _ hu
    simp(disch:=first|omega|assumption) only[Option.isSome_some,Option.getD_some,hq,go_sem]
    refine goP_ownS (by rw[hul];exact ho2) (by simp[hul];omega) (by simp[maxLen,hul];omega) fun o' H1 hs1=>?_
    have h2:=zA ho2 hq hs1.kept
    simp(disch:=first|omega|assumption) only[h2,zfE,go_sem]
    refine hQ _ _ _ _ [_] nofun rfl (Low.refl _) ?_
    have hsp:=Sep.step (a:=[(o,x.b.length,1)]) (b:=[]) (n:=x.u.length) (n':=x.u.length+1) (sz:=1) ⟨by intro y hy;simp at hy;rcases hy with rfl|rfl<;>assumption,?_⟩ (by simpa[hul] using hs1)
    ·simp only[zdF,ZR,if_true,hu,zQ]
     refine⟨?_,o,o',?_,?_,?_,?_⟩
     ·show AV.int .i64 5=_
      simp only[Al2,yQ]
      congr 1;omega
     ·simp[upd_same,cU]
     ·exact yr (hsp.own (o,x.b.length,1) (by simp)) h2
     ·simp only[Al5,Al2,Al3]
      exact yr (hsp.own (o',x.u.length+1,1) (by simp)) h2
     ·intro b d d2 e1 e2
      have:=hsp.nd
      simp[e1,e2,y7] at this
    ·cases h5:y7 o with
     | none=>cases h6:y7 o2<;>simp[h5,h6]
     | some b =>
      obtain⟨d,h7⟩:=ZO h5
      cases h6:y7 o2 with
      | none=>simp[h5,h6]
      | some b2 =>
       obtain⟨d2,h8⟩:=ZO h6
       simp only[Al6,YN,List.filterMap_cons,List.filterMap_nil,h5,h6,List.nodup_cons,List.mem_singleton,List.not_mem_nil,not_false_eq_true,List.nodup_nil,and_true]
       rintro rfl
       exact hne b d d2 h7 h8
  ·have hp:[117].isPrefixOf (c::t)=false:=by
    simp only[List.isPrefixOf,Bool.and_true,beq_eq_false_iff_ne,ne_eq];exact fun e=>hc e.symm
   have hcl:¬ (c::t=[]):=by simp
   have h1:((0:Int)<((t.length+1:Nat):Int))=True:=eq_true (by omega)
   simp(disch:=first|omega|assumption) only[hp,hcl,h1,go_sem]
   refine goK_pure (zaJ zch c) ?_
   have hidx:=zgg zch c
   by_cases hk:Lib.indexByte zch c<0
   ·simp(disch:=first|omega|assumption) only[hk,go_sem]
    exact hQ _ _ _ _ [_] nofun rfl (Low.refl _) (by simp[zdF,ZR,hc,hk,tupOf,envOf,AV.strip,AV.strip1])
   ·obtain⟨k,hk2⟩:∃ k:Nat,Lib.indexByte zch c=(k:Int):=⟨(Lib.indexByte zch c).toNat,by omega⟩
    have hk8:k<8:=by simp[zch] at hidx;rw[show Lib.indexByte [34,92,47,98,102,110,114,116] c=(k:Int) from hk2] at hidx;omega
    have hk0:¬ ((k:Int)<0):=by omega
    simp(disch:=first|omega|assumption) only[hk2,hk0,go_sem]
    refine goK_ret (zdf hs0 hw0) fun v H1 ⟨hv,o',hs1⟩=>?_
    subst hv
    obtain⟨hq1,ho1,_,_⟩:=hs1
    have hfw:=YM x
    have hbl:=zt (yx x).b
    simp only[Sd.w] at hfw
    have hk8':((k:Int)<8)=True:=eq_true (by omega)
    simp(disch:=first|omega|assumption) only[hq1,hk8',go_sem]
    refine goP_ownS (by rw[hbl];exact ho1) (by simp[hbl];omega) (by simp[maxLen,hbl];omega) fun o3 H2 hs3=>?_
    have hq2:=zA ho1 hq1 hs3.kept
    simp(disch:=first|omega|assumption) only[hq2,go_sem]
    refine hQ _ _ _ _ [_] nofun rfl (Low.refl _) ?_
    simp only[zdF,ZR,hc,if_false,hk2,hk0]
    refine⟨?_,o3,.nil,?_,?_,rfl,nofun⟩
    ·show AV.int .i64 1=_
     simp only[Al2]
     congr 1;omega
    ·simp only[upd_same,Sd.put,Int.toNat_natCast]
     rw[← zR];rfl
    ·simp only[Sd.put,Al5,Al2,Al3]
     exact yr (by simpa[hbl] using hs3.own) hq2
def zP (n:Int):AV:=.ifc 120 (.agg [.int .i64 n])
def prc (L p:TS) (dp:Nat):AObj:=.cells [.sl .no 2 (cKs L),.int .i64 (p.length:Int),.int .i64 (dp:Int)]
def Pat (H:Heap) (r:Nat) (L t:TS) (dp:Nat) (H':Heap):Prop:=∃ p,p++t=L∧H'=H.upd r (prc L p dp)
def Yo {α:Type} (H:Heap) (r:Nat) (L:TS) (dp:Nat) (x:PR α) (f:α→AV) (v:AV) (H':Heap):Prop:=∃ a t',x=.ok (a,t')∧v=f a∧Pat H r L t' dp H'
def Yy {α:Type} (x:PR α) (v:AV) (_:Heap):Prop:=∃ n,x=.error n∧v=zP n
abbrev zq:Nat:=1000000
abbrev RpE {α:Type} (H:Heap) (r:Nat) (L:TS) (dp:Nat) (x:PR α) (f:α→AV):AEnd→Heap→Prop:=fun e H'=>match e with|.ret v=>Yo H r L dp x f v H'|.pan v=>Yy x v H'
theorem Pat.again {H H1 H2:Heap} {r:Nat} {L t t':TS} {dp dp':Nat} (h:Pat H r L t dp H1) (h':Pat H1 r L t' dp' H2):Pat H r L t' dp' H2:=by
 obtain⟨p,_,rfl⟩:=h
 obtain⟨q,hq,rfl⟩:=h'
 exact⟨q,hq,upd_upd ..⟩
theorem Pat.at {H H1:Heap} {r:Nat} {L t:TS} {dp:Nat} (h:Pat H r L t dp H1):∃ p,p++t=L∧H1 r=some (prc L p dp):=by
 obtain⟨p,hp,rfl⟩:=h
 exact⟨p,hp,upd_same ..⟩
theorem Pat.self {H:Heap} {r:Nat} {L p t:TS} {dp:Nat} (hs:p++t=L) (hr:H r=some (prc L p dp)):Pat H r L t dp H :=
 ⟨p,hs,by funext c;by_cases e:c=r<;>simp[Heap.upd,e,hr]⟩
structure KI (H:Heap) (r:Nat) (L t:TS) (dp:Nat) (H1:Heap):Prop where
 keep:∀ c x,c≠r→H c=some x→H1 c=some x
 here:∃ p,p++t=L∧H1 r=some (prc L p dp)
 hr:∃ x,H r=some x
theorem KI.start {H:Heap} {r:Nat} {L p t:TS} {dp:Nat} (hs:p++t=L) (hr:H r=some (prc L p dp)):KI H r L t dp H:=⟨fun _ _ _ h=>h,⟨p,hs,hr⟩,⟨_,hr⟩⟩
theorem KI.call {H H1 H2:Heap} {r:Nat} {L t t':TS} {dp dp':Nat} (h:KI H r L t dp H1) (ha:Pat H1 r L t' dp' H2):KI H r L t' dp' H2:=by
 obtain⟨q,hq,rfl⟩:=ha
 exact⟨fun c x hc hx=>by rw[upd_ne hc];exact h.keep c x hc hx,⟨q,hq,upd_same ..⟩,h.hr⟩
theorem KI.ne {H H1:Heap} {r b:Nat} {L t:TS} {dp:Nat} (h:KI H r L t dp H1) (hb:H b=none):r≠b:=fun e=>by
 subst e;obtain⟨x,hx⟩:=h.hr;rw[hb] at hx;cases hx
theorem KI.none {H H1:Heap} {r b:Nat} {L t:TS} {dp:Nat} (h:KI H r L t dp H1) (hb:H1 b=.none):H b=.none:=by
 cases hx:H b with
 | none=>rfl
 | some x =>
  by_cases e:b=r
  ·subst e;obtain⟨p,_,h2⟩:=h.here;rw[hb] at h2;cases h2
  ·have:=h.keep b x e hx;rw[hb] at this;cases this
theorem KI.box {H H1:Heap} {r b:Nat} {L t:TS} {dp:Nat} {x:AObj} (h:KI H r L t dp H1) (hb:H b=.none):KI H r L t dp (H1.upd b x):=by
 obtain⟨p,hp,h2⟩:=h.here
 exact⟨fun c y hc hy=>by rw[upd_ne (fun e=>by subst e;rw[hb] at hy;cases hy)];exact h.keep c y hc hy,⟨p,hp,by rw[upd_ne (h.ne hb)];exact h2⟩,h.hr⟩
theorem KI.low {H H1:Heap} {r:Nat} {L t:TS} {dp:Nat} (h:KI H r L t dp H1):∃ H2,Low H2 H1∧Pat H r L t dp H2:=by
 obtain⟨p,hp,h1⟩:=h.here
 refine⟨_,Low.of_sub fun c x hc=>?_,p,hp,rfl⟩
 by_cases e:c=r
 ·subst e;rw[upd_same] at hc;rw[← hc];exact h1
 ·rw[upd_ne e] at hc;exact h.keep c x e hc
structure KO (H:Heap) (r:Nat) (L t:TS) (dp:Nat) (H1:Heap) (o:Own) (n sz:Nat):Prop extends KI H r L t dp H1 where
 own:Owned H1 o n sz
 tip:∀ b d,o=.tip b d→H b=.none
theorem KO.call {H H1 H2:Heap} {r:Nat} {L t t':TS} {dp dp':Nat} {o:Own} {n sz:Nat} (h:KO H r L t dp H1 o n sz) (ha:Pat H1 r L t' dp' H2):KO H r L t' dp' H2 o n sz:=by
 obtain⟨p,hp,h1⟩:=h.here
 refine⟨h.toKI.call ha,?_,h.tip⟩
 obtain⟨q,hq,rfl⟩:=ha
 exact yr h.own h1
theorem KO.box {H H1:Heap} {r b:Nat} {L t:TS} {dp:Nat} {o:Own} {n sz:Nat} {cs cs':List AV} (h:KO H r L t dp H1 o n sz) (hb:H b=.none) (h1:H1 b=some (.cells cs)):KO H r L t dp (H1.upd b (.cells cs')) o n sz :=
 ⟨h.toKI.box hb,yr h.own h1,h.tip⟩
theorem KO.app {H H1 H2:Heap} {r:Nat} {L t:TS} {dp:Nat} {o o':Own} {n n' sz:Nat} (h:KO H r L t dp H1 o n sz) (hs:OwnS H1 o H2 o' n' sz):KO H r L t dp H2 o' n' sz:=by
 obtain⟨p,hp,h1⟩:=h.here
 refine⟨⟨fun c x hc hx=>hs.kept c x (h.keep c x hc hx) fun d e=>?_,⟨p,hp,zA h.own h1 hs.kept⟩,h.hr⟩,hs.own,fun b d e=>?_⟩
 ·have:=h.tip c d e;rw[hx] at this;cases this
 ·rcases hs.new b d e with h2|⟨d0,e2⟩
  ·exact h.toKI.none h2
  ·exact h.tip b d0 e2
theorem KO.stay {H H1 H2:Heap} {r b:Nat} {L t:TS} {dp:Nat} {o o':Own} {n n' sz:Nat} {cs:List AV} (h:KO H r L t dp H1 o n sz) (hs:OwnS H1 o H2 o' n' sz) (hb:H1 b=some (.cells cs)):H2 b=some (.cells cs) :=
 zA h.own hb hs.kept
theorem KI.done {α:Type} {H:Heap} {r:Nat} {L:TS} {dp:Nat} {x:PR α} {f:α→AV} {Q:AExit→Env→Heap→Prop} {res:List ARes}
  (hQ:∀ e ρ H1 H2 vs,(∀ i,e≠.exit i)→resvs ρ H1 res=some vs→Low H2 H1→Yo H r L dp x f (tupOf vs).strip H2→Q e ρ H1)
  (ρ1:Env) (H1:Heap) (vs:List AV) (a:α) (t':TS) (h1:resvs ρ1 H1 res=some vs) (h2:x=.ok (a,t')) (h3:KI H r L t' dp H1) (h4:(tupOf vs).strip=f a):Q .ret ρ1 H1:=by
 obtain⟨H2,hl,ha⟩:=h3.low
 exact hQ .ret ρ1 H1 H2 vs nofun h1 hl ⟨a,t',h2,h4,ha⟩
theorem zaG:∀ L:TS,L.length≤wT L
 | []=>Al4 _
 | x::L=>by have:=zaG L;rw[zce];simp only[Al2,wK];omega
theorem zik {p t L:TS} (h:p++t=L):(hdT t).s.length≤wT L:=by
 subst h
 cases t with
 | nil=>simp[hdT]
 | cons x t =>
  have:wT (p++x::t)=wT p+wT (x::t):=by simp[wT]
  rw[this,zce];simp only[hdT,List.headD_cons,wK];omega
theorem Pat.other {H H1:Heap} {r c:Nat} {L t:TS} {dp:Nat} (h:Pat H r L t dp H1) (hc:c≠r):H1 c=H c:=by
 obtain⟨p,_,rfl⟩:=h
 exact upd_ne hc
theorem Z3 (H:Heap) (r:Nat) (n:Int):ACalls Tryz.prog 75 [.ptr r 0,.int .i64 n] H (fun e H'=>match e with|.ret v=>False|.pan v=>v=zP n):=by
 refine ACalls.goO (R:=fun _ _=>False) (RP:=fun v _=>v=zP n) ir75 ck75 (Al4 _) fun KP Q hQ hP=>?_
 simp(disch:=first|omega|assumption) only[ir75,go_sem]
 exact hP _ _ H (Low.refl _) rfl
section
variable {H:Heap} {r:Nat} {L p t:TS} {dp:Nat}
theorem zgb (hs:p++t=L) (hr:H r=some (prc L p dp)):ACalls Tryz.prog 43 [.ptr r 0] H (fun e H'=>∃ v,e=.ret v∧(v=.bool (decide (t≠[]))∧H'=H)):=by
 refine ACalls.go ir43 ck43 (Al4 _) fun KP Q hQ=>?_
 simp only[prc] at hr
 have hcl:=zas L
 have hlen:p.length+t.length=L.length:=by rw[← hs];simp
 simp(disch:=first|omega|assumption) only[ir43,hr,hcl,go_sem]
 cases t with
 | nil =>
  have h1:¬ ((p.length:Int)<(L.length:Int)):=by simp at hlen;omega
  simp(disch:=first|omega|assumption) only[h1,go_sem]
  exact hQ _ _ _ _ [_] nofun rfl (Low.refl _) ⟨(by simp[tupOf,envOf,AV.strip,AV.strip1]),rfl⟩
 | cons c u =>
  have h1:((p.length:Int)<(L.length:Int))=True:=eq_true (by simp at hlen;omega)
  simp(disch:=first|omega|assumption) only[h1,go_sem]
  exact hQ _ _ _ _ [_] nofun rfl (Low.refl _) ⟨(by simp[tupOf,envOf,AV.strip,AV.strip1]),rfl⟩
theorem zc5 (hs:p++t=L) (hr:H r=some (prc L p dp)):ACalls Tryz.prog 76 [.ptr r 0] H (fun e H'=>∃ v,e=.ret v∧(v=yG (hdT t)∧H'=H)):=by
 refine ACalls.go ir76 ck76 (Al4 _) fun KP Q hQ=>?_
 have hcl:=zas L
 have hlen:p.length+t.length=L.length:=by rw[← hs];simp
 simp(disch:=first|omega|assumption) only[ir76,go_sem]
 refine goA_intro fun b hb=>?_
 have hbr:r≠b:=fun e=>by subst e;rw[hb] at hr;cases hr
 have hr2:(H.upd b (.cells [.int .i64 0,.str []])) r=some (prc L p dp):=by rw[upd_ne hbr];exact hr
 simp(disch:=first|omega|assumption) only[go_sem]
 refine goK_ret (zgb hs hr2) fun v H1 ⟨hv,hH⟩=>?_
 subst hv;subst hH
 have hlow:∀ x,Low H (H.upd b x):=fun x=>(Low.refl _).upd hb
 cases t with
 | nil =>
  simp(disch:=first|omega|assumption) only[go_sem]
  exact hQ _ _ _ H [.agg [.int .i64 0,.str []]] nofun (by simp(disch:=first|omega|assumption) only[ir76,resvs,resv,go_sem]) (hlow _) ⟨rfl,rfl⟩
 | cons c u =>
  simp only[prc] at hr2
  have h1:((p.length:Int)<(L.length:Int))=True:=eq_true (by simp at hlen;omega)
  have hg:(cKs L).getD p.length []=[.int .i64 c.k,.str c.s]:=by rw[← hs];simp[cKs,cK]
  simp(disch:=first|omega|assumption) only[hr2,hcl,h1,hg,go_sem]
  exact hQ _ _ _ H [.agg [.int .i64 c.k,.str c.s]] nofun (by simp(disch:=first|omega|assumption) only[ir76,resvs,resv,go_sem]) (hlow _) ⟨rfl,rfl⟩
theorem zhe (hs:p++t=L) (hr:H r=some (prc L p dp)) (m:List UInt8):ACalls Tryz.prog 97 [.ptr r 0,.str m] H (fun e H'=>∃ v,e=.ret v∧(v=.bool (isP m t)∧H'=H)):=by
 refine ACalls.go ir97 ck97 (Al4 _) fun KP Q hQ=>?_
 simp(disch:=first|omega|assumption) only[ir97,go_sem]
 refine goK_ret (zc5 hs hr) fun v H1 ⟨hv,hH⟩=>?_
 subst hv;subst hH
 simp(disch:=first|omega|assumption) only[yG,fitsAll,K1.fits,keqs,AV.keq1,Bool.and_true,go_sem]
 exact hQ _ _ _ _ [_] nofun rfl (Low.refl _) ⟨by simp[tupOf,envOf,AV.strip,AV.strip1,isP],rfl⟩
theorem zhR (hs:p++t=L) (hr:H r=some (prc L p dp)) (m:List UInt8):ACalls Tryz.prog 158 [.ptr r 0,.str m] H (fun e H'=>∃ v,e=.ret v∧(v=.bool (isW m t)∧H'=H)):=by
 refine ACalls.go ir158 ck158 (Al4 _) fun KP Q hQ=>?_
 simp(disch:=first|omega|assumption) only[ir158,go_sem]
 refine goK_ret (zc5 hs hr) fun v H1 ⟨hv,hH⟩=>?_
 subst hv;subst hH
 simp(disch:=first|omega|assumption) only[yG,fitsAll,K1.fits,keqs,AV.keq1,Bool.and_true,go_sem]
 exact hQ _ _ _ _ [_] nofun rfl (Low.refl _) ⟨by simp[tupOf,envOf,AV.strip,AV.strip1,isW],rfl⟩
theorem ze0 (hs:p++t=L) (hk:(hdT t).k≠0):(p++[hdT t])++t.tail=L:=by
 rw[yn,List.singleton_append,← zS hk];exact hs
theorem Zc (hs:p++t=L) (hk:(hdT t).k≠0) (H:Heap):Pat H r L t.tail dp (H.upd r (.cells [.sl .no 2 (cKs L),.int .i64 ((p.length:Int)+1),.int .i64 (dp:Int)])) :=
 ⟨p++[hdT t],ze0 hs hk,by simp[prc]⟩
def yp (m:List UInt8) (t:TS):TS:=if isP m t then t.tail else t
theorem Yq (hs:p++t=L) (hl:L.length≤zq) (hr:H r=some (prc L p dp)) (m:List UInt8):ACalls Tryz.prog 98 [.ptr r 0,.str m] H (fun e H'=>∃ v,e=.ret v∧(v=.bool (isP m t)∧Pat H r L (yp m t) dp H')):=by
 refine ACalls.go ir98 ck98 (Al4 _) fun KP Q hQ=>?_
 simp only[zq] at hl
 have hlen:p.length+t.length=L.length:=by rw[← hs];simp
 simp(disch:=first|omega|assumption) only[ir98,go_sem]
 refine goK_ret (zhe hs hr m) fun v H1 ⟨hv,hH⟩=>?_
 subst hv;subst hH
 have hr':=hr
 simp only[prc] at hr'
 cases hi:isP m t with
 | true =>
  simp(disch:=first|omega|assumption) only[hr',wrap64,go_sem]
  refine hQ _ _ _ _ [_] nofun rfl (Low.refl _) ⟨(by simp[tupOf,envOf,AV.strip,AV.strip1,hi]),?_⟩
  simp only[yp,hi,if_true]
  exact Zc hs (yS hi) _
 | false =>
  simp(disch:=first|omega|assumption) only[go_sem]
  refine hQ _ _ _ _ [_] nofun rfl (Low.refl _) ⟨(by simp[tupOf,envOf,AV.strip,AV.strip1,hi]),?_⟩
  simp only[yp,hi,Al7,if_false]
  exact Pat.self hs hr
theorem zhE (hs:p++t=L) (hl:L.length≤zq) (hr:H r=some (prc L p dp)) (m:List UInt8):ACalls Tryz.prog 100 [.ptr r 0,.str m] H (fun e H'=>∃ v,e=.ret v∧(v=.bool (isW m t)∧Pat H r L (zy m t) dp H')):=by
 refine ACalls.go ir100 ck100 (Al4 _) fun KP Q hQ=>?_
 simp only[zq] at hl
 have hlen:p.length+t.length=L.length:=by rw[← hs];simp
 simp(disch:=first|omega|assumption) only[ir100,go_sem]
 refine goK_ret (zhR hs hr m) fun v H1 ⟨hv,hH⟩=>?_
 subst hv;subst hH
 have hr':=hr
 simp only[prc] at hr'
 cases hi:isW m t with
 | true =>
  simp(disch:=first|omega|assumption) only[hr',wrap64,go_sem]
  refine hQ _ _ _ _ [_] nofun rfl (Low.refl _) ⟨(by simp[tupOf,envOf,AV.strip,AV.strip1,hi]),?_⟩
  simp only[zy,hi,if_true]
  exact Zc hs (Y4 hi) _
 | false =>
  simp(disch:=first|omega|assumption) only[go_sem]
  refine hQ _ _ _ _ [_] nofun rfl (Low.refl _) ⟨(by simp[tupOf,envOf,AV.strip,AV.strip1,hi]),?_⟩
  simp only[zy,hi,Al7,if_false]
  exact Pat.self hs hr
theorem zcq (hs:p++t=L) (hl:L.length≤zq) (hr:H r=some (prc L p dp)) (m:List UInt8):ACalls Tryz.prog 84 [.ptr r 0,.str m] H (RpE H r L dp (zG m t) fun _=>.tup []):=by
 refine ACalls.goO ir84 ck84 (Al4 _) fun KP Q hQ hP=>?_
 simp(disch:=first|omega|assumption) only[ir84,go_sem]
 refine goK_ret (Yq hs hl hr m) fun v H1 ⟨hv,hH⟩=>?_
 subst hv
 cases hi:isP m t with
 | true =>
  rw[yp,hi] at hH
  simp(disch:=first|omega|assumption) only[go_sem]
  exact hQ _ _ _ _ [] nofun rfl (Low.refl _) ⟨(),t.tail,by unfold zG;rw[hi];rfl,rfl,hH⟩
 | false =>
  simp(disch:=first|omega|assumption) only[go_sem]
  exact goK_both (Z3 H1 r 2) (fun _ _ h=>h.elim) fun v H2 h=>hP v H2 H2 (Low.refl _) ⟨2,by unfold zG;rw[hi];rfl,h⟩
theorem za8 (hs:p++t=L) (hl:L.length≤zq) (hr:H r=some (prc L p dp)):ACalls Tryz.prog 85 [.ptr r 0] H (RpE H r L dp (zv t) AV.str):=by
 refine ACalls.goO ir85 ck85 (Al4 _) fun KP Q hQ hP=>?_
 simp only[zq] at hl
 have hlen:p.length+t.length=L.length:=by rw[← hs];simp
 simp(disch:=first|omega|assumption) only[ir85,go_sem]
 refine goK_ret (zc5 hs hr) fun v H1 ⟨hv,hH⟩=>?_
 subst hv;subst hH
 simp(disch:=first|omega|assumption) only[go_sem]
 refine goA_intro fun b hb=>?_
 have hbr:r≠b:=fun e=>by subst e;rw[hb] at hr;cases hr
 have hr':=hr
 simp only[prc] at hr'
 by_cases hk:(hdT t).k=2
 ·have hk':((hdT t).k=2)=True:=eq_true hk
  simp(disch:=first|omega|assumption) only[yG,hk',hr',hbr,Ne.symm hbr,wrap64,go_sem]
  refine hQ _ _ _ (H1.upd r (.cells [.sl .no 2 (cKs L),.int .i64 ((p.length:Int)+1),.int .i64 (dp:Int)])) [_] nofun rfl ?_ ⟨(hdT t).s,t.tail,by unfold zv;rw[if_pos hk],(by simp[tupOf,envOf,AV.strip,AV.strip1]),Zc hs (by rw[hk];decide) _⟩
  refine Low.of_sub fun c x hc=>?_
  by_cases e:c=r
  ·subst e;rw[upd_same] at hc ⊢;exact hc
  ·rw[upd_ne e] at hc ⊢
   rw[upd_ne (fun e2=>by subst e2;rw[hb] at hc;cases hc)];exact hc
 ·simp(disch:=first|omega|assumption) only[yG,hk,go_sem]
  exact goK_both (Z3 _ r 2) (fun _ _ h=>h.elim) fun v H2 h=>hP v H2 H2 (Low.refl _) ⟨2,by unfold zv;rw[if_neg hk],h⟩
theorem zfa (hs:p++t=L) (hl:L.length≤zq) (hd:dp≤16) (hr:H r=some (prc L p dp)) (m:List UInt8):ACalls Tryz.prog 81 [.ptr r 0,.str m] H
  (fun e H'=>match e with
   | .ret v=>v=.bool (isP m t)∧(isP m t=true→dp<16∧Pat H r L t.tail (dp+1) H')∧(isP m t=false→Pat H r L t dp H')
   | .pan v=>isP m t=true∧dp=16∧v=zP 4):=by
 refine ACalls.goO (R:=fun v H'=>v=.bool (isP m t)∧(isP m t=true→dp<16∧Pat H r L t.tail (dp+1) H')∧(isP m t=false→Pat H r L t dp H')) (RP:=fun v _=>isP m t=true∧dp=16∧v=zP 4) ir81 ck81 (Al4 _) fun KP Q hQ hP=>?_
 have hlen:p.length+t.length=L.length:=by rw[← hs];simp
 simp(disch:=first|omega|assumption) only[ir81,go_sem]
 refine goK_ret (zhe hs hr m) fun v H1 ⟨hv,hH⟩=>?_
 subst hv;subst hH
 have hr':=hr
 simp only[prc] at hr'
 cases hi:isP m t with
 | true =>
  by_cases h16:(16:Int)≤(dp:Int)
  ·simp(disch:=first|omega|assumption) only[hr',h16,go_sem]
   exact goK_both (Z3 _ r 4) (fun _ _ h=>h.elim) fun v H2 h=>hP v H2 H2 (Low.refl _) ⟨hi,by omega,h⟩
  ·simp(disch:=first|omega|assumption) only[hr',h16,go_sem]
   refine goK_ret (Yq hs hl hr m) fun v H2 ⟨hv,hH⟩=>?_
   subst hv
   rw[yp,hi] at hH
   obtain⟨q,hq,h2⟩:=hH.at
   simp only[prc] at h2
   rw[hi]
   simp(disch:=first|omega|assumption) only[h2,wrap64,go_sem]
   exact hQ _ _ _ _ [_] nofun rfl (Low.refl _) ⟨(by simp[tupOf,envOf,AV.strip,AV.strip1,hi]),fun _=>⟨by omega,hH.again ⟨q,hq,by simp[prc]⟩⟩,fun h=>(by rw[hi] at h;cases h)⟩
 | false =>
  simp(disch:=first|omega|assumption) only[go_sem]
  refine goK_ret (Yq hs hl hr m) fun v H2 ⟨hv,hH⟩=>?_
  subst hv
  rw[yp,hi] at hH
  rw[hi]
  simp(disch:=first|omega|assumption) only[go_sem]
  exact hQ _ _ _ _ [_] nofun rfl (Low.refl _) ⟨(by simp[tupOf,envOf,AV.strip,AV.strip1,hi]),fun h=>(by rw[hi] at h;cases h),fun _=>by simpa using hH⟩
theorem zea (hs:p++t=L) (hl:L.length≤zq) (hd:1≤dp∧dp≤16) (hr:H r=some (prc L p dp)) (m:List UInt8):ACalls Tryz.prog 82 [.ptr r 0,.str m] H
  (fun e H'=>∃ v,e=.ret v∧(v=.bool (isP m t)∧(isP m t=true→Pat H r L t.tail (dp-1) H')∧(isP m t=false→Pat H r L t dp H'))):=by
 refine ACalls.go ir82 ck82 (Al4 _) fun KP Q hQ=>?_
 simp(disch:=first|omega|assumption) only[ir82,go_sem]
 refine goK_ret (Yq hs hl hr m) fun v H2 ⟨hv,hH⟩=>?_
 subst hv
 cases hi:isP m t with
 | true =>
  rw[yp,hi] at hH
  obtain⟨q,hq,h2⟩:=hH.at
  simp only[prc] at h2
  simp(disch:=first|omega|assumption) only[h2,wrap64,go_sem]
  refine hQ _ _ _ _ [_] nofun rfl (Low.refl _) ⟨(by simp[tupOf,envOf,AV.strip,AV.strip1,hi]),fun _=>hH.again ⟨q,hq,?_⟩,fun h=>(by rw[hi] at h;cases h)⟩
  have e:((dp-1:Nat):Int)=(dp:Int)-1:=by omega
  simp only[prc,e]
 | false =>
  rw[yp,hi] at hH
  simp(disch:=first|omega|assumption) only[go_sem]
  exact hQ _ _ _ _ [_] nofun rfl (Low.refl _) ⟨(by simp[tupOf,envOf,AV.strip,AV.strip1,hi]),fun h=>(by rw[hi] at h;cases h),fun _=>by simpa using hH⟩
end
def wfD (x:DirD):Prop:=zfx x.args
def zhF (l:List DirD):Prop:=∀ x∈l,wfD x
def wfW (x:VarD):Prop:=inR x.t.lists∧inR x.t.musts∧wfV x.d
def pk (s:List UInt8):Tok:=⟨1,s⟩
theorem zct:bV zV=1∧wfV zV:=⟨rfl,zcx,trivial,trivial⟩
theorem zeN (s:List UInt8):bV (Z6 s)≤1+s.length∧wfV (Z6 s):=by
 unfold Z6
 split
 ·exact⟨by rw[zct.1];omega,zct.2⟩
 split
 ·exact⟨by simp only[bV,bVs,bMs,Al3];omega,by simp[inR],trivial,trivial⟩
 split
 ·exact⟨by simp only[bV,bVs,bMs,Al3];omega,zcx,trivial,trivial⟩
 ·exact⟨by simp only[bV,bVs,bMs];omega,zcx,trivial,trivial⟩
theorem yh {f:TS→PR Val} (hf:GP bV wfV 1 f):GP bM wfM 1 (zF f):=fun t x t' h=>by
 obtain⟨s,t1,h1,h2⟩:=zc h
 obtain⟨_,t2,h3,h4⟩:=zc h2
 obtain⟨v,t3,h5,h6⟩:=zc h4
 cases h6
 have g1:=zu _ _ _ h1
 have g2:=zO _ _ _ _ h3
 have g3:=hf _ _ _ h5
 have w1:=g1.w
 have w2:=g2.w
 have w3:=g3.w
 simp only[b0] at w2
 exact⟨(g3.suf.trans g2.suf).trans g1.suf,by simp only[bM];omega,g3.ok⟩
theorem zfb:∀ l:List Val,bVs l+l.length=sm bV l
 | []=>rfl
 | v::r=>by have:=zfb r;simp only[sm,bVs,Al2,List.map_cons,List.sum_cons] at *;omega
theorem zdx:∀ l:List Mem,bMs l+l.length=sm bM l
 | []=>rfl
 | v::r=>by have:=zdx r;simp only[sm,bMs,Al2,List.map_cons,List.sum_cons] at *;omega
theorem zen:∀ {l:List Val},(∀ v∈l,wfV v)→zhg l
 | [],_=>trivial
 | v::r,h=>⟨h v (.head _),zen fun x hx=>h x (.tail _ hx)⟩
theorem zcy:∀ {l:List Mem},(∀ v∈l,wfM v)→zfx l
 | [],_=>trivial
 | v::r,h=>⟨h v (.head _),zcy fun x hx=>h x (.tail _ hx)⟩
theorem zbZ (fixed:Bool) (k:Nat) (ih:∀ n,k=n+1→GP bV wfV 1 (zX fixed n)):GP bV wfV 1 (zX fixed k):=fun t v t' h=>by
 rw[zL,Zi.eq_def] at h
 split at h
 ·rename_i hk
  cases h
  have h0:=YD (t:=t) (by omega)
  have h1:=zeN (hdT t).s
  exact⟨h0.1,by omega,h1.2⟩
 split at h
 ·rename_i hk
  cases h
  have h0:=YD (t:=t) (by omega)
  have h1:=zfr (hdT t).s
  exact⟨h0.1,by omega,h1.2⟩
 split at h
 ·rename_i hk
  cases h
  have h0:=YD (t:=t) (by omega)
  exact⟨h0.1,by simp only[bV,bVs,bMs];omega,zcx,trivial,trivial⟩
 split at h
 ·rename_i hp
  have h0:=Zf hp
  cases k with
  | zero=>cases h
  | succ n =>
   obtain⟨l,t1,h1,h2⟩:=zc h
   cases h2
   have g:=Z9 (ih n rfl) _ [] _ _ _ (fun x hx=>by cases hx) h1
   have e:=zfb l
   have e0:sm bV []=0:=rfl
   exact⟨g.1.trans h0.1,by simp only[bV,bMs,Al3];omega,zcx,zen g.2.2,trivial⟩
 split at h
 ·rename_i hp
  have h0:=Zf hp
  cases k with
  | zero=>cases h
  | succ n =>
   obtain⟨l,t1,h1,h2⟩:=zc h
   cases h2
   have g:=Z9 (yh (ih n rfl)) _ [] _ _ _ (fun x hx=>by cases hx) h1
   have e:=zdx l
   have e0:sm bM []=0:=rfl
   exact⟨g.1.trans h0.1,by simp only[bV,bVs,Al3];omega,zcx,trivial,zcy g.2.2⟩
 split at h
 ·cases h
 ·obtain⟨_,t1,h1,h2⟩:=zc h
  obtain⟨s,t2,h3,h4⟩:=zc h2
  cases h4
  have g1:=zO _ _ _ _ h1
  have g2:=zu _ _ _ h3
  have w1:=g1.w
  have w2:=g2.w
  simp only[b0] at w1
  exact⟨g2.suf.trans g1.suf,by simp only[bV,bVs,bMs];omega,zcx,trivial,trivial⟩
theorem yB (fixed:Bool):∀ k,GP bV wfV 1 (zX fixed k)
 | 0=>zbZ fixed 0 fun n h=>by cases h
 | k+1=>zbZ fixed (k+1) fun n h=>by cases h;exact yB fixed k
theorem ze6 (fixed:Bool) (k:Nat):GP bMs zfx 0 (Zw fixed k):=fun t a t' h=>by
 unfold Zw at h
 split at h
 ·rename_i hp
  have h0:=Zf hp
  have g:=Zb (yh (yB fixed k)) _ _ _ h
  have e:=zdx a
  have w:=g.w
  exact⟨g.suf.trans h0.1,by omega,zcy g.ok⟩
 ·cases h
  exact⟨List.suffix_refl t,by simp[bMs],trivial⟩
theorem zaR (fixed:Bool) (k:Nat):GP bD wfD 1 (zbq fixed k):=fun t a t' h=>by
 obtain⟨s,t1,h1,h2⟩:=zc h
 obtain⟨l,t2,h3,h4⟩:=zc h2
 cases h4
 have g1:=zu _ _ _ h1
 have g2:=ze6 fixed k _ _ _ h3
 have w1:=g1.w
 have w2:=g2.w
 exact⟨g2.suf.trans g1.suf,by simp only[bD];omega,g2.ok⟩
theorem zhi (l:List DirD):bDs l+l.length=sm bD l:=rfl
theorem ze1 (fixed:Bool) (k:Nat):GP bDs zhF 0 (Z0 fixed k):=fun t a t' h=>by
 have g:=Yz (zaR fixed k) _ [] _ _ _ (fun x hx=>by cases hx) h
 have e:=zhi a
 have e0:sm bD []=0:=rfl
 exact⟨g.1,by omega,g.2.2⟩
theorem zbV {n:Int} (h0:0≤n) (h1:n<64):inR n:=by simp only[inR];omega
theorem zeh {ty:TyD} (h:zcQ 4 ty):inR ty.lists∧inR ty.musts:=by
 obtain⟨h1,h2,h3,h4⟩:=h
 refine⟨zbV h1 (by omega),zbV h3 ?_⟩
 have:ty.lists.toNat+1≤5:=by omega
 have h5:(2:Int) ^ (ty.lists.toNat+1)≤2 ^ 5:=by exact_mod_cast Nat.pow_le_pow_right (by decide) this
 omega
theorem zgh (l:List VarD):bWs l+l.length=sm bW l:=rfl
theorem zhf (s:List UInt8):Pure Tryz.prog 77 [.str s] (.agg (cV (Z6 s))):=by
 refine Pure.go ir77 ck77 (Al4 _) fun KP Q hQ=>?_
 simp(disch:=first|omega|assumption) only[ir77,go_sem]
 refine goA_intro fun b hb=>?_
 by_cases h1:s=[110,117,108,108]
 ·have h1':(s=[110,117,108,108])=True:=eq_true h1
  simp(disch:=first|omega|assumption) only[h1',go_sem]
  exact hQ _ _ _ [.agg [.int .i64 0,.int .i64 0,.str [],.sl .nil 5 [],.sl .nil 6 []]] nofun (by simp(disch:=first|omega|assumption) only[ir77,resvs,resv,go_sem]) (by rw[Z6,if_pos h1];rfl)
 by_cases h2:s=[116,114,117,101]
 ·have h2':(s=[116,114,117,101])=True:=eq_true h2
  simp(disch:=first|omega|assumption) only[h1,h2',go_sem]
  exact hQ _ _ _ [.agg [.int .i64 1,.int .i64 1,.str [],.sl .nil 5 [],.sl .nil 6 []]] nofun (by simp(disch:=first|omega|assumption) only[ir77,resvs,resv,go_sem]) (by rw[Z6,if_neg h1,if_pos h2];rfl)
 by_cases h3:s=[102,97,108,115,101]
 ·have h3':(s=[102,97,108,115,101])=True:=eq_true h3
  simp(disch:=first|omega|assumption) only[h1,h2,h3',go_sem]
  exact hQ _ _ _ [.agg [.int .i64 1,.int .i64 0,.str [],.sl .nil 5 [],.sl .nil 6 []]] nofun (by simp(disch:=first|omega|assumption) only[ir77,resvs,resv,go_sem]) (by rw[Z6,if_neg h1,if_neg h2,if_pos h3];rfl)
 simp(disch:=first|omega|assumption) only[h1,h2,h3,go_sem]
 exact hQ _ _ _ [.agg [.int .i64 5,.int .i64 0,.str s,.sl .nil 5 [],.sl .nil 6 []]] nofun (by simp(disch:=first|omega|assumption) only[ir77,resvs,resv,go_sem]) (by rw[Z6,if_neg h1,if_neg h2,if_neg h3];rfl)
def zep (fixed:Bool) (k:Nat):Prop:=∀(H:Heap) (r:Nat) (L p t:TS),p++t=L→wT L≤zq→H r=some (prc L p (16-k)) →
 ACalls Tryz.prog 33 [.ptr r 0,.bool fixed] H (RpE H r L (16-k) (zX fixed k t) fun v=>.agg (cV v))
theorem zaQ {fixed:Bool} {k:Nat} (hv:zep fixed k) {H:Heap} {r:Nat} {L p t:TS} (hs:p++t=L) (hl:wT L≤zq) (hr:H r=some (prc L p (16-k))) :
  ACalls Tryz.prog 83 [.ptr r 0,.bool fixed] H (RpE H r L (16-k) (zF (zX fixed k) t) fun m=>.agg (cM m)):=by
 refine zU (ACalls.goO (R:=fun v H'=>Yo H r L (16-k) (zF (zX fixed k) t) (fun m=>.agg (cM m)) v.strip H') (RP:=fun v H'=>Yy (zF (zX fixed k) t) v H') ir83 ck83 (Al4 _) fun KP Q hQ hP=>?_)
 have hll:L.length≤zq:=Nat.le_trans (zaG L) hl
 have pan:∀(v:AV) (H1:Heap) (n:Int),v=zP n→zF (zX fixed k) t=.error n→KP v H1:=fun v H1 n h1 h2=>hP v H1 H1 (Low.refl _) ⟨n,h2,h1⟩
 have fin:=KI.done hQ
 have K0:=KI.start hs hr
 simp(disch:=first|omega|assumption) only[ir83,go_sem]
 refine goA_intro fun b4 hb4=>?_
 have n4:=K0.ne hb4
 have K1:=K0.box (x:=.cells [.str [],.int .i64 0,.int .i64 0,.str [],.sl .nil 5 [],.sl .nil 6 []]) hb4
 simp(disch:=first|omega|assumption) only[go_sem]
 refine goK_both (za8 (dp:=16-k) hs hll (by rw[upd_ne n4];exact hr)) (fun v H1 ⟨nm,t1,e1,hv1,ha1⟩=>?_) fun v H1 ⟨n,e1,hv1⟩=>pan v H1 n hv1 (by rw[zF,e1];rfl)
 subst hv1
 have K2:=K1.call ha1
 obtain⟨p1,hp1,hr1⟩:=K2.here
 have g1:H1 b4=some (.cells [.str [],.int .i64 0,.int .i64 0,.str [],.sl .nil 5 [],.sl .nil 6 []]):=by rw[ha1.other (Ne.symm n4),upd_same]
 simp(disch:=first|omega|assumption) only[go_sem]
 refine goK_both (zcq (dp:=16-k) hp1 hll hr1 [58]) (fun v H2 ⟨_,t2,e2,hv2,ha2⟩=>?_) fun v H2 ⟨n,e2,hv2⟩=>pan v H2 n hv2 (by rw[zF,e1,zd,e2];rfl)
 subst hv2
 have K3:=K2.call ha2
 obtain⟨p2,hp2,hr2⟩:=K3.here
 have g2:H2 b4=some (.cells [.str [],.int .i64 0,.int .i64 0,.str [],.sl .nil 5 [],.sl .nil 6 []]):=by rw[ha2.other (Ne.symm n4),g1]
 simp(disch:=first|omega|assumption) only[go_sem]
 refine goK_both (hv _ r L p2 t2 hp2 hl hr2) (fun v H3 ⟨x,t3,e3,hv3,ha3⟩=>?_) fun v H3 ⟨n,e3,hv3⟩=>pan v H3 n hv3 (by rw[zF,e1,zd,e2,zd,e3];rfl)
 subst hv3
 have K4:=K3.call ha3
 have g3:H3 b4=some (.cells [.str [],.int .i64 0,.int .i64 0,.str [],.sl .nil 5 [],.sl .nil 6 []]):=by rw[ha3.other (Ne.symm n4),g2]
 simp(disch:=first|omega|assumption) only[zi,ze,zb,zj,zf,za,zp,g3,go_sem]
 refine fin _ _ [.agg (.str nm::cV x)] (.mk nm x) t3 (by simp(disch:=first|omega|assumption) only[zi,ze,zb,zj,zf,za,zp,ir83,resvs,resv,go_sem]) (by rw[zF,e1,zd,e2,zd,e3];rfl) (K4.box hb4) ?_
 simp[tupOf,AV.strip,AV.strip1,zp,y6]
abbrev zB:List AV:=[.int .i64 0,.int .i64 0,.str [],.sl .nil 5 [],.sl .nil 6 []]
theorem zd6 (fixed:Bool) (k:Nat) (hk:k≤16) (ih:∀ n,k=n+1→zep fixed n):zep fixed k:=by
 intro H r L p t hs hl hr
 refine zU (ACalls.goO (R:=fun v H'=>Yo H r L (16-k) (zX fixed k t) (fun v=>.agg (cV v)) v.strip H') (RP:=fun v H'=>Yy (zX fixed k t) v H') ir33 ck33 (Al4 _) fun KP Q hQ hP=>?_)
 have hll:L.length≤zq:=Nat.le_trans (zaG L) hl
 have hsl:(hdT t).s.length≤zq:=Nat.le_trans (zik hs) hl
 have hplen:p.length+t.length=L.length:=by rw[← hs];simp
 have pan:∀(v:AV) (H1:Heap) (n:Int),v=zP n→zX fixed k t=.error n→KP v H1:=fun v H1 n h1 h2=>hP v H1 H1 (Low.refl _) ⟨n,h2,h1⟩
 have fin:=KI.done hQ
 have K0:=KI.start hs hr
 simp(disch:=first|omega|assumption) only[ir33,go_sem]
 refine goA_intro fun b4 hb4=>?_
 have n4:=K0.ne hb4
 simp(disch:=first|omega|assumption) only[go_sem]
 refine goK_ret (zc5 (dp:=16-k) hs (by rw[upd_ne n4];exact hr)) fun v H1 ⟨hv,hH⟩=>?_
 subst hv;subst hH
 simp(disch:=first|omega|assumption) only[yG,go_sem]
 refine goA_intro fun b5 hb5=>?_
 have h54:b5≠b4:=fun e=>by subst e;rw[upd_same] at hb5;cases hb5
 have hb5H:H b5=none:=by rw[upd_ne h54] at hb5;exact hb5
 have n5:=K0.ne hb5H
 simp(disch:=first|omega|assumption) only[go_sem]
 generalize hHa:Heap.upd (Heap.upd H b4 _) b5 _=Ha
 have g5:Ha b5=some (.cells [.int .i64 (hdT t).k,.str (hdT t).s]):=by rw[← hHa,upd_same]
 have g4:Ha b4=some (.cells zB):=by rw[← hHa,upd_ne (Ne.symm h54),upd_same]
 have gr:Ha r=some (prc L p (16-k)):=by rw[← hHa,upd_ne n5,upd_ne n4];exact hr
 have KA:KI H r L t (16-k) Ha:=by rw[← hHa];exact(K0.box hb4).box hb5H
 clear hHa
 have gr':=gr
 simp only[prc] at gr'
 simp only[zB] at g4
 have n5s:=Ne.symm n5
 have n4s:=Ne.symm n4
 simp only[zq] at hsl
 have hll2:=hll
 simp only[zq] at hll2
 by_cases hk2:(hdT t).k=2
 ·have hk2':((hdT t).k=2)=True:=eq_true hk2
  have e1:zX fixed k t=.ok (Z6 (hdT t).s,t.tail):=by rw[zL,Zi.eq_def,if_pos hk2]
  simp(disch:=first|omega|assumption) only[hk2',g5,gr',wrap64,n5s,n4s,go_sem]
  refine goK_pure (zhf _) ?_
  simp(disch:=first|omega|assumption) only[zi,ze,zb,zj,zf,za,zp,g4,n4s,go_sem]
  exact fin _ _ [.agg (cV (Z6 (hdT t).s))] _ _ (by simp(disch:=first|omega|assumption) only[zi,ze,zb,zj,zf,za,zp,ir33,resvs,resv,go_sem]) e1 ((KA.call (Zc hs (by rw[hk2];decide) _)).box hb4) (by simp[tupOf,AV.strip,y6])
 by_cases hk34:(hdT t).k=3∨(hdT t).k=4
 ·have e1:zX fixed k t=.ok (zcg (hdT t).s,t.tail):=by rw[zL,Zi.eq_def,if_neg hk2,if_pos hk34]
  have hk0:(hdT t).k≠0:=by omega
  have hd3:(decide ((hdT t).k=3)||decide ((hdT t).k=4))=true:=by simpa using hk34
  rcases Classical.em ((hdT t).k=3) with hk3|hk3
  ·have hk3':((hdT t).k=3)=True:=eq_true hk3
   simp(disch:=first|omega|assumption) only[hk2,hk3',g5,gr',wrap64,n5s,n4s,go_sem]
   refine goK_pure (zfo _ (by simp only[Lim];omega)) ?_
   cases hw:ZG (hdT t).s with
   | true =>
    simp(disch:=first|omega|assumption) only[go_sem]
    refine goK_pure (zhT _) ?_
    simp(disch:=first|omega|assumption) only[zi,ze,zb,zj,zf,za,zp,g4,n4s,go_sem]
    refine fin _ _ [.agg (cV (.mk 2 (zcM (hdT t).s) [] [] []))] _ _ (by simp(disch:=first|omega|assumption) only[zi,ze,zb,zj,zf,za,zp,ir33,resvs,resv,go_sem]) e1 ((KA.call (Zc hs hk0 _)).box hb4) ?_
    simp[tupOf,AV.strip,y6,zcg,hw]
   | false =>
    simp(disch:=first|omega|assumption) only[g5,g4,n5s,n4s,go_sem]
    refine fin _ _ [.agg [.int .i64 3,.int .i64 0,.str (hdT t).s,.sl .nil 5 [],.sl .nil 6 []]] _ _ (by simp(disch:=first|omega|assumption) only[zi,ze,zb,zj,zf,za,zp,ir33,resvs,resv,go_sem]) e1 ((KA.call (Zc hs hk0 _)).box hb4) ?_
    simp[tupOf,AV.strip,AV.strip1,zcg,hw,cV,cVs,cMs]
  ·have hk4':((hdT t).k=4)=True:=eq_true (by omega)
   simp(disch:=first|omega|assumption) only[hk2,hk3,hk4',g5,gr',wrap64,n5s,n4s,go_sem]
   refine goK_pure (zfo _ (by simp only[Lim];omega)) ?_
   cases hw:ZG (hdT t).s with
   | true =>
    simp(disch:=first|omega|assumption) only[go_sem]
    refine goK_pure (zhT _) ?_
    simp(disch:=first|omega|assumption) only[zi,ze,zb,zj,zf,za,zp,g4,n4s,go_sem]
    refine fin _ _ [.agg (cV (.mk 2 (zcM (hdT t).s) [] [] []))] _ _ (by simp(disch:=first|omega|assumption) only[zi,ze,zb,zj,zf,za,zp,ir33,resvs,resv,go_sem]) e1 ((KA.call (Zc hs hk0 _)).box hb4) ?_
    simp[tupOf,AV.strip,y6,zcg,hw]
   | false =>
    simp(disch:=first|omega|assumption) only[g5,g4,n5s,n4s,go_sem]
    refine fin _ _ [.agg [.int .i64 3,.int .i64 0,.str (hdT t).s,.sl .nil 5 [],.sl .nil 6 []]] _ _ (by simp(disch:=first|omega|assumption) only[zi,ze,zb,zj,zf,za,zp,ir33,resvs,resv,go_sem]) e1 ((KA.call (Zc hs hk0 _)).box hb4) ?_
    simp[tupOf,AV.strip,AV.strip1,zcg,hw,cV,cVs,cMs]
 by_cases hk5:(hdT t).k=5
 ·have hk5':((hdT t).k=5)=True:=eq_true hk5
  have hk3:¬ ((hdT t).k=3):=by omega
  have hk4:¬ ((hdT t).k=4):=by omega
  have e1:zX fixed k t=.ok (.mk 4 0 (hdT t).s [] [],t.tail):=by rw[zL,Zi.eq_def,if_neg hk2,if_neg hk34,if_pos hk5]
  simp(disch:=first|omega|assumption) only[hk2,hk3,hk4,hk5',g5,gr',wrap64,n5s,n4s,go_sem]
  refine goK_pure (zhX _) ?_
  simp(disch:=first|omega|assumption) only[zi,ze,zb,zj,zf,za,zp,g4,n4s,go_sem]
  exact fin _ _ [.agg (cV (.mk 4 0 (hdT t).s [] []))] _ _ (by simp(disch:=first|omega|assumption) only[zi,ze,zb,zj,zf,za,zp,ir33,resvs,resv,go_sem]) e1 ((KA.call (Zc hs (by rw[hk5];decide) _)).box hb4) (by simp[tupOf,AV.strip,y6])
 have hk3:¬ ((hdT t).k=3):=fun e=>hk34 (.inl e)
 have hk4:¬ ((hdT t).k=4):=fun e=>hk34 (.inr e)
 have bad1:isP [91] t=true→k=0→zX fixed k t=.error 4:=fun hi h=>by
  subst h
  rw[zL,Zi.eq_def,if_neg hk2,if_neg hk34,if_neg hk5,if_pos hi];rfl
 have bad2:¬ (isP [91] t=true)→isP [123] t=true→k=0→zX fixed k t=.error 4:=fun h0 hi h=>by
  subst h
  rw[zL,Zi.eq_def,if_neg hk2,if_neg hk34,if_neg hk5,if_neg h0,if_pos hi];rfl
 simp(disch:=first|omega|assumption) only[hk2,hk3,hk4,hk5,g5,go_sem]
 refine goK_both (zfa (dp:=16-k) hs hll (by omega) gr [91]) (fun v H1 ⟨hv,hat,haf⟩=>?_) fun v H1 ⟨hi,h16,hv⟩=>pan v H1 4 hv (bad1 hi (by omega))
 subst hv
 cases hi:isP [91] t with
 | true =>
  obtain⟨hd16,ha1⟩:=hat hi
  obtain⟨n,rfl⟩:∃ n,k=n+1:=⟨k-1,by omega⟩
  rw[show 16-(n+1)+1=16-n by omega] at ha1
  have K1:=KA.call ha1
  have g41:H1 b4=some (.cells zB):=by rw[ha1.other n4s,g4]
  have hi0:isP [91] t=true:=hi
  have hi2:isP [91] t=true:=hi
  simp(disch:=first|omega|assumption) only[go_sem]
  refine goA_intro fun b8 hb8=>?_
  have hb8':=hb8
  have hb8H:H b8=none:=K1.none hb8
  have n8:=K1.ne hb8H
  have h84:b8≠b4:=fun e=>by subst e;rw[g41] at hb8;cases hb8
  have K2:KO H r L t.tail (16-n) (H1.upd b8 (.cells [.int .i64 6,.int .i64 0,.str [],.sl .nil 5 [],.sl .nil 6 []])) .nil 0 5:=⟨K1.box hb8H,rfl,nofun⟩
  obtain⟨R,hR⟩:∃ R,zr [93] (zX fixed n) (t.tail.length+1) [] t.tail=R:=⟨_,rfl⟩
  have hx:zX fixed (n+1) t=pb R fun l t=>.ok (Val.mk 6 0 [] l [],t):=by rw[← hR,zL,Zi.eq_def,if_neg hk2,if_neg hk34,if_neg hk5,if_pos hi2];rfl
  simp(disch:=first|omega|assumption) only[List.map_nil,go_sem]
  refine goL_st (fun x:Own×List Val×TS=>[]) (fun x H'=>KO H r L x.2.2 (16-n) H' x.1 x.2.1.length 5∧H' b8=some (.cells [.int .i64 6,.int .i64 0,.str [],.sl x.1 5 (cVs x.2.1),.sl .nil 6 []])∧H' b4=some (.cells zB)∧(∃ m,x.2.2.length<m∧zr [93] (zX fixed n) m x.2.1 x.2.2=R)∧x.2.1.length+x.2.2.length≤L.length) (fun x=>x.2.2.length) (.nil,[],t.tail) (by simp(disch:=first|omega|assumption) only[go_sem]) ⟨K2,upd_same ..,by rw[upd_ne (Ne.symm h84)];exact g41,⟨_,Nat.lt_succ_self _,hR⟩,by have:=K1.here;obtain⟨q,hq,_⟩:=this;rw[← hq];simp⟩ ?_
  rintro⟨o,l,u⟩ H3 J ⟨K3,g8,g4,⟨m,hm,hR3⟩,hlen⟩ hJ
  simp only at K3 g8 g4 hm hR3 hlen
  obtain⟨m,rfl⟩:∃ j,m=j+1:=⟨m-1,by omega⟩
  obtain⟨p3,hp3,hr3⟩:=K3.here
  have hcl:=zcu l
  simp(disch:=first|omega|assumption) only[go_sem]
  refine goK_ret (zea hp3 hll (by omega) hr3 [93]) fun v H4 ⟨hv4,hat,haf⟩=>?_
  subst hv4
  cases hj:isP [93] u with
  | true =>
   have ha4:=hat hj
   have K4:=K3.call ha4
   rw[show 16-n-1=16-(n+1) by omega] at K4
   have g84:H4 b8=some (.cells [.int .i64 6,.int .i64 0,.str [],.sl o 5 (cVs l),.sl .nil 6 []]):=by rw[ha4.other (Ne.symm n8),g8]
   have g44:H4 b4=some (.cells zB):=by rw[ha4.other (Ne.symm n4),g4]
   simp only[zB] at g44
   have e1:R=.ok (l,u.tail):=by rw[← hR3,zr,hj];rfl
   simp(disch:=first|omega|assumption) only[g84,g44,Ne.symm h84,h84,go_sem]
   refine fin _ _ [.agg [.int .i64 6,.int .i64 0,.str [],.sl o 5 (cVs l),.sl .nil 6 []]] (Val.mk 6 0 [] l []) u.tail (by simp(disch:=first|omega|assumption) only[ir33,resvs,resv,go_sem]) (by rw[hx,e1];rfl) (K4.toKI.box hb4) ?_
   simp[tupOf,AV.strip,AV.strip1,cV,cVs,cMs,ze5]
  | false =>
   have ha4:=haf hj
   have K4:=K3.call ha4
   obtain⟨p4,hp4,hr4⟩:=K4.here
   have g84:H4 b8=some (.cells [.int .i64 6,.int .i64 0,.str [],.sl o 5 (cVs l),.sl .nil 6 []]):=by rw[ha4.other (Ne.symm n8),g8]
   have g44:H4 b4=some (.cells zB):=by rw[ha4.other (Ne.symm n4),g4]
   rw[zr,hj] at hR3
   simp only[Al7,if_false] at hR3
   simp(disch:=first|omega|assumption) only[g84,go_sem]
   refine goK_both (ih n rfl _ r L p4 u hp4 hl hr4) (fun v H5 ⟨x,t5,e5,hv5,ha5⟩=>?_) fun v H5 ⟨n5,e5,hv5⟩=>pan v H5 n5 hv5 (by rw[hx,← hR3,e5];rfl)
   subst hv5
   rw[e5,zd] at hR3
   have hlt:=(yB fixed n).lt (by decide) _ _ _ e5
   have K5:=K4.call ha5
   have g85:H5 b8=some (.cells [.int .i64 6,.int .i64 0,.str [],.sl o 5 (cVs l),.sl .nil 6 []]):=by rw[ha5.other (Ne.symm n8),g84]
   have g45:H5 b4=some (.cells zB):=by rw[ha5.other (Ne.symm n4),g44]
   simp(disch:=first|omega|assumption) only[zi,ze,zb,zj,zf,za,zp,g85,go_sem]
   refine goP_ownS (by rw[hcl];exact K5.own) (by simp only[hcl,Al2,Al3];simp only[zq] at hll;omega) (by simp only[hcl,Al2,Al3,maxLen];simp only[zq] at hll;omega) fun o6 H6 hs6=>?_
   have K6:=K5.app (by simpa[hcl] using hs6)
   have g86:=K5.stay hs6 g85
   have g46:=K5.stay hs6 g45
   simp(disch:=first|omega|assumption) only[zi,ze,zb,zj,zf,za,zp,g86,go_sem]
   refine goJ (hJ (o6,l++[x],t5) _ (by simp only;omega) ⟨by simpa using K6.box hb8H g86,by rw[upd_same];simp[YI,y6],by rw[upd_ne (Ne.symm h84)];exact g46,⟨m,by simp only;omega,hR3⟩,by simp only[Al5,Al2,Al3];omega⟩) (by simp(disch:=first|omega|assumption) only[go_sem])
 | false =>
  have ha1:=haf hi
  have K1:=KA.call ha1
  have g41:H1 b4=some (.cells zB):=by rw[ha1.other n4s,g4]
  obtain⟨p1,hp1,hr1⟩:=K1.here
  have hi0:¬ (isP [91] t=true):=by rw[hi];decide
  clear hat haf
  simp(disch:=first|omega|assumption) only[go_sem]
  refine goK_both (zfa (dp:=16-k) hp1 hll (by omega) hr1 [123]) (fun v H2 ⟨hv,hat,haf⟩=>?_) fun v H2 ⟨hi,h16,hv⟩=>pan v H2 4 hv (bad2 hi0 hi (by omega))
  subst hv
  cases hi:isP [123] t with
  | true =>
   obtain⟨hd16,ha2⟩:=hat hi
   obtain⟨n,rfl⟩:∃ n,k=n+1:=⟨k-1,by omega⟩
   rw[show 16-(n+1)+1=16-n by omega] at ha2
   have K1:=K1.call ha2
   have g41:H2 b4=some (.cells zB):=by rw[ha2.other n4s,g41]
   clear hat haf
   have hi2:isP [123] t=true:=hi
   simp(disch:=first|omega|assumption) only[go_sem]
   refine goA_intro fun b8 hb8=>?_
   have hb8':=hb8
   have hb8H:H b8=none:=K1.none hb8
   have n8:=K1.ne hb8H
   have h84:b8≠b4:=fun e=>by subst e;rw[g41] at hb8;cases hb8
   have K2:KO H r L t.tail (16-n) (H2.upd b8 (.cells [.int .i64 7,.int .i64 0,.str [],.sl .nil 5 [],.sl .nil 6 []])) .nil 0 6:=⟨K1.box hb8H,rfl,nofun⟩
   obtain⟨R,hR⟩:∃ R,zr [125] (zF (zX fixed n)) (t.tail.length+1) [] t.tail=R:=⟨_,rfl⟩
   have hx:zX fixed (n+1) t=pb R fun l t=>.ok (Val.mk 7 0 [] [] l,t):=by rw[← hR,zL,Zi.eq_def,if_neg hk2,if_neg hk34,if_neg hk5,if_neg hi0,if_pos hi2];rfl
   simp(disch:=first|omega|assumption) only[List.map_nil,go_sem]
   refine goL_st (fun x:Own×List Mem×TS=>[]) (fun x H'=>KO H r L x.2.2 (16-n) H' x.1 x.2.1.length 6∧H' b8=some (.cells [.int .i64 7,.int .i64 0,.str [],.sl .nil 5 [],.sl x.1 6 (cMs x.2.1)])∧H' b4=some (.cells zB)∧(∃ m,x.2.2.length<m∧zr [125] (zF (zX fixed n)) m x.2.1 x.2.2=R)∧x.2.1.length+x.2.2.length≤L.length) (fun x=>x.2.2.length) (.nil,[],t.tail) (by simp(disch:=first|omega|assumption) only[go_sem]) ⟨K2,upd_same ..,by rw[upd_ne (Ne.symm h84)];exact g41,⟨_,Nat.lt_succ_self _,hR⟩,by have:=K1.here;obtain⟨q,hq,_⟩:=this;rw[← hq];simp⟩ ?_
   rintro⟨o,l,u⟩ H3 J ⟨K3,g8,g4,⟨m,hm,hR3⟩,hlen⟩ hJ
   simp only at K3 g8 g4 hm hR3 hlen
   obtain⟨m,rfl⟩:∃ j,m=j+1:=⟨m-1,by omega⟩
   obtain⟨p3,hp3,hr3⟩:=K3.here
   have hcl:=zav l
   simp(disch:=first|omega|assumption) only[go_sem]
   refine goK_ret (zea hp3 hll (by omega) hr3 [125]) fun v H4 ⟨hv4,hat,haf⟩=>?_
   subst hv4
   cases hj:isP [125] u with
   | true =>
    have ha4:=hat hj
    have K4:=K3.call ha4
    rw[show 16-n-1=16-(n+1) by omega] at K4
    have g84:H4 b8=some (.cells [.int .i64 7,.int .i64 0,.str [],.sl .nil 5 [],.sl o 6 (cMs l)]):=by rw[ha4.other (Ne.symm n8),g8]
    have g44:H4 b4=some (.cells zB):=by rw[ha4.other (Ne.symm n4),g4]
    simp only[zB] at g44
    have e1:R=.ok (l,u.tail):=by rw[← hR3,zr,hj];rfl
    simp(disch:=first|omega|assumption) only[g84,g44,Ne.symm h84,h84,go_sem]
    refine fin _ _ [.agg [.int .i64 7,.int .i64 0,.str [],.sl .nil 5 [],.sl o 6 (cMs l)]] (Val.mk 7 0 [] [] l) u.tail (by simp(disch:=first|omega|assumption) only[ir33,resvs,resv,go_sem]) (by rw[hx,e1];rfl) (K4.toKI.box hb4) ?_
    simp[tupOf,AV.strip,AV.strip1,cV,cVs,cMs,zbW]
   | false =>
    have ha4:=haf hj
    have K4:=K3.call ha4
    obtain⟨p4,hp4,hr4⟩:=K4.here
    have g84:H4 b8=some (.cells [.int .i64 7,.int .i64 0,.str [],.sl .nil 5 [],.sl o 6 (cMs l)]):=by rw[ha4.other (Ne.symm n8),g8]
    have g44:H4 b4=some (.cells zB):=by rw[ha4.other (Ne.symm n4),g4]
    rw[zr,hj] at hR3
    simp only[Al7,if_false] at hR3
    simp(disch:=first|omega|assumption) only[g84,go_sem]
    refine goK_both (zaQ (ih n rfl) hp4 hl hr4) (fun v H5 ⟨x,t5,e5,hv5,ha5⟩=>?_) fun v H5 ⟨n5,e5,hv5⟩=>pan v H5 n5 hv5 (by rw[hx,← hR3,e5];rfl)
    subst hv5
    rw[e5,zd] at hR3
    have hlt:=(yh (yB fixed n)).lt (by decide) _ _ _ e5
    have K5:=K4.call ha5
    have g85:H5 b8=some (.cells [.int .i64 7,.int .i64 0,.str [],.sl .nil 5 [],.sl o 6 (cMs l)]):=by rw[ha5.other (Ne.symm n8),g84]
    have g45:H5 b4=some (.cells zB):=by rw[ha5.other (Ne.symm n4),g44]
    simp(disch:=first|omega|assumption) only[zi,ze,zb,zj,zf,za,zp,g85,go_sem]
    refine goP_ownS (by rw[hcl];exact K5.own) (by simp only[hcl,Al2,Al3];simp only[zq] at hll;omega) (by simp only[hcl,Al2,Al3,maxLen];simp only[zq] at hll;omega) fun o6 H6 hs6=>?_
    have K6:=K5.app (by simpa[hcl] using hs6)
    have g86:=K5.stay hs6 g85
    have g46:=K5.stay hs6 g45
    simp(disch:=first|omega|assumption) only[zi,ze,zb,zj,zf,za,zp,g86,go_sem]
    refine goJ (hJ (o6,l++[x],t5) _ (by simp only;omega) ⟨by simpa using K6.box hb8H g86,by rw[upd_same];simp[Yd,YT],by rw[upd_ne (Ne.symm h84)];exact g46,⟨m,by simp only;omega,hR3⟩,by simp only[Al5,Al2,Al3];omega⟩) (by simp(disch:=first|omega|assumption) only[go_sem])
  | false =>
   have ha2:=haf hi
   have K2:=K1.call ha2
   have g42:H2 b4=some (.cells zB):=by rw[ha2.other n4s,g41]
   obtain⟨p2,hp2,hr2⟩:=K2.here
   have hi1:¬ (isP [123] t=true):=by rw[hi];decide
   cases hfx:fixed with
   | true =>
    subst hfx
    simp(disch:=first|omega|assumption) only[go_sem]
    exact goK_both (Z3 _ r 2) (fun _ _ h=>h.elim) fun v H3 h=>pan v H3 2 h (by rw[zL,Zi.eq_def,if_neg hk2,if_neg hk34,if_neg hk5,if_neg hi0,if_neg hi1];rfl)
   | false =>
    subst hfx
    have hx:zX false k t=pb (zG [36] t) fun _ t=>pb (zv t) fun s t=>.ok (.mk 8 0 s [] [],t):=by rw[zL,Zi.eq_def,if_neg hk2,if_neg hk34,if_neg hk5,if_neg hi0,if_neg hi1];rfl
    simp(disch:=first|omega|assumption) only[go_sem]
    refine goK_both (zcq (dp:=16-k) hp2 hll hr2 [36]) (fun v H3 ⟨_,t3,e3,hv3,ha3⟩=>?_) fun v H3 ⟨n,e3,hv3⟩=>pan v H3 n hv3 (by rw[hx,e3];rfl)
    subst hv3
    have K3:=K2.call ha3
    obtain⟨p3,hp3,hr3⟩:=K3.here
    have g43:H3 b4=some (.cells zB):=by rw[ha3.other n4s,g42]
    simp(disch:=first|omega|assumption) only[go_sem]
    refine goK_both (za8 (dp:=16-k) hp3 hll hr3) (fun v H4 ⟨s,t4,e4,hv4,ha4⟩=>?_) fun v H4 ⟨n,e4,hv4⟩=>pan v H4 n hv4 (by rw[hx,e3,zd,e4];rfl)
    subst hv4
    have K4:=K3.call ha4
    have g44:H4 b4=some (.cells zB):=by rw[ha4.other n4s,g43]
    simp only[zB] at g44
    simp(disch:=first|omega|assumption) only[g44,go_sem]
    exact fin _ _ [.agg [.int .i64 8,.int .i64 0,.str s,.sl .nil 5 [],.sl .nil 6 []]] (.mk 8 0 s [] []) t4 (by simp(disch:=first|omega|assumption) only[ir33,resvs,resv,go_sem]) (by rw[hx,e3,zd,e4];rfl) (K4.box hb4) rfl
theorem zaa (fixed:Bool):∀ k,k≤16→zep fixed k
 | 0,h=>zd6 fixed 0 h fun n e=>by cases e
 | k+1,h=>zd6 fixed (k+1) h fun n e=>by cases e;exact zaa fixed k (by omega)
theorem ZN {p t L:TS} (h:p++t=L):t.length≤L.length:=by rw[← h];simp
theorem zds (l:List DirD):cDs l=l.map cD:=rfl
theorem zht {fixed:Bool} {k:Nat} (hk:k≤16) {H:Heap} {r:Nat} {L p t:TS} (hs:p++t=L) (hl:wT L≤zq) (hr:H r=some (prc L p (16-k))) :
  ACalls Tryz.prog 233 [.ptr r 0,.bool fixed] H (RpE H r L (16-k) (Zw fixed k t) (fun l=>.sl .no 6 (cMs l))):=by
 refine zU (ACalls.goO (R:=fun v H'=>Yo H r L (16-k) (Zw fixed k t) (fun l=>.sl .no 6 (cMs l)) v.strip H') (RP:=fun v H'=>Yy (Zw fixed k t) v H') ir233 ck233 (Al4 _) fun KP Q hQ hP=>?_)
 have hll:L.length≤zq:=Nat.le_trans (zaG L) hl
 have hll2:=hll
 simp only[zq] at hll2
 have pan:∀(v:AV) (H1:Heap) (n:Int),v=zP n→(Zw fixed k t)=.error n→KP v H1:=fun v H1 n h1 h2=>hP v H1 H1 (Low.refl _) ⟨n,h2,h1⟩
 have fin:=KI.done hQ
 have K0:=KI.start hs hr
 have hv:=zaa fixed k hk
 simp(disch:=first|omega|assumption) only[ir233,go_sem]
 refine goK_ret (Yq (dp:=16-k) hs hll hr [40]) fun v H1 ⟨hv1,ha1⟩=>?_
 subst hv1
 cases hi:isP [40] t with
 | false =>
  rw[yp,hi] at ha1
  simp(disch:=first|omega|assumption) only[go_sem]
  exact fin _ _ [.sl .nil 6 []] [] t (by simp(disch:=first|omega|assumption) only[ir233,resvs,resv,go_sem]) (by unfold Zw;rw[hi];rfl) (K0.call (by simpa using ha1)) (by simp[tupOf,AV.strip,AV.strip1,cMs])
 | true =>
  rw[yp,hi,if_pos rfl] at ha1
  have K1:=K0.call ha1
  obtain⟨p1,hp1,hr1⟩:=K1.here
  have hx:Zw fixed k t=pb (zF (zX fixed k) t.tail) fun x t=>zr [41] (zF (zX fixed k)) (t.length+1) [x] t:=by
   unfold Zw;rw[hi]
   rfl
  simp(disch:=first|omega|assumption) only[go_sem]
  refine goK_both (zaQ hv hp1 hl hr1) (fun v H2 ⟨x1,t2,e2,hv2,ha2⟩=>?_) fun v H2 ⟨n,e2,hv2⟩=>pan v H2 n hv2 (by rw[hx,e2];rfl)
  subst hv2
  have K2:=K1.call ha2
  have hlt1:=(yh (yB fixed k)).lt (by decide) _ _ _ e2
  have hsl:=ZN hp1
  rw[e2,zd] at hx
  obtain⟨R,hR⟩:∃ R,zr [41] (zF (zX fixed k)) (t2.length+1) [x1] t2=R:=⟨_,rfl⟩
  rw[hR] at hx
  simp(disch:=first|omega|assumption) only[zi,ze,zb,zj,zf,za,zp,go_sem]
  refine goL_st (fun x:Own×List Mem×TS=>[(5,.sl x.1 6 (cMs x.2.1))]) (fun x H'=>KO H r L x.2.2 (16-k) H' x.1 x.2.1.length 6∧(∃ m,x.2.2.length<m∧zr [41] (zF (zX fixed k)) m x.2.1 x.2.2=R)∧x.2.1.length+x.2.2.length≤L.length) (fun x=>x.2.2.length) (.full,[x1],t2) (by simp(disch:=first|omega|assumption) only[zi,ze,zb,zj,zf,za,zp,cMs,YT,go_sem]) ⟨⟨K2,Owned.full _ _ _,nofun⟩,⟨_,Nat.lt_succ_self _,hR⟩,by simp only[List.length_singleton];omega⟩ ?_
  rintro⟨o,l,u⟩ H3 J ⟨K3,⟨m,hm,hR3⟩,hlen⟩ hJ
  simp only at K3 hm hR3 hlen
  obtain⟨m,rfl⟩:∃ j,m=j+1:=⟨m-1,by omega⟩
  obtain⟨p3,hp3,hr3⟩:=K3.here
  have hcl:=zav l
  simp(disch:=first|omega|assumption) only[go_sem]
  refine goK_ret (Yq (dp:=16-k) hp3 hll hr3 [41]) fun v H4 ⟨hv4,ha4⟩=>?_
  subst hv4
  cases hj:isP [41] u with
  | true =>
   rw[yp,hj,if_pos rfl] at ha4
   have e1:R=.ok (l,u.tail):=by rw[← hR3,zr,hj];rfl
   simp(disch:=first|omega|assumption) only[go_sem]
   refine fin _ _ [.sl o 6 (cMs l)] l u.tail (by simp(disch:=first|omega|assumption) only[ir233,resvs,resv,go_sem]) (by rw[hx,e1]) (K3.toKI.call ha4) ?_
   simp[tupOf,AV.strip,AV.strip1,zbW]
  | false =>
   rw[yp,hj] at ha4
   have K4:=K3.call (by simpa using ha4)
   obtain⟨p4,hp4,hr4⟩:=K4.here
   rw[zr,hj] at hR3
   simp only[Al7,if_false] at hR3
   simp(disch:=first|omega|assumption) only[go_sem]
   refine goK_both (zaQ hv hp4 hl hr4) (fun v H5 ⟨x,t5,e5,hv5,ha5⟩=>?_) fun v H5 ⟨n5,e5,hv5⟩=>pan v H5 n5 hv5 (by rw[hx,← hR3,e5];rfl)
   subst hv5
   rw[e5,zd] at hR3
   have hlt:=(yh (yB fixed k)).lt (by decide) _ _ _ e5
   have K5:=K4.call ha5
   simp(disch:=first|omega|assumption) only[zi,ze,zb,zj,zf,za,zp,go_sem]
   refine goP_ownS (by rw[hcl];exact K5.own) (by simp only[hcl,Al2,Al3];omega) (by simp only[hcl,Al2,Al3,maxLen];omega) fun o6 H6 hs6=>?_
   have K6:=K5.app (by simpa[hcl] using hs6)
   simp(disch:=first|omega|assumption) only[zi,ze,zb,zj,zf,za,zp,go_sem]
   refine goJ (hJ (o6,l++[x],t5) _ (by simp only;omega) ⟨by simpa using K6,⟨m,by simp only;omega,hR3⟩,by simp only[Al5,Al2,Al3];omega⟩) (by simp(disch:=first|omega|assumption) only[Yd,List.map_append,List.map_cons,List.map_nil,YT,go_sem])
theorem zg8 {fixed:Bool} {k:Nat} (hk:k≤16) {H:Heap} {r:Nat} {L p t:TS} (hs:p++t=L) (hl:wT L≤zq) (hr:H r=some (prc L p (16-k))) :
  ACalls Tryz.prog 196 [.ptr r 0,.bool fixed] H (RpE H r L (16-k) (Z0 fixed k t) (fun l=>.sl .no 2 (cDs l))):=by
 refine zU (ACalls.goO (R:=fun v H'=>Yo H r L (16-k) (Z0 fixed k t) (fun l=>.sl .no 2 (cDs l)) v.strip H') (RP:=fun v H'=>Yy (Z0 fixed k t) v H') ir196 ck196 (Al4 _) fun KP Q hQ hP=>?_)
 have hll:L.length≤zq:=Nat.le_trans (zaG L) hl
 have hll2:=hll
 simp only[zq] at hll2
 have pan:∀(v:AV) (H1:Heap) (n:Int),v=zP n→(Z0 fixed k t)=.error n→KP v H1:=fun v H1 n h1 h2=>hP v H1 H1 (Low.refl _) ⟨n,h2,h1⟩
 have fin:=KI.done hQ
 have K0:=KI.start hs hr
 obtain⟨R,hR⟩:∃ R,zH [64] (zbq fixed k) (t.length+1) [] t=R:=⟨_,rfl⟩
 have hx:Z0 fixed k t=R:=hR
 have hsl:=ZN hs
 simp(disch:=first|omega|assumption) only[ir196,go_sem]
 refine goL_st (fun x:Own×List DirD×TS=>[(5,.sl x.1 2 (cDs x.2.1))]) (fun x H'=>KO H r L x.2.2 (16-k) H' x.1 x.2.1.length 2∧(∃ m,x.2.2.length<m∧zH [64] (zbq fixed k) m x.2.1 x.2.2=R)∧x.2.1.length+x.2.2.length≤L.length) (fun x=>x.2.2.length) (.nil,[],t) (by simp(disch:=first|omega|assumption) only[zds,List.map_nil,go_sem]) ⟨⟨K0,rfl,nofun⟩,⟨_,Nat.lt_succ_self _,hR⟩,by simp only[Al3];omega⟩ ?_
 rintro⟨o,l,u⟩ H3 J ⟨K3,⟨m,hm,hR3⟩,hlen⟩ hJ
 simp only at K3 hm hR3 hlen
 obtain⟨m,rfl⟩:∃ j,m=j+1:=⟨m-1,by omega⟩
 obtain⟨p3,hp3,hr3⟩:=K3.here
 have hcl:=zcl l
 simp(disch:=first|omega|assumption) only[go_sem]
 refine goK_ret (Yq (dp:=16-k) hp3 hll hr3 [64]) fun v H4 ⟨hv4,ha4⟩=>?_
 subst hv4
 cases hj:isP [64] u with
 | false =>
  rw[yp,hj] at ha4
  have e1:R=.ok (l,u):=by rw[← hR3,zH,hj];rfl
  simp(disch:=first|omega|assumption) only[go_sem]
  refine fin _ _ [.sl o 2 (cDs l)] l u (by simp(disch:=first|omega|assumption) only[ir196,resvs,resv,go_sem]) (by rw[hx,e1]) (K3.toKI.call (by simpa using ha4)) ?_
  simp[tupOf,AV.strip,AV.strip1,zds,zfB]
 | true =>
  rw[yp,hj,if_pos rfl] at ha4
  have hlt0:=zat hj
  have K4:=K3.call ha4
  obtain⟨p4,hp4,hr4⟩:=K4.here
  rw[zH,hj,if_pos rfl] at hR3
  simp(disch:=first|omega|assumption) only[go_sem]
  refine goK_both (za8 (dp:=16-k) hp4 hll hr4) (fun v H5 ⟨nm,t5,e5,hv5,ha5⟩=>?_) fun v H5 ⟨n5,e5,hv5⟩=>pan v H5 n5 hv5 (by rw[hx,← hR3,zbq,e5];rfl)
  subst hv5
  have K5:=K4.call ha5
  obtain⟨p5,hp5,hr5⟩:=K5.here
  simp(disch:=first|omega|assumption) only[go_sem]
  refine goK_both (zht hk hp5 hl hr5) (fun v H6 ⟨a,t6,e6,hv6,ha6⟩=>?_) fun v H6 ⟨n6,e6,hv6⟩=>pan v H6 n6 hv6 (by rw[hx,← hR3,zbq,e5,zd,e6];rfl)
  subst hv6
  have K6:=K5.call ha6
  have e7:zbq fixed k u.tail=.ok (⟨nm,a⟩,t6):=by rw[zbq,e5,zd,e6];rfl
  rw[e7,zd] at hR3
  have hlt:=(zaR fixed k).lt (by decide) _ _ _ e7
  simp(disch:=first|omega|assumption) only[zi,ze,zb,zj,zf,za,zp,go_sem]
  refine goP_ownS (by rw[hcl];exact K6.own) (by simp only[hcl,Al2,Al3];omega) (by simp only[hcl,Al2,Al3,maxLen];omega) fun o7 H7 hs7=>?_
  have K7:=K6.app (by simpa[hcl] using hs7)
  simp(disch:=first|omega|assumption) only[zi,ze,zb,zj,zf,za,zp,go_sem]
  refine goJ (hJ (o7,l++[⟨nm,a⟩],t6) _ (by simp only;omega) ⟨by simpa using K7,⟨m,by simp only;omega,hR3⟩,by simp only[Al5,Al2,Al3];omega⟩) (by simp(disch:=first|omega|assumption) only[zds,cD,List.map_append,List.map_cons,List.map_nil,go_sem])
end Go.Proofs.YtaielcdfcgpbiaaGreatDoor
namespace Go.Proofs.YtaielcdfcgpbiaaGreatDoor
open Go.Lib
end Go.Proofs.YtaielcdfcgpbiaaGreatDoor
namespace Go.Proofs.YtaielcdfcgpbiaaGreatDoor
open Go.Ab
abbrev pl (v:Val):Prop:=zgA zbc v=true
inductive Shape:Val→Prop
 | null:Shape (.mk 0 0 [] [] [])
 | bool (n:Int) (h:n=0∨n=1):Shape (.mk 1 n [] [] [])
 | int (n:Int):Shape (.mk 2 n [] [] [])
 | num (s:List UInt8) (h:zhU s=true):Shape (.mk 3 0 s [] [])
 | text (s:List UInt8):Shape (.mk 4 0 s [] [])
 | word (s:List UInt8) (h:zhV s=false):Shape (.mk 5 0 s [] [])
 | var (s:List UInt8):Shape (.mk 8 0 s [] [])
 | list (l:List Val) (h:zfk zbc l=true):Shape (.mk 6 0 [] l [])
 | obj (m:List Mem) (h:zfp zbc m=true):Shape (.mk 7 0 [] [] m)
theorem zac {n:Int} {s:List UInt8} {l:List Val} {m:List Mem}:zcD n s l m=true↔n=0∧s=[]∧l=[]∧m=[]:=by
 simp[zcD]
theorem shape:∀ v,pl v→Shape v
 | .mk k n s l m,h=>by
  simp only[pl,zgA] at h
  split at h
  ·rename_i k6
   subst k6
   simp only[Al0,zac] at h
   obtain⟨h1,rfl,rfl,_,rfl⟩:=h
   exact .list l h1
  ·split at h
   ·rename_i k7
    subst k7
    simp only[Al0,zac] at h
    obtain⟨h1,rfl,rfl,rfl,_⟩:=h
    exact .obj m h1
   ·simp only[zdT,Al0,zac] at h
    obtain⟨⟨_,_,rfl,rfl⟩,h⟩:=h
    split at h
    ·rename_i k0
     subst k0
     simp only[Al0,zm] at h
     obtain⟨rfl,rfl⟩:=h
     exact .null
    split at h
    ·rename_i k0
     subst k0
     simp only[Al0,Yp,zm] at h
     obtain⟨h,rfl⟩:=h
     exact .bool n h
    split at h
    ·rename_i k0
     subst k0
     simp only[zm] at h
     subst h
     exact .int n
    split at h
    ·rename_i k0
     subst k0
     simp only[Al0,zm] at h
     obtain⟨rfl,h⟩:=h
     exact .num s h
    split at h
    ·rename_i k0
     subst k0
     simp only[Al0,zm] at h
     obtain⟨rfl,h⟩:=h
     exact .text s
    split at h
    ·rename_i k0
     subst k0
     simp only[Al0,zm,Bool.not_eq_true'] at h
     obtain⟨rfl,_,h⟩:=h
     exact .word s h
    split at h
    ·rename_i k0
     subst k0
     simp only[Al0,zm] at h
     obtain⟨rfl,_⟩:=h
     exact .var s
    ·cases h
open Go.Lib
theorem zcc {P:UInt8→Prop} (h:∀ x:Fin 256,P (UInt8.ofNat x.val)) (c:UInt8):P c:=by
 have:=h ⟨c.toNat,c.toNat_lt⟩
 simpa using this
end Go.Proofs.YtaielcdfcgpbiaaGreatDoor
namespace Go.Proofs.YtaielcdfcgpbiaaGreatDoor
open Go.Ab
theorem YC (t:List UInt8):zk (45::t)=if zx t=0 then 0 else 1+Zh t:=by
 unfold zk;exact if_pos rfl
theorem ZM {s:List UInt8} (h:¬ s.head?=some 45):zk s=Zh s:=by
 unfold zk;exact if_neg h
open Go.Lib
theorem zel (c:UInt8):isD c=true→nch c=true:=zcc (P:=fun c=>isD c=true→nch c=true) (by decide +kernel) c
theorem zhI (c:UInt8):isE c=true→nch c=true:=zcc (P:=fun c=>isE c=true→nch c=true) (by decide +kernel) c
theorem zh1 (c:UInt8):isD c=true→nst c=true:=zcc (P:=fun c=>isD c=true→nst c=true) (by decide +kernel) c
theorem Yb:∀(l:List UInt8) (c:UInt8),c∈l.take (zx l)→isD c=true
 | [],c,h=>by simp at h
 | x::l,c,h=>by
  rw[zx] at h
  split at h
  ·rename_i hx
   rw[zam] at h
   rcases List.mem_cons.1 h with e|e
   ·rw[e];exact hx
   ·exact Yb l c e
  ·simp at h
theorem zew {l:List UInt8} {a b:Nat} (h:a≤b) {c:UInt8} (hc:c∈l.take a):c∈l.take b :=
 (List.take_prefix_take_left h).subset hc
theorem zfq (s:List UInt8):Zh s≤zx s:=by unfold Zh;split<;>(try split)<;>omega
theorem zbE {l:List UInt8} {c:UInt8} (h:c∈l.take (Zh l)):isD c=true:=Yb l c (zew (zfq l) h)
theorem zcE {s:List UInt8} {c:UInt8} (h:c∈s.take (zk s)):nch c=true:=by
 by_cases h45:s.head?=some 45
 ·cases s with
  | nil=>simp at h
  | cons x t =>
   have hx:x=45:=by simpa using h45
   subst hx
   rw[YC] at h
   by_cases h0:zx t=0
   ·rw[if_pos h0] at h;simp at h
   ·rw[if_neg h0,Nat.add_comm,zam] at h
    rcases List.mem_cons.1 h with e|e
    ·rw[e];decide
    ·exact zel c (zbE e)
 ·rw[ZM h45] at h
  exact zel c (zbE h)
theorem zdl {s:List UInt8} {c:UInt8} (h:c∈s.take (yf s)):nch c=true:=by
 unfold yf at h
 split at h
 ·rename_i h46
  cases s with
  | nil=>simp at h
  | cons x t =>
   have hx:x=46:=by simpa using h46.1
   subst hx
   simp only[List.tail_cons] at h
   rw[Nat.add_comm,zam] at h
   rcases List.mem_cons.1 h with e|e
   ·rw[e];decide
   ·exact zel c (Yb _ c e)
 ·simp at h
theorem zdO {s:List UInt8} (h:zk s≠0):∃ c t,s=c::t∧nst c=true:=by
 cases s with
 | nil=>exact absurd (by decide) h
 | cons c t =>
  refine⟨c,t,rfl,?_⟩
  by_cases hc:c=45
  ·rw[hc];decide
  ·rw[ZM (by simpa using hc)] at h
   apply zh1
   cases hd:isD c with
   | true=>rfl
   | false=>exact absurd (by simp[Zh,zx,hd]) h
theorem zfO {r:List UInt8} {c:UInt8} (h:c∈r.take (sgN r)):nch c=true:=by
 unfold sgN at h
 split at h
 ·rename_i hs
  cases r with
  | nil=>simp at h
  | cons x t =>
   simp only[List.head?_cons,Al1] at hs
   simp at h
   subst h
   rcases hs with rfl|rfl<;>decide
 ·simp at h
theorem zev:∀(s:List UInt8) (c:UInt8),c∈s.take (Zq s)→nch c=true
 | [],c,h=>by simp at h
 | x::r,c,h=>by
  rw[Zq] at h
  split at h
  ·rename_i hx
   split at h
   ·simp at h
   ·rw[Nat.add_assoc,Nat.add_comm,zam] at h
    rcases List.mem_cons.1 h with e|e
    ·rw[e];exact zhI x hx
    ·rw[List.take_add] at e
     rcases List.mem_append.1 e with e|e
     ·exact zfO e
     ·exact zel c (Yb _ c e)
  ·simp at h
theorem zfC {s:List UInt8} (h:zbj s≠0):(∀ c∈s,nch c=true)∧∃ c t,s=c::t∧nst c=true:=by
 unfold zbj at h
 split at h
 ·rename_i hl
  unfold yb at h hl
  split at h
  ·exact absurd rfl h
  ·rename_i hw
   rw[if_neg hw] at hl
   simp only at hl
   refine⟨fun c hc=>?_,zdO hw⟩
   have e:s=s.take (zk s+yf (s.drop (zk s))+Zq (s.drop (zk s+yf (s.drop (zk s))))):=by rw[hl,List.take_length]
   rw[e,List.take_add,List.take_add] at hc
   rcases List.mem_append.1 hc with hc|hc
   ·rcases List.mem_append.1 hc with hc|hc
    ·exact zcE hc
    ·exact zdl hc
   ·exact zev _ _ hc
 ·exact absurd rfl h
end Go.Proofs.YtaielcdfcgpbiaaGreatDoor
namespace Go.Proofs.YtaielcdfcgpbiaaGreatDoor
open Go.Ab
theorem zfT (m:List UInt8) (x:Tok) (t:TS):isP m (x::t)=(decide (x.k=1)&&decide (x.s=m)):=rfl
theorem zfK (m n:List UInt8) (t:TS):isP m (pk n::t)=decide (n=m):=by simp[zfT,pk]
def y0 (i:Nat) (m:Int) (t:TS):Int×TS:=if isP [33] t then (m+2 ^ i,t.tail) else (m,t)
def Yt (n i:Nat) (t:TS):PR Unit:=if i<n then zG [93] t else .ok ((),t)
def tyL (n:Nat):Nat→Int→TS→PR Int
 | 0,m,t=>pb (Yt n 0 t) fun _ t=>.ok (y0 0 m t)
 | i+1,m,t=>pb (Yt n (i+1) t) fun _ t=>tyL n i (y0 (i+1) m t).1 (y0 (i+1) m t).2
theorem zfY (n i:Nat) (t:TS):Yt (n+1) (i+1) t=Yt n i t:=by
 unfold Yt
 by_cases h:i<n
 ·rw[if_pos h,if_pos (by omega)]
 ·rw[if_neg h,if_neg (by omega)]
theorem zfz (i:Nat) (m:Int) (t:TS):y0 (i+1) (m*2) t=((y0 i m t).1*2,(y0 i m t).2):=by
 unfold y0
 split
 ·simp only[Al8,and_true];rw[Int.pow_succ];omega
 ·rfl
theorem zg1 (n:Nat):∀(i:Nat) (m:Int) (t:TS),tyL (n+1) (i+1) (m*2) t=pb (tyL n i m t) fun m t=>pb (zG [93] t) fun _ t=>.ok (y0 0 (m*2) t)
 | 0,m,t=>by
  have e:∀(m:Int) (t:TS),tyL (n+1) 0 m t=pb (zG [93] t) fun _ t=>.ok (y0 0 m t):=fun m t=>by rw[tyL,Yt,if_pos (Nat.succ_pos n)]
  have e1:tyL (n+1) (0+1) (m*2) t=pb (Yt n 0 t) fun _ t=>tyL (n+1) 0 (y0 (0+1) (m*2) t).1 (y0 (0+1) (m*2) t).2:=by conv=>lhs;rw[tyL,zfY]
  have e2:tyL n 0 m t=pb (Yt n 0 t) fun _ t=>.ok (y0 0 m t):=by rw[tyL]
  rw[e1,e2]
  rcases Yt n 0 t with x|⟨_,t1⟩
  ·rfl
  ·simp only[zd]
   rw[zfz,e]
   rfl
 | i+1,m,t=>by
  have e1:tyL (n+1) (i+1+1) (m*2) t=pb (Yt n (i+1) t) fun _ t=>tyL (n+1) (i+1) (y0 (i+1+1) (m*2) t).1 (y0 (i+1+1) (m*2) t).2:=by conv=>lhs;rw[tyL,zfY]
  have e2:tyL n (i+1) m t=pb (Yt n (i+1) t) fun _ t=>tyL n i (y0 (i+1) m t).1 (y0 (i+1) m t).2:=by rw[tyL]
  rw[e1,e2]
  rcases Yt n (i+1) t with x|⟨_,t1⟩
  ·rfl
  ·simp only[zd]
   rw[zfz,zg1 n i]
theorem zbB:∀(n k:Nat) (u:TS),n≤k→isP [91] u=false→Zo k (List.replicate n (pk [91])++u)=pb (zv u) fun s t=>pb (tyL n n 0 t) fun m t=>.ok (⟨s,n,m⟩,t)
 | 0,k,u,_,hu=>by
  rw[List.replicate_zero,YN,ZJ,zbs.eq_def,hu]
  simp only[Al7,if_false]
  rcases zv u with x|⟨s,t⟩
  ·rfl
  ·simp only[zd,tyL,Yt,Nat.lt_irrefl,if_false]
   unfold Ys y0
   cases isP [33] t<;>simp[pb]
 | n+1,0,u,h,_=>by omega
 | n+1,k+1,u,h,hu=>by
  rw[List.replicate_succ,Al6,ZJ,zbs.eq_def,zfK,zdS]
  simp only[decide_true,if_true,List.tail_cons]
  rw[zbB n k u (by omega) hu]
  rcases zv u with x|⟨s,t⟩
  ·rfl
  ·simp only[zd]
   have e:=zg1 n n 0 t
   rw[Int.zero_mul] at e
   rw[e]
   rcases tyL n n 0 t with x|⟨m,t1⟩
   ·rfl
   ·simp only[zd]
    rcases zG [93] t1 with x|⟨_,t2⟩
    ·rfl
    ·simp only[zd]
     unfold Ys y0
     cases isP [33] t2<;>simp[pb]
def tyN (n:Nat):Nat→Int→TS→PR Int
 | 0,m,t=>.ok (m,t)
 | i+1,m,t=>tyL n i m t
theorem zho (n i:Nat) (m:Int) (t:TS):tyL n i m t=pb (Yt n i t) fun _ t=>tyN n i (y0 i m t).1 (y0 i m t).2:=by cases i<;>rfl
theorem zbK:∀(k:Nat) (u:TS),isP [91] u=true→Zo k (List.replicate k (pk [91])++u)=.error 4
 | 0,u,hu=>by rw[List.replicate_zero,YN,ZJ,zbs.eq_def,hu];rfl
 | k+1,u,hu=>by
  rw[List.replicate_succ,Al6,ZJ,zbs.eq_def,zfK,zdS]
  simp only[decide_true,if_true,List.tail_cons]
  rw[zbK k u hu];rfl
theorem zhx {m:List UInt8} {t:TS} (h:isP m t=true):t=pk m::t.tail:=by
 have h2:=zS (yS h)
 simp only[isP,Al0,zm] at h
 rw[h2]
 congr 1
 cases hx:hdT t with|mk k s=>rw[hx] at h;simp only at h;rw[h.1,h.2];rfl
theorem zfZ (n:Nat) (x:Tok) (u:TS):List.replicate n x++x::u=List.replicate (n+1) x++u:=by
 rw[List.replicate_succ',yn];rfl
theorem zhO:∀ i:Fin 5,∀ m:Fin 32,m.val % 2 ^ (i.val+1)=0→IntKind.wrap .i64 ((BitVec.ofInt IntKind.i64.bits ((m.val:Nat):Int) ||| BitVec.ofInt IntKind.i64.bits (((2 ^ i.val:Nat)):Int)).toNat:Int)=((m.val+2 ^ i.val:Nat):Int):=by decide +kernel
theorem zh3:∀ i:Fin 5,IntKind.wrap .i64 (1*2 ^ min i.val IntKind.i64.bits)=((2 ^ i.val:Nat):Int):=by decide +kernel
theorem zg4:∀ i:Fin 5,∀ m:Fin 32,m.val % 2 ^ (i.val+1)=0→m.val+2 ^ i.val<32∧(m.val+2 ^ i.val) % 2 ^ i.val=0:=by decide +kernel
abbrev zT:List AV:=[.str [],.int .i64 0,.int .i64 0]
theorem zhc {H:Heap} {r:Nat} {L p t:TS} {dp:Nat} (hs:p++t=L) (hl:wT L≤zq) (hr:H r=some (prc L p dp)) :
  ACalls Tryz.prog 38 [.ptr r 0] H (RpE H r L dp (Zo 4 t) (fun x=>.agg (cTy x))):=by
 refine zU (ACalls.goO (R:=fun v H'=>Yo H r L dp (Zo 4 t) (fun x=>.agg (cTy x)) v.strip H') (RP:=fun v H'=>Yy (Zo 4 t) v H') ir38 ck38 (Al4 _) fun KP Q hQ hP=>?_)
 have hll:L.length≤zq:=Nat.le_trans (zaG L) hl
 have hll2:=hll
 simp only[zq] at hll2
 have pan:∀(v:AV) (H1:Heap) (n:Int),v=zP n→Zo 4 t=.error n→KP v H1:=fun v H1 n h1 h2=>hP v H1 H1 (Low.refl _) ⟨n,h2,h1⟩
 have fin:=KI.done hQ
 have K0:=KI.start hs hr
 simp(disch:=first|omega|assumption) only[ir38,steps,st2,pev,rev,oev,optr,ibin,sbin,ishf,bound,mmAll,mm2,mk,mkArgs,AV.cells,AV.boxable,AV.one,AV.strip1,fillA,fillS,Nat.reduceEqDiff,reduceCtorEq,↓reduceIte,Nat.reduceAdd,Int.reduceNeg,Nat.reduceLeDiff,Int.reduceToNat,Int.reduceEq,Int.reduceLT,Int.reduceLE,Int.reduceAdd,Io,Im,If,Il,Jt,Jf,AC.rg,Jm,Jl,Ja,Fm,Fl,Fa,Imv,Imb,Iai,Iei,Igi,Isi,Ipf,Ipt,Ilb,Iia,Ilt,Iap,Ink,Iln,Ils,Iad,Iex,Ibx,Ing]
 refine goA_intro fun b2 hb2=>?_
 have n2:=K0.ne hb2
 have n2s:=Ne.symm n2
 have K1:=K0.box (x:=.cells zT) hb2
 simp(disch:=first|omega|assumption) only[steps,st2,pev,rev,oev,optr,ibin,sbin,ishf,bound,mmAll,mm2,mk,mkArgs,AV.cells,AV.boxable,AV.one,AV.strip1,fillA,fillS,Nat.reduceEqDiff,reduceCtorEq,↓reduceIte,Nat.reduceAdd,Int.reduceNeg,Nat.reduceLeDiff,Int.reduceToNat,Int.reduceEq,Int.reduceLT,Int.reduceLE,Int.reduceAdd]
 refine goL_st (fun x:Nat×TS=>[(3,.int .i64 (x.1:Int))]) (fun x H'=>KI H r L x.2 dp H'∧H' b2=some (.cells zT)∧x.1≤4∧t=List.replicate x.1 (pk [91])++x.2) (fun x=>x.2.length) (0,t) (by simp(disch:=first|omega|assumption) only[steps,st2,pev,rev,oev,optr,ibin,sbin,ishf,bound,mmAll,mm2,mk,mkArgs,AV.cells,AV.boxable,AV.one,AV.strip1,fillA,fillS,Nat.reduceEqDiff,reduceCtorEq,↓reduceIte,Nat.reduceAdd,Int.reduceNeg,Nat.reduceLeDiff,Int.reduceToNat,Int.reduceEq,Int.reduceLT,Int.reduceLE,Int.reduceAdd]) ⟨K1,upd_same ..,Nat.zero_le _,rfl⟩ ?_
 rintro⟨n,u⟩ H1 J ⟨K2,g2,hn4,htu⟩ hJ
 simp only at K2 g2 hn4 htu
 obtain⟨p2,hp2,hr2⟩:=K2.here
 have hpl2:p2.length+u.length=L.length:=by rw[← hp2];simp
 have hr2':=hr2
 simp only[prc] at hr2'
 simp(disch:=first|omega|assumption) only[steps,st2,pev,rev,oev,optr,ibin,sbin,ishf,bound,mmAll,mm2,mk,mkArgs,AV.cells,AV.boxable,AV.one,AV.strip1,fillA,fillS,Nat.reduceEqDiff,reduceCtorEq,↓reduceIte,Nat.reduceAdd,Int.reduceNeg,Nat.reduceLeDiff,Int.reduceToNat,Int.reduceEq,Int.reduceLT,Int.reduceLE,Int.reduceAdd]
 refine goK_ret (zhe hp2 hr2 [91]) fun v H2 ⟨hv2,hH⟩=>?_
 subst hv2;subst hH
 cases hi:isP [91] u with
 | true =>
  by_cases h4:n=4
  ·have h4':((n:Int)=4)=True:=eq_true (by omega)
   simp(disch:=first|omega|assumption) only[h4',steps,st2,pev,rev,oev,optr,ibin,sbin,ishf,bound,mmAll,mm2,mk,mkArgs,AV.cells,AV.boxable,AV.one,AV.strip1,fillA,fillS,Nat.reduceEqDiff,reduceCtorEq,↓reduceIte,Nat.reduceAdd,Int.reduceNeg,Nat.reduceLeDiff,Int.reduceToNat,Int.reduceEq,Int.reduceLT,Int.reduceLE,Int.reduceAdd]
   exact goK_both (Z3 _ r 4) (fun _ _ h=>h.elim) fun v H3 h=>pan v H3 4 h (by rw[htu,h4];exact zbK 4 u hi)
  ·have h4':¬ ((n:Int)=4):=by omega
   have hlt:=zat hi
   simp(disch:=first|omega|assumption) only[h4',hr2',wrap64,steps,st2,pev,rev,oev,optr,ibin,sbin,ishf,bound,mmAll,mm2,mk,mkArgs,AV.cells,AV.boxable,AV.one,AV.strip1,fillA,fillS,Nat.reduceEqDiff,reduceCtorEq,↓reduceIte,Nat.reduceAdd,Int.reduceNeg,Nat.reduceLeDiff,Int.reduceToNat,Int.reduceEq,Int.reduceLT,Int.reduceLE,Int.reduceAdd]
   refine goJ (hJ (n+1,u.tail) _ hlt ⟨K2.call (Zc hp2 (yS hi) _),by rw[upd_ne n2s];exact g2,by simp only;omega,?_⟩) (by simp(disch:=first|omega|assumption) only[Int.natCast_add,steps,st2,pev,rev,oev,optr,ibin,sbin,ishf,bound,mmAll,mm2,mk,mkArgs,AV.cells,AV.boxable,AV.one,AV.strip1,fillA,fillS,Nat.reduceEqDiff,reduceCtorEq,↓reduceIte,Nat.reduceAdd,Int.reduceNeg,Nat.reduceLeDiff,Int.reduceToNat,Int.reduceEq,Int.reduceLT,Int.reduceLE,Int.reduceAdd])
   simp only
   rw[← zfZ,← zhx hi];exact htu
 | false =>
  have hx:Zo 4 t=pb (zv u) fun s t=>pb (tyL n n 0 t) fun m t=>.ok (⟨s,n,m⟩,t):=by rw[htu];exact zbB n 4 u hn4 hi
  simp(disch:=first|omega|assumption) only[steps,st2,pev,rev,oev,optr,ibin,sbin,ishf,bound,mmAll,mm2,mk,mkArgs,AV.cells,AV.boxable,AV.one,AV.strip1,fillA,fillS,Nat.reduceEqDiff,reduceCtorEq,↓reduceIte,Nat.reduceAdd,Int.reduceNeg,Nat.reduceLeDiff,Int.reduceToNat,Int.reduceEq,Int.reduceLT,Int.reduceLE,Int.reduceAdd]
  refine goK_both (za8 hp2 hll hr2) (fun v H3 ⟨s,t3,e3,hv3,ha3⟩=>?_) fun v H3 ⟨n3,e3,hv3⟩=>pan v H3 n3 hv3 (by rw[hx,e3];rfl)
  subst hv3
  rw[e3,zd] at hx
  have K3:=K2.call ha3
  have g32:H3 b2=some (.cells zT):=by rw[ha3.other n2s,g2]
  simp(disch:=first|omega|assumption) only[steps,st2,pev,rev,oev,optr,ibin,sbin,ishf,bound,mmAll,mm2,mk,mkArgs,AV.cells,AV.boxable,AV.one,AV.strip1,fillA,fillS,Nat.reduceEqDiff,reduceCtorEq,↓reduceIte,Nat.reduceAdd,Int.reduceNeg,Nat.reduceLeDiff,Int.reduceToNat,Int.reduceEq,Int.reduceLT,Int.reduceLE,Int.reduceAdd]
  refine goA_intro fun b4 hb4=>?_
  have h42:b4≠b2:=fun e=>by subst e;rw[g32] at hb4;cases hb4
  have hb4H:H b4=none:=K3.none hb4
  have n4:=K0.ne hb4H
  have n4s:=Ne.symm n4
  have K4:=K3.box (x:=.cells [.str s,.int .i64 (n:Int),.int .i64 0]) hb4H
  obtain⟨R,hR⟩:∃ R,tyL n n 0 t3=R:=⟨_,rfl⟩
  rw[hR] at hx
  simp(disch:=first|omega|assumption) only[steps,st2,pev,rev,oev,optr,ibin,sbin,ishf,bound,mmAll,mm2,mk,mkArgs,AV.cells,AV.boxable,AV.one,AV.strip1,fillA,fillS,Nat.reduceEqDiff,reduceCtorEq,↓reduceIte,Nat.reduceAdd,Int.reduceNeg,Nat.reduceLeDiff,Int.reduceToNat,Int.reduceEq,Int.reduceLT,Int.reduceLE,Int.reduceAdd]
  have hj0:((n:Int):Int)=(((n+1:Nat):Int)-1):=by omega
  refine goL_st (fun x:Nat×Nat×TS=>[(5,.int .i64 ((x.1:Int)-1))]) (fun x H'=>KI H r L x.2.2 dp H'∧H' b2=some (.cells zT)∧H' b4=some (.cells [.str s,.int .i64 (n:Int),.int .i64 (x.2.1:Int)])∧x.1≤n+1∧x.2.1<32∧x.2.1 % 2 ^ x.1=0∧tyN n x.1 (x.2.1:Int) x.2.2=R) (fun x=>x.1) (n+1,0,t3) (by rw[← hj0];simp(disch:=first|omega|assumption) only[steps,st2,pev,rev,oev,optr,ibin,sbin,ishf,bound,mmAll,mm2,mk,mkArgs,AV.cells,AV.boxable,AV.one,AV.strip1,fillA,fillS,Nat.reduceEqDiff,reduceCtorEq,↓reduceIte,Nat.reduceAdd,Int.reduceNeg,Nat.reduceLeDiff,Int.reduceToNat,Int.reduceEq,Int.reduceLT,Int.reduceLE,Int.reduceAdd]) ⟨K4,by rw[upd_ne (Ne.symm h42)];exact g32,upd_same ..,Al4 _,by show 0<32;decide,Nat.zero_mod _,hR⟩ ?_
  rintro⟨j,m,u5⟩ H5 J5 ⟨K5,g52,g54,hj,hm,hmd,he⟩ hJ5
  simp only at K5 g52 g54 hj hm hmd he
  obtain⟨p5,hp5,hr5⟩:=K5.here
  cases j with
  | zero =>
   have hneg:¬ ((0:Int)≤-1):=by decide
   have hz1:(0:Int)-1=-1:=rfl
   have e1:R=.ok ((m:Int),u5):=he.symm
   simp only[zT] at g52
   simp(disch:=first|omega|assumption) only[hz1,hneg,g52,g54,h42,Ne.symm h42,steps,st2,pev,rev,oev,optr,ibin,sbin,ishf,bound,mmAll,mm2,mk,mkArgs,AV.cells,AV.boxable,AV.one,AV.strip1,fillA,fillS,Nat.reduceEqDiff,reduceCtorEq,↓reduceIte,Nat.reduceAdd,Int.reduceNeg,Nat.reduceLeDiff,Int.reduceToNat,Int.reduceEq,Int.reduceLT,Int.reduceLE,Int.reduceAdd]
   exact fin _ _ [.agg [.str s,.int .i64 (n:Int),.int .i64 (m:Int)]] ⟨s,n,m⟩ u5 (by simp(disch:=first|omega|assumption) only[ir38,resvs,resv,steps,st2,pev,rev,oev,optr,ibin,sbin,ishf,bound,mmAll,mm2,mk,mkArgs,AV.cells,AV.boxable,AV.one,AV.strip1,fillA,fillS,Nat.reduceEqDiff,reduceCtorEq,↓reduceIte,Nat.reduceAdd,Int.reduceNeg,Nat.reduceLeDiff,Int.reduceToNat,Int.reduceEq,Int.reduceLT,Int.reduceLE,Int.reduceAdd,Io,Im,If,Il,Jt,Jf,AC.rg,Jm,Jl,Ja,Fm,Fl,Fa,Imv,Imb,Iai,Iei,Igi,Isi,Ipf,Ipt,Ilb,Iia,Ilt,Iap,Ink,Iln,Ils,Iad,Iex,Ibx,Ing]) (by rw[hx,e1];rfl) (K5.box hb2) (by simp[tupOf,AV.strip,AV.strip1,cTy])
  | succ i =>
   have hge:((0:Int)≤(((i+1:Nat):Int)-1))=True:=eq_true (by omega)
   have hi5:(((i+1:Nat):Int)-1)=(i:Int):=by omega
   have e1:tyL n i (m:Int) u5=R:=he
   rw[zho,Yt] at e1
   by_cases hin:i<n
   ·have hin':((i:Int)<(n:Int))=True:=eq_true (by omega)
    rw[if_pos hin] at e1
    simp(disch:=first|omega|assumption) only[hge,hi5,hin',steps,st2,pev,rev,oev,optr,ibin,sbin,ishf,bound,mmAll,mm2,mk,mkArgs,AV.cells,AV.boxable,AV.one,AV.strip1,fillA,fillS,Nat.reduceEqDiff,reduceCtorEq,↓reduceIte,Nat.reduceAdd,Int.reduceNeg,Nat.reduceLeDiff,Int.reduceToNat,Int.reduceEq,Int.reduceLT,Int.reduceLE,Int.reduceAdd]
    refine goK_both (zcq hp5 hll hr5 [93]) (fun v H6 ⟨_,t6,e6,hv6,ha6⟩=>?_) fun v H6 ⟨n6,e6,hv6⟩=>pan v H6 n6 hv6 (by rw[hx,← e1,e6];rfl)
    subst hv6
    rw[e6,zd] at e1
    have K6:=K5.call ha6
    have g62:H6 b2=some (.cells zT):=by rw[ha6.other n2s,g52]
    have g64:H6 b4=some (.cells [.str s,.int .i64 (n:Int),.int .i64 (m:Int)]):=by rw[ha6.other n4s,g54]
    obtain⟨p6,hp6,hr6⟩:=K6.here
    simp(disch:=first|omega|assumption) only[steps,st2,pev,rev,oev,optr,ibin,sbin,ishf,bound,mmAll,mm2,mk,mkArgs,AV.cells,AV.boxable,AV.one,AV.strip1,fillA,fillS,Nat.reduceEqDiff,reduceCtorEq,↓reduceIte,Nat.reduceAdd,Int.reduceNeg,Nat.reduceLeDiff,Int.reduceToNat,Int.reduceEq,Int.reduceLT,Int.reduceLE,Int.reduceAdd]
    refine goK_ret (Yq hp6 hll hr6 [33]) fun v H7 ⟨hv7,ha7⟩=>?_
    subst hv7
    have g72:H7 b2=some (.cells zT):=by rw[ha7.other n2s,g62]
    have g74:H7 b4=some (.cells [.str s,.int .i64 (n:Int),.int .i64 (m:Int)]):=by rw[ha7.other n4s,g64]
    have K7:=K6.call ha7
    cases hb:isP [33] t6 with
    | true =>
     simp only[y0,hb,if_true] at e1
     rw[yp,hb,if_pos rfl] at K7
     have ho:=zhO ⟨i,by omega⟩ ⟨m,hm⟩ hmd
     have hob:=zg4 ⟨i,by omega⟩ ⟨m,hm⟩ hmd
     have hsh:=zh3 ⟨i,by omega⟩
     simp only at ho hob hsh
     have hi0:¬ ((i:Int)<0):=by omega
     simp(disch:=first|omega|assumption) only[g74,hi0,hsh,ho,steps,st2,pev,rev,oev,optr,ibin,sbin,ishf,bound,mmAll,mm2,mk,mkArgs,AV.cells,AV.boxable,AV.one,AV.strip1,fillA,fillS,Nat.reduceEqDiff,reduceCtorEq,↓reduceIte,Nat.reduceAdd,Int.reduceNeg,Nat.reduceLeDiff,Int.reduceToNat,Int.reduceEq,Int.reduceLT,Int.reduceLE,Int.reduceAdd]
     refine goJ (hJ5 (i,m+2 ^ i,t6.tail) _ (Nat.lt_succ_self _) ⟨K7.box hb4H,by rw[upd_ne (Ne.symm h42)];exact g72,upd_same ..,by simp only;omega,hob.1,hob.2,by simp only;rw[← e1];simp⟩) (by simp(disch:=first|omega|assumption) only[wrap64,steps,st2,pev,rev,oev,optr,ibin,sbin,ishf,bound,mmAll,mm2,mk,mkArgs,AV.cells,AV.boxable,AV.one,AV.strip1,fillA,fillS,Nat.reduceEqDiff,reduceCtorEq,↓reduceIte,Nat.reduceAdd,Int.reduceNeg,Nat.reduceLeDiff,Int.reduceToNat,Int.reduceEq,Int.reduceLT,Int.reduceLE,Int.reduceAdd])
    | false =>
     simp only[y0,hb,Al7,if_false] at e1
     rw[yp,hb] at K7
     simp only[Al7,if_false] at K7
     have hmd2:m % 2 ^ i=0:=by
      have h3:2 ^ i∣2 ^ (i+1):=⟨2,by rw[Nat.pow_succ]⟩
      exact Nat.mod_eq_zero_of_dvd (Nat.dvd_trans h3 (Nat.dvd_of_mod_eq_zero hmd))
     simp(disch:=first|omega|assumption) only[steps,st2,pev,rev,oev,optr,ibin,sbin,ishf,bound,mmAll,mm2,mk,mkArgs,AV.cells,AV.boxable,AV.one,AV.strip1,fillA,fillS,Nat.reduceEqDiff,reduceCtorEq,↓reduceIte,Nat.reduceAdd,Int.reduceNeg,Nat.reduceLeDiff,Int.reduceToNat,Int.reduceEq,Int.reduceLT,Int.reduceLE,Int.reduceAdd]
     refine goJ (hJ5 (i,m,t6) _ (Nat.lt_succ_self _) ⟨K7,g72,g74,by simp only;omega,hm,hmd2,e1⟩) (by simp(disch:=first|omega|assumption) only[wrap64,steps,st2,pev,rev,oev,optr,ibin,sbin,ishf,bound,mmAll,mm2,mk,mkArgs,AV.cells,AV.boxable,AV.one,AV.strip1,fillA,fillS,Nat.reduceEqDiff,reduceCtorEq,↓reduceIte,Nat.reduceAdd,Int.reduceNeg,Nat.reduceLeDiff,Int.reduceToNat,Int.reduceEq,Int.reduceLT,Int.reduceLE,Int.reduceAdd])
   ·have hin':¬ ((i:Int)<(n:Int)):=by omega
    rw[if_neg hin,zd] at e1
    simp(disch:=first|omega|assumption) only[hge,hi5,hin',steps,st2,pev,rev,oev,optr,ibin,sbin,ishf,bound,mmAll,mm2,mk,mkArgs,AV.cells,AV.boxable,AV.one,AV.strip1,fillA,fillS,Nat.reduceEqDiff,reduceCtorEq,↓reduceIte,Nat.reduceAdd,Int.reduceNeg,Nat.reduceLeDiff,Int.reduceToNat,Int.reduceEq,Int.reduceLT,Int.reduceLE,Int.reduceAdd]
    refine goK_ret (Yq hp5 hll hr5 [33]) fun v H7 ⟨hv7,ha7⟩=>?_
    subst hv7
    have g72:H7 b2=some (.cells zT):=by rw[ha7.other n2s,g52]
    have g74:H7 b4=some (.cells [.str s,.int .i64 (n:Int),.int .i64 (m:Int)]):=by rw[ha7.other n4s,g54]
    have K7:=K5.call ha7
    cases hb:isP [33] u5 with
    | true =>
     simp only[y0,hb,if_true] at e1
     rw[yp,hb,if_pos rfl] at K7
     have ho:=zhO ⟨i,by omega⟩ ⟨m,hm⟩ hmd
     have hob:=zg4 ⟨i,by omega⟩ ⟨m,hm⟩ hmd
     have hsh:=zh3 ⟨i,by omega⟩
     simp only at ho hob hsh
     have hi0:¬ ((i:Int)<0):=by omega
     simp(disch:=first|omega|assumption) only[g74,hi0,hsh,ho,steps,st2,pev,rev,oev,optr,ibin,sbin,ishf,bound,mmAll,mm2,mk,mkArgs,AV.cells,AV.boxable,AV.one,AV.strip1,fillA,fillS,Nat.reduceEqDiff,reduceCtorEq,↓reduceIte,Nat.reduceAdd,Int.reduceNeg,Nat.reduceLeDiff,Int.reduceToNat,Int.reduceEq,Int.reduceLT,Int.reduceLE,Int.reduceAdd]
     refine goJ (hJ5 (i,m+2 ^ i,u5.tail) _ (Nat.lt_succ_self _) ⟨K7.box hb4H,by rw[upd_ne (Ne.symm h42)];exact g72,upd_same ..,by simp only;omega,hob.1,hob.2,by simp only;rw[← e1];simp⟩) (by simp(disch:=first|omega|assumption) only[wrap64,steps,st2,pev,rev,oev,optr,ibin,sbin,ishf,bound,mmAll,mm2,mk,mkArgs,AV.cells,AV.boxable,AV.one,AV.strip1,fillA,fillS,Nat.reduceEqDiff,reduceCtorEq,↓reduceIte,Nat.reduceAdd,Int.reduceNeg,Nat.reduceLeDiff,Int.reduceToNat,Int.reduceEq,Int.reduceLT,Int.reduceLE,Int.reduceAdd])
    | false =>
     simp only[y0,hb,Al7,if_false] at e1
     rw[yp,hb] at K7
     simp only[Al7,if_false] at K7
     have hmd2:m % 2 ^ i=0:=by
      have h3:2 ^ i∣2 ^ (i+1):=⟨2,by rw[Nat.pow_succ]⟩
      exact Nat.mod_eq_zero_of_dvd (Nat.dvd_trans h3 (Nat.dvd_of_mod_eq_zero hmd))
     simp(disch:=first|omega|assumption) only[steps,st2,pev,rev,oev,optr,ibin,sbin,ishf,bound,mmAll,mm2,mk,mkArgs,AV.cells,AV.boxable,AV.one,AV.strip1,fillA,fillS,Nat.reduceEqDiff,reduceCtorEq,↓reduceIte,Nat.reduceAdd,Int.reduceNeg,Nat.reduceLeDiff,Int.reduceToNat,Int.reduceEq,Int.reduceLT,Int.reduceLE,Int.reduceAdd]
     refine goJ (hJ5 (i,m,u5) _ (Nat.lt_succ_self _) ⟨K7,g72,g74,by simp only;omega,hm,hmd2,e1⟩) (by simp(disch:=first|omega|assumption) only[wrap64,steps,st2,pev,rev,oev,optr,ibin,sbin,ishf,bound,mmAll,mm2,mk,mkArgs,AV.cells,AV.boxable,AV.one,AV.strip1,fillA,fillS,Nat.reduceEqDiff,reduceCtorEq,↓reduceIte,Nat.reduceAdd,Int.reduceNeg,Nat.reduceLeDiff,Int.reduceToNat,Int.reduceEq,Int.reduceLT,Int.reduceLE,Int.reduceAdd])
abbrev ZF (H:Heap) (r:Nat) (L t:TS) (dp:Nat):Prop:=∃ p,p++t=L∧H r=some (prc L p dp)
section
variable {H:Heap} {r:Nat} {L t:TS} {dp:Nat}
theorem Z2 (hl:wT L≤zq):L.length≤zq:=Nat.le_trans (zaG L) hl
theorem zhs (h:ZF H r L t dp) (m:List UInt8):ACalls Tryz.prog 158 [.ptr r 0,.str m] H (fun e H'=>∃ v,e=.ret v∧(v=.bool (isW m t)∧H'=H)) :=
 let ⟨_,hp,hr⟩:=h;zhR hp hr m
theorem zcA (h:ZF H r L t dp) (hl:wT L≤zq) (m:List UInt8):ACalls Tryz.prog 98 [.ptr r 0,.str m] H (fun e H'=>∃ v,e=.ret v∧(v=.bool (isP m t)∧Pat H r L (yp m t) dp H')) :=
 let ⟨_,hp,hr⟩:=h;Yq hp (Z2 hl) hr m
theorem y5 (h:ZF H r L t dp) (hl:wT L≤zq) (m:List UInt8):ACalls Tryz.prog 100 [.ptr r 0,.str m] H (fun e H'=>∃ v,e=.ret v∧(v=.bool (isW m t)∧Pat H r L (zy m t) dp H')) :=
 let ⟨_,hp,hr⟩:=h;zhE hp (Z2 hl) hr m
theorem Zu (h:ZF H r L t dp) (hl:wT L≤zq) (m:List UInt8):ACalls Tryz.prog 84 [.ptr r 0,.str m] H (RpE H r L dp (zG m t) fun _=>.tup []) :=
 let ⟨_,hp,hr⟩:=h;zcq hp (Z2 hl) hr m
theorem ZT (h:ZF H r L t dp) (hl:wT L≤zq):ACalls Tryz.prog 85 [.ptr r 0] H (RpE H r L dp (zv t) AV.str) :=
 let ⟨_,hp,hr⟩:=h;za8 hp (Z2 hl) hr
theorem zfi (h:ZF H r L t dp) (hl:wT L≤zq):ACalls Tryz.prog 38 [.ptr r 0] H (RpE H r L dp (Zo 4 t) (fun x=>.agg (cTy x))) :=
 let ⟨_,hp,hr⟩:=h;zhc hp hl hr
theorem zhC (h:ZF H r L t (16-16)) (hl:wT L≤zq):ACalls Tryz.prog 33 [.ptr r 0,.bool true] H (RpE H r L (16-16) (zX true 16 t) fun v=>.agg (cV v)) :=
 let ⟨p,hp,hr⟩:=h;zaa true 16 (Al4 _) _ r L p t hp hl hr
theorem zg5 (h:ZF H r L t (16-16)) (hl:wT L≤zq):ACalls Tryz.prog 196 [.ptr r 0,.bool true] H (RpE H r L (16-16) (Z0 true 16 t) (fun l=>.sl .no 2 (cDs l))) :=
 let ⟨_,hp,hr⟩:=h;zg8 (Al4 _) hp hl hr
end
theorem zcJ (a b c d e f g h i j:AV) (v:Val):splice [a,b,c,d,e,f,g,h,i,j] 5 (cV v)=a::b::c::d::e::cV v:=by cases v;rfl
theorem zhz (a b c d e:AV) (v:Val):(a::b::c::d::e::cV v).take 10=a::b::c::d::e::cV v:=by cases v;rfl
theorem zdR (a b c d e:AV) (v:Val):(a::b::c::d::e::cV v).length=10:=by cases v;rfl
theorem zbt (a b c d e f g h i j a' b' c' d' e':AV) (v:Val):splice [a,b,c,d,e,f,g,h,i,j] 0 (a'::b'::c'::d'::e'::cV v)=a'::b'::c'::d'::e'::cV v:=by cases v;rfl
abbrev zW:List AV:=[.str [],.str [],.int .i64 0,.int .i64 0,.bool false,.int .i64 0,.int .i64 0,.str [],.sl .nil 5 [],.sl .nil 6 []]
structure FldD where
 nm:List UInt8
 ps:List VarD
 t:TyD
 dirs:List DirD
structure DefD where
 k:Int
 nm:List UInt8
 faces:List (List UInt8)
 flds:List FldD
 parts:List (List UInt8)
 ps:List VarD
structure SchD where
 defs:List DefD
 q:List UInt8
 m:List UInt8
def cL (x:FldD):List AV:=[.str x.nm,.sl .no 10 (cWs x.ps),.str x.t.nm,.int .i64 x.t.lists,.int .i64 x.t.musts,.sl .no 2 (cDs x.dirs)]
def cLs (l:List FldD):List (List AV):=l.map cL
def cE (x:DefD):List AV:=[.int .i64 x.k,.str x.nm,.sl .no 1 (cT x.faces),.sl .no 6 (cLs x.flds),.sl .no 1 (cT x.parts),.sl .no 10 (cWs x.ps)]
def cEs (l:List DefD):List (List AV):=l.map cE
def zcT (s:SchD):List AV:=[.sl .no 6 (cEs s.defs),.str s.q,.str s.m]
theorem zcn (l:List FldD):(cLs l).length=l.length:=by simp[cLs]
theorem YK (l:List DefD):(cEs l).length=l.length:=by simp[cEs]
theorem zgp {l a:List FldD} {x:FldD} {b:List FldD} (h:l=a++x::b):(cLs l).getD a.length []=cL x:=getD_mid' h
theorem zgz {l a:List DefD} {x:DefD} {b:List DefD} (h:l=a++x::b):(cEs l).getD a.length []=cE x:=getD_mid' h
theorem ZY (x:FldD):(cL x).map AV.strip1=cL x:=rfl
theorem yo (x:DefD):(cE x).map AV.strip1=cE x:=rfl
theorem zbS (l:List FldD):(cLs l).map (·.map AV.strip1)=cLs l:=by rw[cLs,List.map_map];exact List.map_congr_left fun v _=>ZY v
theorem zh0 (nm:List UInt8) (ps:List VarD) (tn:List UInt8) (tl tm:Int) (dirs:List DirD):cL ⟨nm,ps,⟨tn,tl,tm⟩,dirs⟩=[.str nm,.sl .no 10 (cWs ps),.str tn,.int .i64 tl,.int .i64 tm,.sl .no 2 (cDs dirs)]:=rfl
theorem zg0 (k:Int) (nm:List UInt8) (faces:List (List UInt8)) (flds:List FldD) (parts:List (List UInt8)) (ps:List VarD):cE ⟨k,nm,faces,flds,parts,ps⟩=[.int .i64 k,.str nm,.sl .no 1 (cT faces),.sl .no 6 (cLs flds),.sl .no 1 (cT parts),.sl .no 10 (cWs ps)]:=rfl
def bT (l:List (List UInt8)):Nat:=(l.map fun s=>1+s.length).sum
def bL (x:FldD):Nat:=1+x.nm.length+bWs x.ps+x.t.nm.length+bDs x.dirs
def bLs (l:List FldD):Nat:=(l.map bL).sum
def bE (x:DefD):Nat:=1+x.nm.length+bT x.faces+bLs x.flds+bT x.parts+bWs x.ps
def bEs (l:List DefD):Nat:=(l.map bE).sum
def zeU (s:SchD):Nat:=bEs s.defs+s.q.length+s.m.length
theorem zfy (l:List (List UInt8)):l.length≤bT l:=Ya (fun x=>by omega) l
theorem zgo (l:List FldD):l.length≤bLs l:=Ya (fun x=>by simp only[bL];omega) l
theorem zdY (l:List DefD):l.length≤bEs l:=Ya (fun x=>by simp only[bE];omega) l
theorem zgI (a:List FldD) (x:FldD) (b:List FldD):bLs (a++x::b)=bLs a+bL x+bLs b:=zax ..
theorem zdW (a:List DefD) (x:DefD) (b:List DefD):bEs (a++x::b)=bEs a+bE x+bEs b:=zax ..
def wfL (x:FldD):Prop:=(∀ y∈x.ps,wfW y)∧inR x.t.lists∧inR x.t.musts∧zhF x.dirs
def wfE (x:DefD):Prop:=(∀ y∈x.flds,wfL y)∧∀ y∈x.ps,wfW y
def zhQ (s:SchD):Prop:=∀ x∈s.defs,wfE x
def zg (t:TS):TS:=if (hdT t).k=5 then t.tail else t
def z6 (t:TS):PR VarD:=pb (zv (zg t)) fun s t=>pb (zG [58] t) fun _ t=>pb (Zo 4 t) fun ty t =>
 if isP [61] t then pb (zX true 16 t.tail) fun v t=>.ok (⟨s,ty,true,v⟩,t) else .ok (⟨s,ty,false,zV⟩,t)
def yw (t:TS):PR FldD:=pb (zv (zg t)) fun s t=>pb (if isP [40] t then ya [41] z6 t.tail else .ok ([],t)) fun ps t=>pb (zG [58] t) fun _ t=>pb (Zo 4 t) fun ty t =>
 pb (Z0 true 16 t) fun d t=>.ok (⟨s,ps,ty,d⟩,t)
def yu (m:List UInt8) (t:TS):PR (List (List UInt8)):=pb (zv (if isP m t then t.tail else t)) fun s t=>zH m zv (t.length+1) [s] t
def yP (t:TS):PR (List UInt8):=if isW [116,114,117,101] (zg t)∨isW [102,97,108,115,101] (zg t)∨isW [110,117,108,108] (zg t) then .error 2 else zv (zg t)
def Ym (k:Int) (t:TS):PR DefD:=pb (zv t) fun s t=>pb (if isW [105,109,112,108,101,109,101,110,116,115] t then yu [38] t.tail else .ok ([],t)) fun fs t=>pb (zG [123] t) fun _ t=>pb (ya [125] yw t) fun l t=>.ok (⟨k,s,fs,l,[],[]⟩,t)
def ZP (t:TS):PR DefD:=pb (zv t) fun s t=>pb (zG [123] t) fun _ t=>pb (ya [125] yP t) fun l t=>.ok (⟨4,s,[],[],l,[]⟩,t)
def yK (t:TS):PR DefD:=pb (zv t) fun s t=>pb (zG [61] t) fun _ t=>pb (yu [124] t) fun l t=>.ok (⟨3,s,[],[],l,[]⟩,t)
def yU (t:TS):PR DefD:=pb (zv t) fun s t=>pb (zG [123] t) fun _ t=>pb (ya [125] z6 t) fun l t=>.ok (⟨5,s,[],[],[],l⟩,t)
structure SR where
 defs:List DefD
 q:List UInt8
 m:List UInt8
 told:Bool
def ZQ (d:SR) (t:TS):PR SR:=pb (zG [123] t) fun _ t=>pb (if isW [113,117,101,114,121] t then .ok ((),t.tail) else .error 2) fun _ t=>pb (zG [58] t) fun _ t=>pb (zv t) fun q t =>
 pb (if isW [109,117,116,97,116,105,111,110] t then pb (zG [58] t.tail) fun _ t=>zv t else .ok ([],t)) fun m t=>pb (zG [125] t) fun _ t=>.ok (⟨d.defs,q,m,true⟩,t)
def yj (d:SR) (x:DefD):SR:=⟨d.defs++[x],d.q,d.m,d.told⟩
def yD (d:SR) (t:TS):PR SR :=
 if d.told=false∧isW [115,99,104,101,109,97] t then ZQ d t.tail
 else if isW [116,121,112,101] t then pb (Ym 1 t.tail) fun x t=>.ok (yj d x,t)
 else if isW [105,110,116,101,114,102,97,99,101] t then pb (Ym 2 t.tail) fun x t=>.ok (yj d x,t)
 else if isW [117,110,105,111,110] t then pb (yK t.tail) fun x t=>.ok (yj d x,t)
 else if isW [101,110,117,109] t then pb (ZP t.tail) fun x t=>.ok (yj d x,t)
 else if isW [105,110,112,117,116] t then pb (yU t.tail) fun x t=>.ok (yj d x,t)
 else .error 2
def zn (d:SR) (t:TS):PR SR:=yD d (zg t)
def zI:Nat→SR→TS→PR SR
 | 0,_,_=>.error 0
 | n+1,d,t=>if t=[] then .ok (d,t) else pb (zn d t) fun d t=>zI n d t
def sr0:SR:=⟨[],[],[],false⟩
def ZU (t:TS):PR SR:=pb (zn sr0 t) fun d t=>zI (t.length+1) d t
def YE (d:SR):SchD:=if d.told then ⟨d.defs,d.q,d.m⟩ else ⟨d.defs,[81,117,101,114,121],if d.defs.any fun x=>decide (x.nm=[77,117,116,97,116,105,111,110]) then [77,117,116,97,116,105,111,110] else []⟩
def zc6 (may:UInt8→Bool) (t:List UInt8):AV:=match Zp may t with
 | some (b,t')=>.tup [.str b,.int .i64 ((t.length+1-t'.length:Nat):Int)]
 | none=>.tup [.str [],.int .i64 0]
theorem zgU (f : FuncId) (hf : Program.callable Tryz.prog f = true) (may : UInt8 → Bool) (hmay : ∀ c : UInt8, Pure Tryz.prog f [.int .u8 c.toNat] (.bool (may c))) (a : UInt8) (t : List UInt8) (hl : t.length + 1 ≤ yX) :
    Pure Tryz.prog 120 [.str (a :: t), .clo f [] []] (zc6 may t) := by
  refine Pure.go ir120 ck120 (Al4 _) fun KP Q hQ => ?_
  simp only [yX] at hl
  simp (disch := first | omega | assumption) only [ir120, go_sem]
  refine goA_intro fun q hq => ?_
  simp (disch := first | omega | assumption) only [go_sem]
  obtain ⟨R, hR⟩ : ∃ R, YR may (t.length + 1) t ⟨[], [], true⟩ = R := ⟨_, rfl⟩
  have fail : R = none → zc6 may t = .tup [.str [], .int .i64 0] := fun e => by unfold zc6 Zp; rw [hR, e]
  refine goL_st (fun s : List UInt8 × Sd × Own × Own => [(7, .int .i64 ((t.length + 1 - s.1.length : Nat) : Int))])
    (fun s H => s.1 <:+ t ∧ (∃ n, s.1.length < n ∧ YR may n s.1 s.2.1 = R) ∧ s.2.1.w + s.1.length ≤ t.length ∧ SaidAt H q s.2.1 s.2.2.1 s.2.2.2) (fun s => s.1.length) (t, ⟨[], [], true⟩, .nil, .nil)
    (by have : (t.length + 1 - t.length : Nat) = 1 := by omega
        simp (disch := first | omega | assumption) only [this, go_sem]) ⟨List.suffix_refl _, ⟨t.length + 1, by simp, hR⟩, by simp [Sd.w], upd_same .., rfl, rfl, nofun⟩ ?_
  rintro ⟨rest, x, o, o2⟩ H J ⟨hsuf, ⟨n, hn, hg⟩, hw, hs⟩ hJ
  simp only at hsuf hn hg hw hs
  have hrl := hsuf.length_le
  obtain ⟨n, rfl⟩ : ∃ k, n = k + 1 := ⟨n - 1, by omega⟩
  cases rest with
  | nil =>
    have e0 : R = none := by rw [← hg]; rfl
    have h0 : t.length + 1 - 0 = t.length + 1 := rfl
    have h1 : (((t.length + 1 : Nat) : Int) ≤ ((t.length + 1 : Nat) : Int)) = True := eq_true (Int.le_refl _)
    simp (disch := first | omega | assumption) only [h0, h1, go_sem]
    exact hQ _ _ _ _ nofun rfl (by simp [tupOf, envOf, AV.strip, AV.strip1, fail e0])
  | cons c r =>
    obtain ⟨p, hp⟩ := hsuf
    have hpl : t.length = p.length + (r.length + 1) := by rw [← hp]; simp
    have h0 : t.length + 1 - (r.length + 1) = p.length + 1 := by omega
    have h1 : ¬ (((t.length + 1 : Nat) : Int) ≤ ((p.length + 1 : Nat) : Int)) := by omega
    have h2 : (((p.length + 1 : Nat) : Int) < ((t.length + 1 : Nat) : Int)) = True := eq_true (by omega)
    have hi : (a :: t).getD (p.length + 1) 0 = c := by rw [← hp]; simp
    have hi1 : (((p.length + 1 : Nat) : Int) + 1) = ((p.length + 1 + 1 : Nat) : Int) := by omega
    have hsr : r <:+ t := ⟨p ++ [c], by rw [← hp]; simp⟩
    simp only [YR] at hg
    simp only [Al2] at hw hn
    have hx : x.w ≤ yX := by simp only [yX]; omega
    by_cases c1 : c = 34
    · subst c1
      simp only [if_true] at hg
      have hc : (((34 : UInt8).toNat : Int) = 34) = True := eq_true rfl
      simp (disch := first | omega | assumption) only [h0, h1, h2, hi, hc, go_sem]
      refine goK_ret (zdf hs hx) fun v H1 ⟨hv, o', hs1⟩ => ?_
      subst hv
      have hq := hs1.hq
      cases hok : (yx x).ok
      · rw [hok] at hq
        have e0 : Zp may t = none := by unfold Zp; rw [hR, ← hg]; simp [hok]
        simp (disch := first | omega | assumption) only [hq, go_sem]
        exact hQ _ _ _ _ nofun rfl (by simp [tupOf, envOf, AV.strip, AV.strip1, zc6, e0])
      · rw [hok] at hq
        have e0 : Zp may t = some ((yx x).b, r) := by unfold Zp; rw [hR, ← hg]; simp [hok]
        simp (disch := first | omega | assumption) only [hq, zcw, wrap64, go_sem]
        have e1 : (p.length : Int) + 1 + 1 = ((t.length + 1 - r.length : Nat) : Int) := by omega
        exact hQ _ _ _ _ nofun rfl (by simp [tupOf, envOf, AV.strip, AV.strip1, zc6, e0, e1])
    have c1' : ¬ ((c.toNat : Int) = 34) := fun e => c1 (by apply UInt8.toNat_inj.1; show c.toNat = 34; omega)
    rw [if_neg c1] at hg
    by_cases c2 : c = 92
    · subst c2
      simp only [if_true] at hg
      have hc : ¬ (((92 : UInt8).toNat : Int) = 34) := by decide
      have hc2 : (((92 : UInt8).toNat : Int) = 92) = True := eq_true rfl
      have h3 : (((p.length + 1 : Nat) : Int) + 1 ≤ ((t.length + 1 : Nat) : Int)) = True := eq_true (by omega)
      have h4 : (((p.length + 1 : Nat) : Int) + 1).toNat = p.length + 2 := by omega
      have hdr : (a :: t).drop (p.length + 2) = r := by rw [← hp]; simp
      simp (disch := first | omega | assumption) only [h0, h1, h2, hi, hc, hc2, wrap64, h3, h4, hdr, go_sem]
      refine goK_ret (zih hs hx r (by simp only [Lim]; omega)) fun v H1 he => ?_
      unfold zdF at he
      cases hm : ZR x r with
      | none =>
        rw [hm] at he hg
        subst he
        simp (disch := first | omega | assumption) only [go_sem]
        exact hQ _ _ _ _ nofun rfl (by simp [tupOf, envOf, AV.strip, AV.strip1, fail hg.symm])
      | some y =>
        obtain ⟨x', t'⟩ := y
        rw [hm] at he hg
        obtain ⟨hv, o3, o4, hs3⟩ := he
        subst hv
        have h5 := zc1 hm
        have h6 := zgi hm
        have h7 : ¬ (((r.length - t'.length : Nat) : Int) = 0) := by omega
        have h8 : ((p.length + 1 : Nat) : Int) + (1 + ((r.length - t'.length : Nat) : Int)) = ((t.length + 1 - t'.length : Nat) : Int) := by omega
        simp (disch := first | omega | assumption) only [h7, wrap64, h8, go_sem]
        exact goJ (hJ (t', x', o3, o4) _ (by simp; omega) ⟨h5.1.trans hsr, ⟨n, by show t'.length < n; omega, hg⟩, by show x'.w + t'.length ≤ t.length; omega, hs3⟩) (by simp (disch := first | omega | assumption) only [go_sem])
    have c2' : ¬ ((c.toNat : Int) = 92) := fun e => c2 (by apply UInt8.toNat_inj.1; show c.toNat = 92; omega)
    rw [if_neg c2] at hg
    simp (disch := first | omega | assumption) only [h0, h1, h2, hi, c1', c2', hf, go_sem]
    refine goK_pure (hmay c) ?_
    cases hm : may c
    · rw [hm] at hg
      simp (disch := first | omega | assumption) only [go_sem]
      exact hQ _ _ _ _ nofun rfl (by simp [tupOf, envOf, AV.strip, AV.strip1, fail hg.symm])
    · rw [hm] at hg
      simp only [if_true] at hg
      simp (disch := first | omega | assumption) only [go_sem]
      refine goK_ret (zdf hs hx) fun v H1 ⟨hv, o', hs1⟩ => ?_
      subst hv
      obtain ⟨hq1, ho1, _, _⟩ := hs1
      have hfw := YM x
      have hpw := ze9 x c
      have hbl := zt (yx x).b
      simp (disch := first | omega | assumption) only [hq1, h2, hi, go_sem]
      refine goP_ownS (by rw [hbl]; exact ho1) (by simp [hbl]; omega) (by simp [maxLen, hbl]; omega) fun o3 H2 hs3 => ?_
      have hq2 := zA ho1 hq1 hs3.kept
      simp (disch := first | omega | assumption) only [hq2, wrap64, go_sem]
      have h8 : ((p.length + 1 : Nat) : Int) + 1 = ((t.length + 1 - r.length : Nat) : Int) := by omega
      refine goJ (hJ (r, x.put c, o3, .nil) _ (by simp) ⟨hsr, ⟨n, by show r.length < n; omega, hg⟩, by show (x.put c).w + r.length ≤ t.length; omega, ?_, ?_, rfl, nofun⟩) (by simp (disch := first | omega | assumption) only [h8, go_sem])
      · simp only [upd_same, Sd.put]
        rw [← zR]; rfl
      · simp only [Sd.put, Al5, Al2, Al3]
        exact yr (by simpa [hbl] using hs3.own) hq2
open Go.Lib
end Go.Proofs.YtaielcdfcgpbiaaGreatDoor
namespace Go.Proofs.YtaielcdfcgpbiaaGreatDoor
open Go.Ab
def zl (l:List UInt8):Nat×Nat:=if l=[] then (0,0) else if Lib.decodeL l=(65533,1) then (0,0) else Lib.decodeL l
def cv (v0:Nat) (b:Nat→Nat):Nat→Nat
 | 0=>v0
 | j+1=>cv v0 b j*64+b (j+1) % 64
theorem zdE {l:List UInt8} (hne:l≠[]) (h:(zl l).2≠0):Lib.validD l=Lib.validD (l.drop (zl l).2)∧(zl l).2≤l.length:=by
 unfold zl at h ⊢
 rw[if_neg hne] at h ⊢
 split at h
 ·simp at h
 ·rename_i e
  rw[if_neg e]
  refine⟨?_,Lib.decodeL_le l hne⟩
  rw[Lib.validD_step l hne,if_neg]
  rintro⟨a,b⟩
  exact e (Prod.ext a b)
open Go.Lib
end Go.Proofs.YtaielcdfcgpbiaaGreatDoor
namespace Go.Proofs.YtaielcdfcgpbiaaGreatDoor
open Go.Ab
open Go.Lib
structure DecOk (l:List UInt8) (c k:Nat):Prop where
 enc:yI c=l.take k
 le:c≤1114111
 pos:1≤k
 len:k≤l.length
 one:k=1→c=(l.getD 0 0).toNat∧(l.getD 0 0).toNat<128
 high:k≠1→∀ x∈l.take k,128≤x.toNat
theorem Zs {n:Nat} {b:UInt8} (h:n=b.toNat):UInt8.ofNat n=b:=UInt8.toNat_inj.1 (by rw[UInt8.toNat_ofNat',h];have:=b.toNat_lt;omega)
theorem zgm {b0 b1:UInt8} {t:List UInt8} (h0:b0.toNat / 32=6) (h1:b1.toNat / 64=2) (hc:128≤b0.toNat % 32*64+b1.toNat % 64):DecOk (b0::b1::t) (b0.toNat % 32*64+b1.toNat % 64) 2:=by
 refine⟨?_,by omega,by omega,by simp,fun h=>by omega,fun _ x hx=>?_⟩
 ·unfold yI
  rw[if_neg (by omega),if_pos (by omega)]
  simp only[zam,List.take_zero,List.cons.injEq,and_true]
  exact⟨Zs (by omega),Zs (by omega)⟩
 ·simp only[zam,List.take_zero,List.mem_cons,List.not_mem_nil,or_false] at hx
  rcases hx with rfl|rfl<;>omega
theorem zeC {b0 b1 b2:UInt8} {t:List UInt8} (h0:b0.toNat / 16=14) (h1:b1.toNat / 64=2) (h2:b2.toNat / 64=2) (hc:2048≤b0.toNat % 16*4096+b1.toNat % 64*64+b2.toNat % 64) :
  DecOk (b0::b1::b2::t) (b0.toNat % 16*4096+b1.toNat % 64*64+b2.toNat % 64) 3:=by
 refine⟨?_,by omega,by omega,by simp,fun h=>by omega,fun _ x hx=>?_⟩
 ·unfold yI
  rw[if_neg (by omega),if_neg (by omega),if_pos (by omega)]
  simp only[zam,List.take_zero,List.cons.injEq,and_true]
  exact⟨Zs (by omega),Zs (by omega),Zs (by omega)⟩
 ·simp only[zam,List.take_zero,List.mem_cons,List.not_mem_nil,or_false] at hx
  rcases hx with rfl|rfl|rfl<;>omega
theorem zfu {b0 b1 b2 b3:UInt8} {t:List UInt8} (h0:b0.toNat / 8=30) (h1:b1.toNat / 64=2) (h2:b2.toNat / 64=2) (h3:b3.toNat / 64=2)
  (hc:65536≤b0.toNat % 8*262144+b1.toNat % 64*4096+b2.toNat % 64*64+b3.toNat % 64) (hd:b0.toNat % 8*262144+b1.toNat % 64*4096+b2.toNat % 64*64+b3.toNat % 64≤1114111) :
  DecOk (b0::b1::b2::b3::t) (b0.toNat % 8*262144+b1.toNat % 64*4096+b2.toNat % 64*64+b3.toNat % 64) 4:=by
 refine⟨?_,by omega,by omega,by simp,fun h=>by omega,fun _ x hx=>?_⟩
 ·unfold yI
  rw[if_neg (by omega),if_neg (by omega),if_neg (by omega)]
  simp only[zam,List.take_zero,List.cons.injEq,and_true]
  exact⟨Zs (by omega),Zs (by omega),Zs (by omega),Zs (by omega)⟩
 ·simp only[zam,List.take_zero,List.mem_cons,List.not_mem_nil,or_false] at hx
  rcases hx with rfl|rfl|rfl|rfl<;>omega
theorem zdQ {l:List UInt8} (hne:l≠[]) (h:decodeL l≠(65533,1)):DecOk l (decodeL l).1 (decodeL l).2:=by
 rw[decodeL_N] at h ⊢
 obtain⟨b0,t,rfl⟩:∃ b0 t,l=b0::t:=by cases l with|nil=>exact absurd rfl hne|cons a b=>exact⟨a,b,rfl⟩
 simp only[List.getD_cons_zero,List.getD_cons_succ] at h ⊢
 unfold decodeN at h ⊢
 split at h
 ·rename_i h0
  rw[if_pos h0]
  refine⟨?_,by simp only;omega,by simp,by simp,fun _=>⟨by simp,by simpa using h0⟩,fun h=>absurd rfl h⟩
  simp only
  unfold yI
  rw[if_pos (by omega)]
  simp only[zam,List.take_zero,List.cons.injEq,and_true]
  exact Zs rfl
 ·rename_i h0
  rw[if_neg h0]
  split at h
  ·rename_i h1
   rw[if_pos h1]
   split at h
   ·rename_i h2
    rw[if_pos h2]
    obtain⟨b1,t,rfl⟩:∃ b1 r,t=b1::r:=by cases t with|nil=>simp at h1|cons a b=>exact⟨a,b,rfl⟩
    exact zgm h1.1 (by simpa using h1.2.2) (by simpa using h2)
   ·exact absurd rfl h
  ·rename_i h1
   rw[if_neg h1]
   split at h
   ·rename_i h2
    rw[if_pos h2]
    split at h
    ·rename_i h3
     rw[if_pos h3]
     obtain⟨b1,t,rfl⟩:∃ b1 r,t=b1::r:=by cases t with|nil=>simp at h2|cons a b=>exact⟨a,b,rfl⟩
     obtain⟨b2,t,rfl⟩:∃ b2 r,t=b2::r:=by cases t with|nil=>simp at h2|cons a b=>exact⟨a,b,rfl⟩
     exact zeC h2.1 (by simpa using h2.2.1.2) (by simpa using h2.2.2.2) (by simpa using h3.1)
    ·exact absurd rfl h
   ·rename_i h2
    rw[if_neg h2]
    split at h
    ·rename_i h3
     rw[if_pos h3]
     split at h
     ·rename_i h4
      rw[if_pos h4]
      obtain⟨b1,t,rfl⟩:∃ b1 r,t=b1::r:=by cases t with|nil=>simp at h3|cons a b=>exact⟨a,b,rfl⟩
      obtain⟨b2,t,rfl⟩:∃ b2 r,t=b2::r:=by cases t with|nil=>simp at h3|cons a b=>exact⟨a,b,rfl⟩
      obtain⟨b3,t,rfl⟩:∃ b3 r,t=b3::r:=by cases t with|nil=>simp at h3|cons a b=>exact⟨a,b,rfl⟩
      exact zfu h3.1 (by simpa using h3.2.1.2) (by simpa using h3.2.2.1.2) (by simpa using h3.2.2.2.2) (by simpa using h4.1) (by have:=h4.2;simp at this ⊢;omega)
     ·exact absurd rfl h
    ·exact absurd rfl h
theorem zgq {l:List UInt8} (hne:l≠[]) (hv:validD l=true):DecOk l (zl l).1 (zl l).2∧validD (l.drop (zl l).2)=true:=by
 rw[validD_step l hne] at hv
 split at hv
 ·cases hv
 ·rename_i h
  have h':decodeL l≠(65533,1):=fun e=>h ⟨by rw[e],by rw[e]⟩
  have e:zl l=decodeL l:=by unfold zl;rw[if_neg hne,if_neg h']
  rw[e]
  exact⟨zdQ hne h',hv⟩
def Zn (c:UInt8):Bool:=decide (c≠10)&&decide (c≠13)
def Zy:List UInt8:=[46,46,46]
def Yw:List UInt8:=[33,36,38,40,41,58,61,64,91,93,123,124,125]
def zhr:List UInt8→Bool
 | [c]=>decide (0≤Lib.indexByte Yw c)
 | _=>false
def zdu (t:Tok):Bool:=if t.k=1 then decide (t.s=Zy)||zhr t.s else if t.k=2 then zbc t.s else if t.k=3∨t.k=4 then decide (zbj t.s=t.k) else if t.k=5 then validD t.s else false
def zcL (u:Nat):List UInt8:=[92,117,hexL.getD (u / 4096 % 16) 0,hexL.getD (u / 256 % 16) 0,hexL.getD (u / 16 % 16) 0,hexL.getD (u % 16) 0]
def zf6 (c:Nat) (bs:List UInt8):List UInt8 :=
 if c=34∨c=92 then [92,UInt8.ofNat c] else if c=10 then [92,110] else if c<32 then zcL c
 else if 65536≤c then zcL (55296+(c-65536) / 1024)++zcL (56320+(c-65536) % 1024) else bs
def zdZ:Nat→List UInt8→List UInt8
 | 0,_=>[]
 | n+1,l=>if l=[] then [] else zf6 (zl l).1 (l.take (zl l).2)++zdZ n (l.drop (zl l).2)
def zhK (s:List UInt8):List UInt8:=34::(zdZ s.length s++[34])
def zcK (t:Tok):List UInt8:=if t.k=5 then zhK t.s else t.s
def zbD (l:List Tok):List UInt8:=Lib.join (l.map zcK) [32]
def zC:List UInt8→List UInt8→List (List UInt8)
 | cur,[]=>[cur]
 | cur,[c]=>if c=10∨c=13 then [cur,[]] else [cur++[c]]
 | cur,c::d::r=>if c=10 then cur::zC [] (d::r) else if c=13 then (if d=10 then cur::zC [] r else cur::zC [] (d::r)) else zC (cur++[c]) (d::r)
def zo (s:List UInt8):List (List UInt8):=zC [] s
def zbu (c:UInt8):Bool:=decide (c=9)||decide (c=32)
def Zd (s:List UInt8):Nat:=(s.takeWhile zbu).length
def zD (s:List UInt8):Bool:=s.all zbu
def YA:List (List UInt8)→Int→Int
 | [],a=>a
 | s::r,a=>YA r (if zD s then a else if a<0∨(Zd s:Int)<a then Zd s else a)
def indM (l:List (List UInt8)):Int:=YA l.tail (-1)
def Yr (l:List (List UInt8)):List (List UInt8):=match l with
 | []=>[]
 | x::r=>x::r.map fun s=>s.drop (indM l).toNat
def YW (l:List (List UInt8)):List (List UInt8):=(l.reverse.dropWhile zD).reverse
def z7 (raw:List UInt8):List UInt8:=Lib.join (YW ((Yr (zo raw)).dropWhile zD)) [10]
def zM:List UInt8:=[34,34,34]
def zcF:List UInt8:=[92,34,34,34]
def zeO:List UInt8:=[239,187,191]
def yv:Nat→List UInt8→List UInt8→Option (List UInt8×List UInt8)
 | 0,_,_=>none
 | n+1,raw,t=>match t with
  | []=>none
  | c::r=>if zM.isPrefixOf (c::r) then some (raw,r.drop 2) else if zcF.isPrefixOf (c::r) then yv n (raw++zM) (r.drop 3) else yv n (raw++[c]) r
def zY (c:UInt8):Bool:=!(decide (c=10)||decide (c=13))
def yL:List UInt8→Nat
 | []=>0
 | c::r=>if c=9∨c=10∨c=13∨c=32∨c=44 then 1 else if zeO.isPrefixOf (c::r) then 3 else if c=35 then 1+(r.takeWhile zY).length else 0
def yc (s:List UInt8):Nat:=(s.takeWhile fun c=>isL c||isD c).length
def yl:List UInt8→Option (Tok×List UInt8)
 | []=>none
 | c::r=>if zM.isPrefixOf (c::r) then (yv (r.length+1) [] (r.drop 2)).map fun x=>(⟨5,z7 x.1⟩,x.2)
  else if c=34 then (Zp Zn r).map fun x=>(⟨5,x.1⟩,x.2)
  else if Zy.isPrefixOf (c::r) then some (⟨1,Zy⟩,r.drop 2)
  else if 0≤Lib.indexByte Yw c then some (⟨1,[c]⟩,r)
  else if isL c then some (⟨2,(c::r).take (yc (c::r))⟩,(c::r).drop (yc (c::r)))
  else if (yb (c::r)).1=0 then none
  else if ((c::r).drop (yb (c::r)).1).head?.any fun d=>isL d||isD d||decide (d=46) then none
  else some (⟨(yb (c::r)).2,(c::r).take (yb (c::r)).1⟩,(c::r).drop (yb (c::r)).1)
def yd:Nat→List Tok→List UInt8→Except Int (List Tok)
 | 0,_,_=>.error 0
 | n+1,l,t=>if t=[] then .ok l else if yL t≠0 then yd n l (t.drop (yL t)) else match yl t with
  | none=>.error 2
  | some (x,t')=>yd n (l++[x]) t'
def Zl (c:Nat):Bool:=decide (c=9)||(decide (c=10)||(decide (c=13)||(decide (32≤c)&&decide (c≤65535))))
def zc8:Nat→List UInt8→Bool
 | 0,_=>true
 | n+1,l=>if l=[] then true else decide (0<(zl l).2)&&(Zl (zl l).1&&zc8 n (l.drop (zl l).2))
def Yx (s:List UInt8):Bool:=zc8 s.length s
def zZ (s:List UInt8):Except Int (List Tok):=if 8192<s.length then .error 3 else if Yx s then yd (s.length+1) [] s else .error 2
theorem zhZ (s:List UInt8):decodeGo ⟨s.toArray⟩=if s=[] then (65533,0) else decodeL s:=by
 unfold decodeGo
 cases s with
 | nil=>rfl
 | cons c r=>rw[if_neg (by simp[ByteArray.size]),if_neg (by simp)];rfl
theorem zgn (s:List UInt8):Pure Tryz.prog 169 [.str s] (.tup [.int .i32 ((if s=[] then (65533,0) else decodeL s:Nat×Nat).1),.int .i64 ((if s=[] then (65533,0) else decodeL s:Nat×Nat).2)]):=by
 refine Pure.of_below fun γ w vs ht hv=>?_
 rw[zgr hv]
 have h:=Tryz.utf8_DecodeRuneInString ⟨s.toArray⟩ w (zfj ht)
 rw[zhZ] at h
 exact Calls.mono h fun e w' ⟨he,hb⟩=>⟨hb,_,he,zar (.int _ _) (.int _ _)⟩
theorem zes:Go.Proofs.Builder.Extra Tryz.prog Tryz.lays156_ren where
 sizeBuilder:=by kernel_rfl
 liesBuilder:=by kernel_rfl
 t5:=Tryz.underlying5
 a5:=Tryz.isAgg5
 z5:=Tryz.sizeOf5
 v5:=Tryz.zeroValue5
 infoByte:=by kernel_rfl
 cellsByte:=by kernel_rfl
 sizeByte:=by kernel_rfl
 neB5:=by decide
theorem ZA (l:List (List UInt8)) (sep:List UInt8) (hl:(Lib.join l sep).length≤140737488355328) (hn:l.length≤140737488355328):Pure Tryz.prog 63 [.sl .no 1 (cT l),.str sep] (.str (Lib.join l sep)):=by
 refine Pure.of_below fun γ w vs ht hv=>?_
 obtain⟨hlv,hr⟩:=hv
 match vs,hlv with
 | [v,u],_ =>
  have h0:=hr 0 _ _ rfl rfl
  cases hr 1 _ _ rfl rfl
  generalize hx:cT l=xs at h0
  cases h0 with
  | slnil _ _ ho =>
   have:l=[]:=by cases l with|nil=>rfl|cons a b=>simp[cT] at hx
   subst this
   exact(Any.strings_Join_none Tryz.lays156 zes none 0 ⟨sep.toArray⟩ w).mono fun e w' ⟨he,hw⟩=>⟨by rw[hw];exact RowKit.Below.refl _ _,_,he,.str _⟩
  | sl0 _ _ a ho =>
   have:l=[]:=by cases l with|nil=>rfl|cons a b=>simp[cT] at hx
   subst this
   exact(Any.strings_Join_none Tryz.lays156 zes (some a) 0 ⟨sep.toArray⟩ w).mono fun e w' ⟨he,hw⟩=>⟨by rw[hw];exact RowKit.Below.refl _ _,_,he,.str _⟩
  | sl _ _ _ b off cap cv hc hm hu hcell hrr ho =>
   subst hx
   have hcl:=zck l
   cases hl0:l with
   | nil =>
    subst hl0
    exact(Any.strings_Join_none Tryz.lays156 zes (some ⟨b,off,none⟩) cap ⟨sep.toArray⟩ w).mono fun e w' ⟨he,hw⟩=>⟨by rw[hw];exact RowKit.Below.refl _ _,_,he,.str _⟩
   | cons x0 r0 =>
    have hcells:∀(j:Nat) x,(l.map fun s=>(⟨s.toArray⟩:ByteArray))[j]?=some x→w.cell? ⟨b,off+j,none⟩=some (.string x):=fun j x hj=>by
     rw[yg,Zg] at hj
     obtain⟨s,h1,rfl⟩:=hj
     have g1:(cT l)[j]?=some [.str s]:=by simp[cT,h1]
     have h2:=hcell j _ g1 0 (by decide)
     have h3:=hrr j _ g1 0 (.str s) rfl
     have e:off+(j*1+0)=off+j:=by omega
     rw[e] at h2
     generalize cv j 0=y at h2 h3
     cases h3
     exact h2.1
    have hbk:b<w.heap.size:=by
     have:=hcells 0 ⟨x0.toArray⟩ (by rw[hl0];rfl)
     exact World.block_lt_of_cell? w _ this
    have hmap:(l.map fun s=>(⟨s.toArray⟩:ByteArray)).map (·.data.toList)=l:=by
     rw[List.map_map];exact(List.map_congr_left (g:=id) fun s _=>by simp).trans (List.map_id l)
    have h:=Any.strings_Join Tryz.lays156 zes b off cap (l.map fun s=>(⟨s.toArray⟩:ByteArray)) ⟨sep.toArray⟩ w hcells hbk (by simpa using hn) (by rw[List.length_map];omega) (by rw[hmap];exact hl)
    rw[List.length_map,hmap] at h
    rw[← hl0,hcl]
    exact h.mono fun e w' ⟨he,hb⟩=>⟨hb,_,he,.str _⟩
theorem zh5 (s:List UInt8) (i:Nat) (hi:i<s.length) (hs:s.length≤Lim):Pure Tryz.prog 115 [.str s,.int .i64 i] (.tup [.int .i64 (zl (s.drop i)).1,.int .i64 (zl (s.drop i)).2]):=by
 refine Pure.go ir115 ck115 (Al4 _) fun KP Q hQ=>?_
 simp only[Lim] at hs
 have hne:s.drop i≠[]:=fun e=>by have:=congrArg List.length e;simp at this;omega
 have h1:¬ ((i:Int)<0):=by omega
 have h2:¬ ((s.length:Int)≤i):=by omega
 have h3:((i:Int)≤s.length)=True:=eq_true (by omega)
 simp(disch:=first|omega|assumption) only[ir115,h1,h2,h3,go_sem]
 refine goK_pure (zgn (s.drop i)) ?_
 have hw:=decodeL_width (s.drop i)
 have hr:=decodeL_rune (s.drop i)
 unfold zl at hQ
 simp only[hne,if_false] at hQ ⊢
 generalize decodeL (s.drop i)=x at *
 obtain⟨c,k⟩:=x
 simp only at hw hr hQ
 have e:IntKind.wrap .i64 (c:Int)=c:=wrap64 (by omega) (by omega)
 by_cases hc:c=65533
 ·have g1:((c:Int)=65533)=True:=eq_true (by omega)
  by_cases hk:k<2
  ·have g2:((k:Int)<2)=True:=eq_true (by omega)
   have e1:(c,k)=(65533,1):=by rw[hc];congr 1;omega
   rw[if_pos e1] at hQ
   simp(disch:=first|omega|assumption) only[g1,g2,go_sem]
   exact hQ _ _ _ _ nofun rfl (by simp[tupOf,envOf,AV.strip,AV.strip1])
  ·have g2:¬ ((k:Int)<2):=by omega
   have e1:¬ ((c,k)=(65533,1)):=fun h=>by cases h;omega
   rw[if_neg e1] at hQ
   simp(disch:=first|omega|assumption) only[g1,g2,e,go_sem]
   exact hQ _ _ _ _ nofun rfl (by simp[tupOf,envOf,AV.strip,AV.strip1])
 ·have g1:¬ ((c:Int)=65533):=by omega
  have e1:¬ ((c,k)=(65533,1)):=fun h=>by cases h;omega
  rw[if_neg e1] at hQ
  simp(disch:=first|omega|assumption) only[g1,e,go_sem]
  exact hQ _ _ _ _ nofun rfl (by simp[tupOf,envOf,AV.strip,AV.strip1])
theorem zhG (c:Nat) (h:c≤1114111):Pure Tryz.prog 116 [.int .i64 c] (.bool (Zl c)):=by
 refine Pure.go ir116 ck116 (Al4 _) fun KP Q hQ=>?_
 by_cases h1:c=9
 ·have g:((c:Int)=9)=True:=eq_true (by omega)
  simp(disch:=first|omega|assumption) only[ir116,g,go_sem]
  exact hQ _ _ _ _ nofun rfl (by simp[tupOf,envOf,AV.strip,AV.strip1,Zl,h1])
 have g1:¬ ((c:Int)=9):=by omega
 by_cases h2:c=10
 ·have g:((c:Int)=10)=True:=eq_true (by omega)
  simp(disch:=first|omega|assumption) only[ir116,g1,g,go_sem]
  exact hQ _ _ _ _ nofun rfl (by simp[tupOf,envOf,AV.strip,AV.strip1,Zl,h2])
 have g2:¬ ((c:Int)=10):=by omega
 by_cases h3:c=13
 ·have g:((c:Int)=13)=True:=eq_true (by omega)
  simp(disch:=first|omega|assumption) only[ir116,g1,g2,g,go_sem]
  exact hQ _ _ _ _ nofun rfl (by simp[tupOf,envOf,AV.strip,AV.strip1,Zl,h3])
 have g3:¬ ((c:Int)=13):=by omega
 by_cases h4:32≤c
 ·have g4:((32:Int)≤c)=True:=eq_true (by omega)
  by_cases h5:c≤65535
  ·have g5:((c:Int)≤65535)=True:=eq_true (by omega)
   simp(disch:=first|omega|assumption) only[ir116,g1,g2,g3,g4,g5,go_sem]
   exact hQ _ _ _ _ nofun rfl (by simp[tupOf,envOf,AV.strip,AV.strip1,Zl,h4,h5])
  ·have g5:¬ ((c:Int)≤65535):=by omega
   simp(disch:=first|omega|assumption) only[ir116,g1,g2,g3,g4,g5,go_sem]
   exact hQ _ _ _ _ nofun rfl (by simp[tupOf,envOf,AV.strip,AV.strip1,Zl,h1,h2,h3,h5])
 ·have g4:¬ ((32:Int)≤c):=by omega
  simp(disch:=first|omega|assumption) only[ir116,g1,g2,g3,g4,go_sem]
  exact hQ _ _ _ _ nofun rfl (by simp[tupOf,envOf,AV.strip,AV.strip1,Zl,h1,h2,h3,h4])
theorem zeD {n n' b0 b1 b2 b3 c1 c2 c3 c k:Nat} (h:decodeN n b0 b1 b2 b3=(c,k)) (hv:(c,k)≠(65533,1)) (hn:k≤n') (h1:1<k→c1=b1) (h2:2<k→c2=b2) (h3:3<k→c3=b3):decodeN n' b0 c1 c2 c3=(c,k):=by
 unfold decodeN at h
 split at h
 ·rename_i h0
  unfold decodeN
  rw[if_pos h0,h]
 rename_i h0
 split at h
 ·rename_i hA
  split at h
  ·rename_i hB
   cases h
   unfold decodeN
   rw[if_neg h0,h1 (by decide),if_pos ⟨hA.1,by omega,hA.2.2⟩,if_pos hB]
  ·exact absurd h.symm hv
 rename_i hA
 split at h
 ·rename_i hB
  split at h
  ·rename_i hC
   cases h
   unfold decodeN
   rw[if_neg h0,h1 (by decide),h2 (by decide),if_neg (by omega),if_pos ⟨hB.1,⟨by omega,hB.2.1.2⟩,by omega,hB.2.2.2⟩,if_pos hC]
  ·exact absurd h.symm hv
 rename_i hB
 split at h
 ·rename_i hC
  split at h
  ·rename_i hD
   cases h
   unfold decodeN
   rw[if_neg h0,h1 (by decide),h2 (by decide),h3 (by decide),if_neg (by omega),if_neg (by omega),if_pos ⟨hC.1,⟨by omega,hC.2.1.2⟩,⟨by omega,hC.2.2.1.2⟩,by omega,hC.2.2.2.2⟩,if_pos hD]
  ·exact absurd h.symm hv
 ·exact absurd h.symm hv
theorem zbI {l:List UInt8} (hne:l≠[]) (h:(zl l).2≠0):zl l=decodeL l∧decodeL l≠(65533,1):=by
 unfold zl at h ⊢
 rw[if_neg hne] at h ⊢
 split at h
 ·exact absurd rfl h
 ·rename_i h2;rw[if_neg h2];exact⟨rfl,h2⟩
theorem zdC {l:List UInt8} (hne:l≠[]) (h:(zl l).2≠0) (t:List UInt8):zl (l.take (zl l).2++t)=zl l:=by
 obtain⟨e,hv⟩:=zbI hne h
 have hk:=decodeL_le l hne
 rw[e]
 generalize hd:decodeL l=x at *
 obtain⟨c,k⟩:=x
 simp only at *
 have h2:decodeL (l.take k++t)=(c,k):=by
  rw[decodeL_N] at hd ⊢
  have hg:∀ j,j<k→(l.take k++t).getD j 0=l.getD j 0:=fun j hj=>by
   simp only[List.getD_eq_getElem?_getD]
   rw[ZX (by simp;omega),List.getElem?_take_of_lt hj]
  have hk1:1≤k:=by rw[← show (decodeL l).2=k by rw[decodeL_N,hd]];exact decodeL_width l
  rw[hg 0 (by omega)]
  exact zeD hd hv (by simp;omega) (fun hj=>by rw[hg 1 hj]) (fun hj=>by rw[hg 2 hj]) fun hj=>by rw[hg 3 hj]
 have hne2:l.take k++t≠[]:=fun e=>by
  have h3:=congrArg List.length e
  have hk1:1≤k:=by rw[← show (decodeL l).2=k by rw[hd]];exact decodeL_width l
  have hl:0<l.length:=List.length_pos_iff.2 hne
  simp only[Al5,List.length_take,Al3] at h3;omega
 unfold zl
 rw[if_neg hne2,h2,if_neg hv]
theorem zc9 (b:UInt8) (t:List UInt8) (h:b.toNat<128):zl (b::t)=(b.toNat,1):=by
 unfold zl
 rw[if_neg (by simp),decodeL_ascii b t h,if_neg (by simp;omega)]
def zbk (r:List UInt8):Prop:=r=[]∨∃ c t,r=c::t∧(c=32∨c=10)
theorem zda {r:List UInt8} (h:zbk r):zx r=0:=by
 rcases h with rfl|⟨c,t,rfl,rfl|rfl⟩
 ·rfl
 all_goals simp[zx,isD]
theorem ZS:∀(a:List UInt8) {r:List UInt8},zbk r→zx (a++r)=zx a
 | [],r,h=>zda h
 | c::a,r,h=>by simp only[Al6,zx];rw[ZS a h]
theorem zc2 (a:List UInt8) {r:List UInt8} (h:zbk r):Zh (a++r)=Zh a:=by
 unfold Zh
 rw[ZS a h]
 cases a with
 | nil=>simp[zx]
 | cons c a=>simp
theorem zdw (a:List UInt8) {r:List UInt8} (h:zbk r):zk (a++r)=zk a:=by
 cases a with
 | nil =>
  have h1:=zda h
  have h2:zk []=0:=rfl
  rw[YN,h2]
  unfold zk
  rcases h with rfl|⟨c,t,rfl,rfl|rfl⟩
  ·rfl
  all_goals
   rw[if_neg (by simp)];unfold Zh;rw[if_pos h1]
 | cons c a =>
  by_cases hc:c=45
  ·subst hc;rw[Al6,YC,YC,ZS a h,zc2 a h]
  ·rw[ZM (s:=c::a++r) (by simp[hc]),ZM (s:=c::a) (by simp[hc]),zc2 (c::a) h]
theorem zeV (a:List UInt8) {r:List UInt8} (h:zbk r):yf (a++r)=yf a:=by
 cases a with
 | nil=>rcases h with rfl|⟨c,t,rfl,rfl|rfl⟩<;>rfl
 | cons c a=>simp[yf,ZS a h]
theorem zf4 (a:List UInt8) {r:List UInt8} (h:zbk r):Zq (a++r)=Zq a:=by
 cases a with
 | nil =>
  rcases h with rfl|⟨c,t,rfl,rfl|rfl⟩
  ·rfl
  all_goals simp[Zq,isE]
 | cons c a =>
  have hs:sgN (a++r)=sgN a:=by
   cases a with
   | nil=>rcases h with rfl|⟨c,t,rfl,rfl|rfl⟩<;>simp[sgN]
   | cons d a=>simp[sgN]
  have hd:(a++r).drop (sgN a)=a.drop (sgN a)++r:=zao (zdP a)
  simp only[Al6,Zq,hs,hd,ZS _ h]
theorem zf2 {a:List UInt8} {r:List UInt8} (h:zbk r):yb (a++r)=yb a:=by
 have h1:=Y2 a
 have e1:(a++r).drop (zk a)=a.drop (zk a)++r:=zao h1
 have h2:=zcW (a.drop (zk a))
 simp only[yQ] at h2
 have e2:(a++r).drop (zk a+yf (a.drop (zk a)))=a.drop (zk a+yf (a.drop (zk a)))++r:=zao (by omega)
 unfold yb
 rw[zdw a h,e1,zeV _ h,e2,zf4 _ h]
theorem zgs {P:UInt8→Bool} (h:(List.range 256).all (fun n=>P (UInt8.ofNat n))=true) (c:UInt8):P c=true:=by
 have h1:=ZB.1 h c.toNat (List.mem_range.2 (UInt8.toNat_lt c))
 simpa using h1
def zfF (c:UInt8):Bool:=decide (0≤Lib.indexByte Yw c)
def spB (c:UInt8):Bool:=decide (c=9∨c=10∨c=13∨c=32∨c=44)||decide (c=239)||decide (c=35)
theorem zfD (c:UInt8):(!zfF c||(!(decide (c=34))&&(!(decide (c=46))&&(!(isL c)&&(!(isD c)&&(!(decide (c=45))&&(!(spB c)&&decide (32≤c.toNat∧c.toNat<128))))))))=true:=zgs (P:=fun c=>(!zfF c||(!(decide (c=34))&&(!(decide (c=46))&&(!(isL c)&&(!(isD c)&&(!(decide (c=45))&&(!(spB c)&&decide (32≤c.toNat∧c.toNat<128))))))))) (by decide +kernel) c
theorem zb0 {p:UInt8→Bool} {r:List UInt8} (h10:p 10=false) (h32:p 32=false) (h:zbk r):∀ s:List UInt8,(s++r).takeWhile p=s.takeWhile p
 | []=>by
  rcases h with rfl|⟨c,t,rfl,rfl|rfl⟩
  ·rfl
  ·simp[h32]
  ·simp[h10]
 | c::s=>by
  simp only[Al6,List.takeWhile_cons]
  split
  ·rw[zb0 h10 h32 h s]
  ·rfl
theorem zbw {p:UInt8→Bool}:∀ s:List UInt8,(∀ c∈s,p c=true)→s.takeWhile p=s
 | [],_=>rfl
 | c::s,h=>by
  simp only[List.takeWhile_cons,h c (.head _),if_true]
  rw[zbw s fun d hd=>h d (.tail _ hd)]
theorem zex (s:List UInt8) {r:List UInt8} (h:zbk r):yc (s++r)=yc s:=by
 unfold yc;rw[zb0 (by decide) (by decide) h s]
theorem zbP:∀(s:List UInt8) (i:Nat),zeb s i=true→∀ c∈s,(isL c||isD c)=true
 | [],_,_=>fun c hc=>nomatch hc
 | c::r,i,h=>by
  simp only[zeb] at h
  split at h
  ·rename_i h1
   have h2:=zbP r (i+1) h
   intro d hd
   rcases List.mem_cons.1 hd with rfl|hd
   ·simp only[Yp,Al0] at h1 ⊢
    exact h1.imp id fun x=>x.2
   ·exact h2 d hd
  ·cases h
theorem zdK (x y:Tok) (L:List Tok):zbD (x::y::L)=zcK x++32::zbD (y::L):=by simp[zbD,Lib.join]
theorem zeT (x:Tok):zbD [x]=zcK x:=by simp[zbD,Lib.join]
theorem zbQ:∀(n m:Nat) (l:List UInt8),l.length≤n→l.length≤m→zc8 n l=zc8 m l
 | 0,m,l,h,_=>by
  obtain rfl:l=[]:=ze8.1 (by omega)
  cases m<;>simp[zc8]
 | n+1,0,l,_,h=>by
  obtain rfl:l=[]:=ze8.1 (by omega)
  simp[zc8]
 | n+1,m+1,l,h1,h2=>by
  simp only[zc8]
  split
  ·rfl
  ·by_cases hp:0<(zl l).2
   ·rw[zbQ n m (l.drop (zl l).2) (by simp;omega) (by simp;omega)]
   ·simp[hp]
theorem Yl {l:List UInt8} (hne:l≠[]):Yx l=(decide (0<(zl l).2)&&(Zl (zl l).1&&Yx (l.drop (zl l).2))):=by
 unfold Yx
 have hl:0<l.length:=List.length_pos_iff.2 hne
 obtain⟨m,hm⟩:∃ m,l.length=m+1:=⟨l.length-1,by omega⟩
 rw[hm,zc8,if_neg hne]
 by_cases hp:0<(zl l).2
 ·rw[zbQ m (l.drop (zl l).2).length (l.drop (zl l).2) (by simp;omega) (Al4 _)]
 ·simp[hp]
theorem zcB:Yx []=true:=rfl
def zJ (a:List UInt8):Prop:=∀ t,Yx t=true→Yx (a++t)=true
theorem zJ.nil:zJ []:=fun t h=>h
theorem zJ.app {a b:List UInt8} (ha:zJ a) (hb:zJ b):zJ (a++b):=fun t h=>by rw[yn];exact ha _ (hb _ h)
theorem zJ.here {a:List UInt8} (ha:zJ a):Yx a=true:=by have:=ha [] zcB;simpa using this
theorem zJ.ascii {b:UInt8} (h:b.toNat<128) (hs:Zl b.toNat=true):zJ [b]:=fun t ht=>by
 rw[Yl (by simp)]
 simp only[List.singleton_append,zc9 b t h,hs,List.drop_succ_cons,List.drop_zero,ht]
 rfl
theorem zJ.asciis:∀ s:List UInt8,(∀ b∈s,32≤b.toNat∧b.toNat<128)→zJ s
 | [],_=>.nil
 | b::s,h=>by
  have h1:=h b (.head _)
  exact zJ.app (a:=[b]) (.ascii h1.2 (by simp[Zl];omega)) (zJ.asciis s fun c hc=>h c (.tail _ hc))
theorem zJ.code {l:List UInt8} (hne:l≠[]) (h:(zl l).2≠0) (hk:(zl l).2≤l.length) (hs:Zl (zl l).1=true):zJ (l.take (zl l).2):=fun t ht=>by
 have hp:=zdC hne h t
 have hl:(l.take (zl l).2).length=(zl l).2:=by simp;omega
 rw[Yl (by intro e;have:=congrArg List.length e;rw[Al5,hl] at this;simp at this;omega),hp,hs]
 rw[List.drop_left' hl,ht]
 simp;omega
theorem zJ.of:∀(n:Nat) (s:List UInt8),s.length≤n→Yx s=true→zJ s
 | 0,s,hn,_=>by
  obtain rfl:s=[]:=ze8.1 (by omega)
  exact .nil
 | n+1,s,hn,h=>by
  by_cases hne:s=[]
  ·subst hne;exact .nil
  ·rw[Yl hne] at h
   simp only[Al0,zm] at h
   obtain⟨h1,h2,h3⟩:=h
   have hk:(zl s).2≤s.length:=(zdE hne (by omega)).2
   have:=zJ.app (zJ.code hne (by omega) hk h2) (zJ.of n _ (by simp;omega) h3)
   rwa [List.take_append_drop] at this
theorem zdv (n:Nat):32≤(hexL.getD (n % 16) 0).toNat∧(hexL.getD (n % 16) 0).toNat<128:=by
 have:∀ x:Fin 16,32≤(hexL.getD x.val 0).toNat∧(hexL.getD x.val 0).toNat<128:=by decide +kernel
 exact this ⟨n % 16,Nat.mod_lt _ (by decide)⟩
theorem zJ.unit (u:Nat):zJ (zcL u):=zJ.asciis _ fun b hb=>by
 simp only[zcL,List.mem_cons,List.not_mem_nil,or_false] at hb
 rcases hb with rfl|rfl|rfl|rfl|rfl|rfl
 ·decide
 ·decide
 all_goals exact zdv _
theorem zJ.quo:∀(n:Nat) (l:List UInt8),l.length≤n→validD l=true→zJ (zdZ n l)
 | 0,l,_,_=>.nil
 | n+1,l,hn,hv=>by
  rw[zdZ]
  by_cases hne:l=[]
  ·subst hne;exact .nil
  ·rw[if_neg hne]
   obtain⟨hd,hv2⟩:=zgq hne hv
   have hpos:=hd.pos
   refine zJ.app ?_ (zJ.quo n _ (by simp;omega) hv2)
   unfold zf6
   by_cases h1:(zl l).1=34∨(zl l).1=92
   ·rw[if_pos h1]
    refine zJ.asciis _ fun b hb=>?_
    simp only[List.mem_cons,List.not_mem_nil,or_false] at hb
    rcases hb with rfl|rfl
    ·decide
    ·rcases h1 with h1|h1<;>rw[h1]<;>decide
   rw[if_neg h1]
   by_cases h2:(zl l).1=10
   ·rw[if_pos h2]
    exact zJ.asciis _ fun b hb=>by
     simp only[List.mem_cons,List.not_mem_nil,or_false] at hb
     rcases hb with rfl|rfl<;>decide
   rw[if_neg h2]
   by_cases h3:(zl l).1<32
   ·rw[if_pos h3];exact .unit _
   rw[if_neg h3]
   by_cases h4:65536≤(zl l).1
   ·rw[if_pos h4];exact zJ.app (.unit _) (.unit _)
   ·rw[if_neg h4]
    exact zJ.code hne (by omega) hd.len (by simp[Zl];omega)
theorem ze3 (c:UInt8):nch c=true→32≤c.toNat∧c.toNat<128:=zcc (P:=fun c=>nch c=true→32≤c.toNat∧c.toNat<128) (by decide +kernel) c
theorem zey {s:List UInt8} (h:zbj s≠0):∀ b∈s,32≤b.toNat∧b.toNat<128:=fun b hb=>ze3 b ((zfC h).1 b hb)
theorem zJ.tok (x:Tok) (hx:zdu x=true):zJ (zcK x):=by
 obtain⟨k,s⟩:=x
 unfold zdu at hx
 simp only at hx
 by_cases h1:k=1
 ·subst h1
  simp only[if_true,Yp,zm] at hx
  simp only[zcK,show ¬ ((1:Int)=5) by decide,if_false]
  rcases hx with rfl|hx
  ·exact zJ.asciis _ (by decide)
  ·cases s with
   | nil=>cases hx
   | cons c t =>
    cases t with
    | cons d t=>cases hx
    | nil =>
     have h1:=zfD c
     have hm:zfF c=true:=hx
     simp only[hm,Bool.not_true,Bool.false_or,Al0,Bool.not_eq_true',decide_eq_false_iff_not,zm] at h1
     exact zJ.asciis _ fun b hb=>by simp only[List.mem_singleton] at hb;subst hb;exact h1.2.2.2.2.2.2
 rw[if_neg h1] at hx
 by_cases h2:k=2
 ·subst h2
  simp only[if_true] at hx
  simp only[zcK,show ¬ ((2:Int)=5) by decide,if_false]
  simp only[zbc,Al0] at hx
  have:=zbP _ _ hx.1
  refine zJ.asciis _ fun b hb=>?_
  have hb2:=this b hb
  simp only[Yp] at hb2
  simp only[isL,isD,Yp,Al0,zm] at hb2
  omega
 rw[if_neg h2] at hx
 by_cases h3:k=3∨k=4
 ·rw[if_pos h3] at hx
  have hk5:¬ (k=5):=by omega
  simp only[zcK,hk5,if_false]
  simp only[zm] at hx
  exact zJ.asciis _ (zey (by omega))
 rw[if_neg h3] at hx
 by_cases h5:k=5
 ·subst h5
  simp only[if_true] at hx
  simp only[zcK,if_true,zhK]
  have h34:zJ [34]:=zJ.asciis _ (by decide)
  exact zJ.app (a:=[34]) h34 (zJ.app (zJ.quo _ _ (Al4 _) hx) h34)
 ·rw[if_neg h5] at hx;cases hx
theorem zJ.join:∀ L:List Tok,L.all zdu=true→zJ (zbD L)
 | [],_=>.nil
 | [x],h=>by rw[zeT];exact .tok x (by simpa using h)
 | x::y::L,h=>by
  rw[List.all_cons,Al0] at h
  rw[zdK]
  exact zJ.app (.tok x h.1) (zJ.app (a:=[32]) (zJ.asciis _ (by decide)) (zJ.join (y::L) h.2))
end Go.Proofs.YtaielcdfcgpbiaaGreatDoor
