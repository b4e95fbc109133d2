import Derived.Lib.ItoaMem
import Derived.Lib.ParseIntBTie
import Derived.Lib.ValidLaws
import Derived.Lib.ItoaLen
import Derived.Lib.Join
import Derived.Lib.DecodeN
import Derived.Lib.TrimUEq
import Derived.Shelf.Strings.OnBuilder
import Derived.Test.YtaielcdfcgpbiaaGreatDoorM1
import Derived.Test.YtaielcdfcgpbiaaGreatDoorM2
import Derived.Test.YtaielcdfcgpbiaaGreatDoorM3
import Derived.Test.YtaielcdfcgpbiaaGreatDoorM4
import Derived.Test.YtaielcdfcgpbiaaGreatDoorM5
set_option maxRecDepth 100000
set_option linter.all false
namespace Go.Proofs.YtaielcdfcgpbiaaGreatDoor
open Go.Lib
theorem zfC {d:Nat} (h:d<10):(UInt8.ofNat (48+d)).toNat=48+d:=by
 rw[UInt8.toNat_ofNat'];omega
theorem ziU (u:Nat) (hu:u<18446744073709551616) (r:List UInt8):parseUint10 0 (decDigits u++r)=parseUint10 u r:=by
 induction u using Nat.strongRecOn generalizing r with
 | _ u ih =>
  rw[decDigits]
  split
  ·rename_i h
   simp only[Al6,Zh,parseUint10,zfC h]
   rw[if_pos (by omega),if_neg (by omega),if_neg (by omega)]
   congr 1
   omega
  ·rename_i h
   have hd:u % 10<10:=Nat.mod_lt _ (by omega)
   rw[Yj,ih (u / 10) (by omega) (by omega)]
   simp only[Al6,Zh,parseUint10,zfC hd]
   rw[if_pos (by omega),if_neg (by omega),if_neg (by omega)]
   congr 1
   omega
theorem Z1 (u:Nat):decDigits u≠[]:=by
 rw[decDigits];split<;>simp
theorem YL (u:Nat):∀ c∈decDigits u,48≤c.toNat∧c.toNat≤57:=by
 induction u using Nat.strongRecOn with
 | _ u ih =>
  intro c hc
  rw[decDigits] at hc
  split at hc
  ·rename_i h
   rw[List.mem_singleton] at hc
   subst hc
   rw[zfC h];omega
  ·rename_i h
   rcases List.mem_append.1 hc with e|e
   ·exact ih (u / 10) (by omega) c e
   ·rw[List.mem_singleton] at e
    subst e
    rw[zfC (Nat.mod_lt _ (by omega))];omega
theorem zeM (u:Nat) (hu:u<18446744073709551616):parseMag (decDigits u)=.ok u:=by
 unfold parseMag
 rw[if_neg (Z1 u)]
 have:=ziU u hu []
 rw[List.append_nil] at this
 rw[this];rfl
theorem zdL (n:Int) (h1:-9223372036854775808≤n) (h2:n≤9223372036854775807):parseIntB 64 (itoa n)=.ok n:=by
 rw[parseIntB_64]
 unfold itoa
 split
 ·rename_i h
  rw[atoiAll_minus,zeM _ (by omega)]
  simp only[signed]
  rw[if_neg (by omega)]
  congr 1
  omega
 ·rename_i h
  cases hd:decDigits n.toNat with
  | nil=>exact absurd hd (Z1 _)
  | cons c r =>
   have hc:=YL n.toNat c (by rw[hd];simp)
   rw[atoiAll_plain c r (by omega) (by omega),← hd,zeM _ (by omega)]
   simp only[signless]
   rw[if_neg (by omega)]
   congr 1
   omega
end Go.Proofs.YtaielcdfcgpbiaaGreatDoor
namespace Go.Proofs.YtaielcdfcgpbiaaGreatDoor
open Go.Ab
theorem zag (t:List UInt8):zp (45::t)=if zz t=0 then 0 else 1+ZM t:=by
 unfold zp;exact if_pos rfl
theorem ZC {s:List UInt8} (h:¬ s.head?=some 45):zp s=ZM s:=by
 unfold zp;exact if_neg h
open Go.Lib
theorem zhQ (c:UInt8):isD c=true→nch c=true:=zfw (P:=fun c=>isD c=true→nch c=true) (by decide +kernel) c
theorem zml (c:UInt8):isE c=true→nch c=true:=zfw (P:=fun c=>isE c=true→nch c=true) (by decide +kernel) c
theorem zmE (c:UInt8):isD c=true→nst c=true:=zfw (P:=fun c=>isD c=true→nst c=true) (by decide +kernel) c
theorem za5:∀(l:List UInt8) (c:UInt8),c∈l.take (zz l)→isD c=true
 | [],c,h=>by simp at h
 | x::l,c,h=>by
  rw[zz] at h
  split at h
  ·rename_i hx
   rw[zbn] at h
   rcases List.mem_cons.1 h with e|e
   ·rw[e];exact hx
   ·exact za5 l c e
  ·simp at h
theorem zii {l:List UInt8} {a b:Nat} (h:a≤b) {c:UInt8} (hc:c∈l.take a):c∈l.take b :=
 (List.take_prefix_take_left h).subset hc
theorem zkf (s:List UInt8):ZM s≤zz s:=by unfold ZM;split<;>(try split)<;>omega
theorem zeK {l:List UInt8} {c:UInt8} (h:c∈l.take (ZM l)):isD c=true:=za5 l c (zii (zkf l) h)
theorem zfO {s:List UInt8} {c:UInt8} (h:c∈s.take (zp s)):nch c=true:=by
 by_cases h45:s.head?=some 45
 ·cases s with
  | nil=>simp at h
  | cons x t =>
   have hx:x=45:=by simpa using h45
   subst hx
   rw[zag] at h
   by_cases h0:zz t=0
   ·rw[if_pos h0] at h;simp at h
   ·rw[if_neg h0,Nat.add_comm,zbn] at h
    rcases List.mem_cons.1 h with e|e
    ·rw[e];decide
    ·exact zhQ c (zeK e)
 ·rw[ZC h45] at h
  exact zhQ c (zeK h)
theorem zhi {s:List UInt8} {c:UInt8} (h:c∈s.take (yO s)):nch c=true:=by
 unfold yO at h
 split at h
 ·rename_i h46
  cases s with
  | nil=>simp at h
  | cons x t =>
   have hx:x=46:=by simpa using h46.1
   subst hx
   simp only[List.tail_cons] at h
   rw[Nat.add_comm,zbn] at h
   rcases List.mem_cons.1 h with e|e
   ·rw[e];decide
   ·exact zhQ c (za5 _ c e)
 ·simp at h
theorem zhn {s:List UInt8} (h:zp s≠0):∃ c t,s=c::t∧nst c=true:=by
 cases s with
 | nil=>exact absurd (by decide) h
 | cons c t =>
  refine⟨c,t,rfl,?_⟩
  by_cases hc:c=45
  ·rw[hc];decide
  ·rw[ZC (by simpa using hc)] at h
   apply zmE
   cases hd:isD c with
   | true=>rfl
   | false=>exact absurd (by simp[ZM,zz,hd]) h
theorem zjW {r:List UInt8} {c:UInt8} (h:c∈r.take (sgN r)):nch c=true:=by
 unfold sgN at h
 split at h
 ·rename_i hs
  cases r with
  | nil=>simp at h
  | cons x t =>
   simp only[List.head?_cons,Al1] at hs
   simp at h
   subst h
   rcases hs with rfl|rfl<;>decide
 ·simp at h
theorem ziT:∀(s:List UInt8) (c:UInt8),c∈s.take (Yn s)→nch c=true
 | [],c,h=>by simp at h
 | x::r,c,h=>by
  rw[Yn] at h
  split at h
  ·rename_i hx
   split at h
   ·simp at h
   ·rw[Nat.add_assoc,Nat.add_comm,zbn] at h
    rcases List.mem_cons.1 h with e|e
    ·rw[e];exact zml x hx
    ·rw[List.take_add] at e
     rcases List.mem_append.1 e with e|e
     ·exact zjW e
     ·exact zhQ c (za5 _ c e)
  ·simp at h
theorem zkm {s:List UInt8} (h:ZR s≠0):(∀ c∈s,nch c=true)∧∃ c t,s=c::t∧nst c=true:=by
 unfold ZR at h
 split at h
 ·rename_i hl
  unfold z1 at h hl
  split at h
  ·exact absurd rfl h
  ·rename_i hw
   rw[if_neg hw] at hl
   simp only at hl
   refine⟨fun c hc=>?_,zhn hw⟩
   have e:s=s.take (zp s+yO (s.drop (zp s))+Yn (s.drop (zp s+yO (s.drop (zp s))))):=by rw[hl,List.take_length]
   rw[e,List.take_add,List.take_add] at hc
   rcases List.mem_append.1 hc with hc|hc
   ·rcases List.mem_append.1 hc with hc|hc
    ·exact zfO hc
    ·exact zhi hc
   ·exact ziT _ _ hc
 ·exact absurd rfl h
theorem zk3 {u:Nat} {c:UInt8} (h:c∈decDigits u):isD c=true:=by
 have:=YL u c h
 simp[isD,this]
theorem zgz:∀ l:List UInt8,(∀ c∈l,isD c=true)→zz l=l.length
 | [],_=>rfl
 | c::l,h=>by
  rw[zz,if_pos (h c (.head _)),zgz l fun x hx=>h x (.tail _ hx)];rfl
theorem zfB (u:Nat):∃ c t,decDigits u=c::t∧(c=48→t=[]):=by
 induction u using Nat.strongRecOn with
 | _ u ih =>
  rw[decDigits]
  split
  ·exact⟨_,[],rfl,fun _=>rfl⟩
  ·rename_i h
   obtain⟨c,t,h1,h2⟩:=ih (u / 10) (by omega)
   refine⟨c,t++[UInt8.ofNat (48+u % 10)],by rw[h1];rfl,fun e=>?_⟩
   have ht:=h2 e
   subst e;subst ht
   rw[decDigits] at h1
   split at h1
   ·rename_i h3
    have h4:=congrArg UInt8.toNat (List.cons.inj h1).1
    rw[zfC h3] at h4
    have:(48:UInt8).toNat=48:=rfl
    omega
   ·have:=congrArg List.length h1
    have h5:=Z1 (u / 10 / 10)
    cases hd:decDigits (u / 10 / 10) with
    | nil=>exact absurd hd h5
    | cons a b=>rw[hd] at this;simp at this
theorem zc2 (u:Nat):ZM (decDigits u)=(decDigits u).length∧zz (decDigits u)≠0:=by
 have h1:=zgz (decDigits u) fun c hc=>zk3 hc
 obtain⟨c,t,h2,h3⟩:=zfB u
 have h4:zz (decDigits u)≠0:=by rw[h1,h2];simp
 refine⟨?_,h4⟩
 unfold ZM
 rw[if_neg h4]
 split
 ·rename_i h5
  rw[h2] at h5 ⊢
  rw[h3 (by simpa using h5)];rfl
 ·exact h1
theorem zil (n:Int):ZR (itoa n)=3:=by
 have key:∀ s:List UInt8,zp s=s.length→s≠[]→ZR s=3:=fun s h h0=>by
  have hl:s.length≠0:=fun e=>h0 (Ze.1 e)
  have e1:yO ([]:List UInt8)=0:=by decide
  have hn:z1 s=(s.length,3):=by
   unfold z1
   rw[if_neg (by omega)]
   simp[h,e1,Yn]
  unfold ZR;rw[hn];simp
 unfold itoa
 split
 ·refine key _ ?_ (by simp)
  rw[zag,if_neg (zc2 _).2,(zc2 _).1];simp;omega
 ·refine key _ ?_ (Z1 _)
  obtain⟨c,t,h2,h3⟩:=zfB n.toNat
  have h5:¬ (decDigits n.toNat).head?=some 45:=by
   rw[h2];simp
   intro e;subst e
   have:=YL n.toNat 45 (by rw[h2];simp)
   have e:(45:UInt8).toNat=45:=rfl
   omega
  rw[ZC h5,(zc2 _).1]
theorem zdE {n:Int} (h:inR n):Zd (itoa n)=true∧zd5 (itoa n)=n:=by
 have h1:=zdL n h.1 h.2
 exact⟨by simp[Zd,h1,okI,zil],by simp[zd5,h1]⟩
end Go.Proofs.YtaielcdfcgpbiaaGreatDoor
namespace Go.Proofs.YtaielcdfcgpbiaaGreatDoor
open Go.Ab
def zk (l:List UInt8):Nat×Nat:=if l=[] then (0,0) else if Lib.decodeL l=(65533,1) then (0,0) else Lib.decodeL l
def cv (v0:Nat) (b:Nat→Nat):Nat→Nat
 | 0=>v0
 | j+1=>cv v0 b j*64+b (j+1) % 64
theorem zgL {l:List UInt8} (hne:l≠[]) (h:(zk l).2≠0):Lib.validD l=Lib.validD (l.drop (zk l).2)∧(zk l).2≤l.length:=by
 unfold zk at h ⊢
 rw[if_neg hne] at h ⊢
 split at h
 ·simp at h
 ·rename_i e
  rw[if_neg e]
  refine⟨?_,Lib.decodeL_le l hne⟩
  rw[Lib.validD_step l hne,if_neg]
  rintro⟨a,b⟩
  exact e (Prod.ext a b)
open Go.Lib
end Go.Proofs.YtaielcdfcgpbiaaGreatDoor
namespace Go.Proofs.YtaielcdfcgpbiaaGreatDoor
open Go.Ab
open Go.Lib
structure DecOk (l:List UInt8) (c k:Nat):Prop where
 enc:yM c=l.take k
 le:c≤1114111
 pos:1≤k
 len:k≤l.length
 one:k=1→c=(l.getD 0 0).toNat∧(l.getD 0 0).toNat<128
 high:k≠1→∀ x∈l.take k,128≤x.toNat
theorem YM {n:Nat} {b:UInt8} (h:n=b.toNat):UInt8.ofNat n=b:=UInt8.toNat_inj.1 (by rw[UInt8.toNat_ofNat',h];have:=b.toNat_lt;omega)
theorem zkB {b0 b1:UInt8} {t:List UInt8} (h0:b0.toNat / 32=6) (h1:b1.toNat / 64=2) (hc:128≤b0.toNat % 32*64+b1.toNat % 64):DecOk (b0::b1::t) (b0.toNat % 32*64+b1.toNat % 64) 2:=by
 refine⟨?_,by omega,by omega,by simp,fun h=>by omega,fun _ x hx=>?_⟩
 ·unfold yM
  rw[if_neg (by omega),if_pos (by omega)]
  simp only[zbn,List.take_zero,List.cons.injEq,and_true]
  exact⟨YM (by omega),YM (by omega)⟩
 ·simp only[zbn,List.take_zero,List.mem_cons,List.not_mem_nil,or_false] at hx
  rcases hx with rfl|rfl<;>omega
theorem zim {b0 b1 b2:UInt8} {t:List UInt8} (h0:b0.toNat / 16=14) (h1:b1.toNat / 64=2) (h2:b2.toNat / 64=2) (hc:2048≤b0.toNat % 16*4096+b1.toNat % 64*64+b2.toNat % 64) :
  DecOk (b0::b1::b2::t) (b0.toNat % 16*4096+b1.toNat % 64*64+b2.toNat % 64) 3:=by
 refine⟨?_,by omega,by omega,by simp,fun h=>by omega,fun _ x hx=>?_⟩
 ·unfold yM
  rw[if_neg (by omega),if_neg (by omega),if_pos (by omega)]
  simp only[zbn,List.take_zero,List.cons.injEq,and_true]
  exact⟨YM (by omega),YM (by omega),YM (by omega)⟩
 ·simp only[zbn,List.take_zero,List.mem_cons,List.not_mem_nil,or_false] at hx
  rcases hx with rfl|rfl|rfl<;>omega
theorem zjN {b0 b1 b2 b3:UInt8} {t:List UInt8} (h0:b0.toNat / 8=30) (h1:b1.toNat / 64=2) (h2:b2.toNat / 64=2) (h3:b3.toNat / 64=2)
  (hc:65536≤b0.toNat % 8*262144+b1.toNat % 64*4096+b2.toNat % 64*64+b3.toNat % 64) (hd:b0.toNat % 8*262144+b1.toNat % 64*4096+b2.toNat % 64*64+b3.toNat % 64≤1114111) :
  DecOk (b0::b1::b2::b3::t) (b0.toNat % 8*262144+b1.toNat % 64*4096+b2.toNat % 64*64+b3.toNat % 64) 4:=by
 refine⟨?_,by omega,by omega,by simp,fun h=>by omega,fun _ x hx=>?_⟩
 ·unfold yM
  rw[if_neg (by omega),if_neg (by omega),if_neg (by omega)]
  simp only[zbn,List.take_zero,List.cons.injEq,and_true]
  exact⟨YM (by omega),YM (by omega),YM (by omega),YM (by omega)⟩
 ·simp only[zbn,List.take_zero,List.mem_cons,List.not_mem_nil,or_false] at hx
  rcases hx with rfl|rfl|rfl|rfl<;>omega
theorem zhh {l:List UInt8} (hne:l≠[]) (h:decodeL l≠(65533,1)):DecOk l (decodeL l).1 (decodeL l).2:=by
 rw[decodeL_N] at h ⊢
 obtain⟨b0,t,rfl⟩:∃ b0 t,l=b0::t:=by cases l with|nil=>exact absurd rfl hne|cons a b=>exact⟨a,b,rfl⟩
 simp only[List.getD_cons_zero,List.getD_cons_succ] at h ⊢
 unfold decodeN at h ⊢
 split at h
 ·rename_i h0
  rw[if_pos h0]
  refine⟨?_,by simp only;omega,by simp,by simp,fun _=>⟨by simp,by simpa using h0⟩,fun h=>absurd rfl h⟩
  simp only
  unfold yM
  rw[if_pos (by omega)]
  simp only[zbn,List.take_zero,List.cons.injEq,and_true]
  exact YM rfl
 ·rename_i h0
  rw[if_neg h0]
  split at h
  ·rename_i h1
   rw[if_pos h1]
   split at h
   ·rename_i h2
    rw[if_pos h2]
    obtain⟨b1,t,rfl⟩:∃ b1 r,t=b1::r:=by cases t with|nil=>simp at h1|cons a b=>exact⟨a,b,rfl⟩
    exact zkB h1.1 (by simpa using h1.2.2) (by simpa using h2)
   ·exact absurd rfl h
  ·rename_i h1
   rw[if_neg h1]
   split at h
   ·rename_i h2
    rw[if_pos h2]
    split at h
    ·rename_i h3
     rw[if_pos h3]
     obtain⟨b1,t,rfl⟩:∃ b1 r,t=b1::r:=by cases t with|nil=>simp at h2|cons a b=>exact⟨a,b,rfl⟩
     obtain⟨b2,t,rfl⟩:∃ b2 r,t=b2::r:=by cases t with|nil=>simp at h2|cons a b=>exact⟨a,b,rfl⟩
     exact zim h2.1 (by simpa using h2.2.1.2) (by simpa using h2.2.2.2) (by simpa using h3.1)
    ·exact absurd rfl h
   ·rename_i h2
    rw[if_neg h2]
    split at h
    ·rename_i h3
     rw[if_pos h3]
     split at h
     ·rename_i h4
      rw[if_pos h4]
      obtain⟨b1,t,rfl⟩:∃ b1 r,t=b1::r:=by cases t with|nil=>simp at h3|cons a b=>exact⟨a,b,rfl⟩
      obtain⟨b2,t,rfl⟩:∃ b2 r,t=b2::r:=by cases t with|nil=>simp at h3|cons a b=>exact⟨a,b,rfl⟩
      obtain⟨b3,t,rfl⟩:∃ b3 r,t=b3::r:=by cases t with|nil=>simp at h3|cons a b=>exact⟨a,b,rfl⟩
      exact zjN h3.1 (by simpa using h3.2.1.2) (by simpa using h3.2.2.1.2) (by simpa using h3.2.2.2.2) (by simpa using h4.1) (by have:=h4.2;simp at this ⊢;omega)
     ·exact absurd rfl h
    ·exact absurd rfl h
theorem ZJ {l:List UInt8} (hne:l≠[]) (hv:validD l=true):DecOk l (zk l).1 (zk l).2∧validD (l.drop (zk l).2)=true:=by
 rw[validD_step l hne] at hv
 split at hv
 ·cases hv
 ·rename_i h
  have h':decodeL l≠(65533,1):=fun e=>h ⟨by rw[e],by rw[e]⟩
  have e:zk l=decodeL l:=by unfold zk;rw[if_neg hne,if_neg h']
  rw[e]
  exact⟨zhh hne h',hv⟩
theorem zb6 {may:UInt8→Bool}:∀(n m:Nat) (t:List UInt8) (q:Sd),t.length<n→t.length<m→YS may n t q=YS may m t q
 | 0,_,_,_,h,_=>by omega
 | _,0,_,_,_,h=>by omega
 | _+1,_+1,[],_,_,_=>rfl
 | n+1,m+1,c::t,q,h1,h2=>by
  simp only[Al2] at h1 h2
  simp only[YS]
  split
  ·rfl
  ·split
   ·cases he:Ye q t with
    | none=>rfl
    | some x =>
     have:=(zbV (q':=x.1) (t':=x.2) he).2
     exact zb6 n m x.2 x.1 (by omega) (by omega)
   ·split
    ·exact zb6 n m t _ (by omega) (by omega)
    ·rfl
def Y6 (may:UInt8→Bool) (t:List UInt8) (q:Sd):Option (Sd×List UInt8):=YS may (t.length+1) t q
theorem zh1 (may:UInt8→Bool) (t:List UInt8) (q:Sd):Y6 may (34::t) q=some (yo q,t):=by simp[Y6,YS]
theorem zh2 (may:UInt8→Bool) (t:List UInt8) (q:Sd):Y6 may (92::t) q=match Ye q t with|none=>none|some (q',t')=>Y6 may t' q':=by
 unfold Y6
 simp only[Al2,YS]
 rw[if_neg (by decide),if_pos trivial]
 cases he:Ye q t with
 | none=>rfl
 | some x =>
  have:=(zbV (q':=x.1) (t':=x.2) he).2
  exact zb6 _ _ x.2 x.1 (by omega) (by omega)
theorem zjm (may:UInt8→Bool) {c:UInt8} (t:List UInt8) (q:Sd) (h1:c≠34) (h2:c≠92):Y6 may (c::t) q=if may c then Y6 may t (q.put c) else none:=by
 unfold Y6
 simp only[Al2,YS]
 rw[if_neg h1,if_neg h2]
def zmS (x:Option (Sd×List UInt8)):Option (List UInt8×List UInt8):=match x with
 | some (q,t')=>if q.ok then some (q.b,t') else none
 | none=>none
theorem zlW (may:UInt8→Bool) (t:List UInt8):Yd may t=zmS (Y6 may t ⟨[],[],true⟩):=rfl
def yi (c:UInt8):Bool:=decide (c≠10)&&decide (c≠13)
theorem zez:∀(bs t out:List UInt8),(∀ x∈bs,128≤x.toNat)→Y6 yi (bs++t) ⟨out,[],true⟩=Y6 yi t ⟨out++bs,[],true⟩
 | [],t,out,_=>by simp
 | b::bs,t,out,h=>by
  have hb:=h b (.head _)
  have h0:∀ n:UInt8,n.toNat<128→b≠n:=fun n hn e=>by subst e;omega
  rw[Al6,zjm yi _ _ (h0 34 (by decide)) (h0 92 (by decide)),if_pos (by simp[yi,h0 10 (by decide),h0 13 (by decide)])]
  have e:Sd.put ⟨out,[],true⟩ b=⟨out++[b],[],true⟩:=by simp[Sd.put,yo,zt]
  rw[e,zez bs t (out++[b]) fun x hx=>h x (.tail _ hx)]
  simp
theorem zh9 {l out:List UInt8} {us:List Nat} {tt:List UInt8} (hj:zt us=some tt) {c k:Nat} (h:DecOk l c k) (hne:l≠[]) (h1:l.getD 0 0≠34) (h2:l.getD 0 0≠92) (h3:yi (l.getD 0 0)=true) :
  Y6 yi l ⟨out,us,true⟩=Y6 yi (l.drop k) ⟨out++tt++l.take k,[],true⟩:=by
 obtain⟨b,t,rfl⟩:∃ b t,l=b::t:=by cases l with|nil=>exact absurd rfl hne|cons a b=>exact⟨a,b,rfl⟩
 simp only[List.getD_cons_zero] at h1 h2 h3
 obtain⟨m,rfl⟩:∃ m,k=m+1:=⟨k-1,by have:=h.pos;omega⟩
 rw[zjm yi t _ h1 h2,if_pos h3]
 have e:Sd.put ⟨out,us,true⟩ b=⟨out++tt++[b],[],true⟩:=by simp[Sd.put,yo,hj]
 rw[e,List.drop_succ_cons,zbn]
 by_cases hm:m=0
 ·subst hm;simp
 ·have hh:=h.high (by omega)
  rw[zbn] at hh
  have:=zez (t.take m) (t.drop m) (out++tt++[b]) fun x hx=>hh x (.tail _ hx)
  rw[List.take_append_drop] at this
  rw[this];simp
def Za:List UInt8:=[46,46,46]
def zar:List UInt8:=[33,36,38,40,41,58,61,64,91,93,123,124,125]
def zdO:List UInt8→Bool
 | [c]=>decide (0≤Lib.indexByte zar c)
 | _=>false
def zi (t:Tok):Bool:=if t.k=1 then decide (t.s=Za)||zdO t.s else if t.k=2 then zq t.s else if t.k=3∨t.k=4 then decide (ZR t.s=t.k) else if t.k=5 then validD t.s else false
def ym (u:Nat):List UInt8:=[92,117,hexL.getD (u / 4096 % 16) 0,hexL.getD (u / 256 % 16) 0,hexL.getD (u / 16 % 16) 0,hexL.getD (u % 16) 0]
def yy (c:Nat) (bs:List UInt8):List UInt8 :=
 if c=34∨c=92 then [92,UInt8.ofNat c] else if c=10 then [92,110] else if c<32 then ym c
 else if 65536≤c then ym (55296+(c-65536) / 1024)++ym (56320+(c-65536) % 1024) else bs
def yu:Nat→List UInt8→List UInt8
 | 0,_=>[]
 | n+1,l=>if l=[] then [] else yy (zk l).1 (l.take (zk l).2)++yu n (l.drop (zk l).2)
def ze7 (s:List UInt8):List UInt8:=34::(yu s.length s++[34])
def ZN (t:Tok):List UInt8:=if t.k=5 then ze7 t.s else t.s
def yr (l:List Tok):List UInt8:=Lib.join (l.map ZN) [32]
def Zg (l:List Tok):List UInt8×Bool:=if l.all zi then (yr l,true) else ([],false)
def zS:List UInt8→List UInt8→List (List UInt8)
 | cur,[]=>[cur]
 | cur,[c]=>if c=10∨c=13 then [cur,[]] else [cur++[c]]
 | cur,c::d::r=>if c=10 then cur::zS [] (d::r) else if c=13 then (if d=10 then cur::zS [] r else cur::zS [] (d::r)) else zS (cur++[c]) (d::r)
def zv (s:List UInt8):List (List UInt8):=zS [] s
def zd3 (c:UInt8):Bool:=decide (c=9)||decide (c=32)
def Yl (s:List UInt8):Nat:=(s.takeWhile zd3).length
def zU (s:List UInt8):Bool:=s.all zd3
def zbz:List (List UInt8)→Int→Int
 | [],a=>a
 | s::r,a=>zbz r (if zU s then a else if a<0∨(Yl s:Int)<a then Yl s else a)
def indM (l:List (List UInt8)):Int:=zbz l.tail (-1)
def zbe (l:List (List UInt8)):List (List UInt8):=match l with
 | []=>[]
 | x::r=>x::r.map fun s=>s.drop (indM l).toNat
def zbD (l:List (List UInt8)):List (List UInt8):=(l.reverse.dropWhile zU).reverse
def yv (raw:List UInt8):List UInt8:=Lib.join (zbD ((zbe (zv raw)).dropWhile zU)) [10]
def zK:List UInt8:=[34,34,34]
def zfR:List UInt8:=[92,34,34,34]
def zeV:List UInt8:=[239,187,191]
def Zf:Nat→List UInt8→List UInt8→Option (List UInt8×List UInt8)
 | 0,_,_=>none
 | n+1,raw,t=>match t with
  | []=>none
  | c::r=>if zK.isPrefixOf (c::r) then some (raw,r.drop 2) else if zfR.isPrefixOf (c::r) then Zf n (raw++zK) (r.drop 3) else Zf n (raw++[c]) r
def yK (c:UInt8):Bool:=!(decide (c=10)||decide (c=13))
def Zi:List UInt8→Nat
 | []=>0
 | c::r=>if c=9∨c=10∨c=13∨c=32∨c=44 then 1 else if zeV.isPrefixOf (c::r) then 3 else if c=35 then 1+(r.takeWhile yK).length else 0
def yk (s:List UInt8):Nat:=(s.takeWhile fun c=>isL c||isD c).length
def yF:List UInt8→Option (Tok×List UInt8)
 | []=>none
 | c::r=>if zK.isPrefixOf (c::r) then (Zf (r.length+1) [] (r.drop 2)).map fun x=>(⟨5,yv x.1⟩,x.2)
  else if c=34 then (Yd yi r).map fun x=>(⟨5,x.1⟩,x.2)
  else if Za.isPrefixOf (c::r) then some (⟨1,Za⟩,r.drop 2)
  else if 0≤Lib.indexByte zar c then some (⟨1,[c]⟩,r)
  else if isL c then some (⟨2,(c::r).take (yk (c::r))⟩,(c::r).drop (yk (c::r)))
  else if (z1 (c::r)).1=0 then none
  else if ((c::r).drop (z1 (c::r)).1).head?.any fun d=>isL d||isD d||decide (d=46) then none
  else some (⟨(z1 (c::r)).2,(c::r).take (z1 (c::r)).1⟩,(c::r).drop (z1 (c::r)).1)
def y8:Nat→List Tok→List UInt8→Except Int (List Tok)
 | 0,_,_=>.error 0
 | n+1,l,t=>if t=[] then .ok l else if Zi t≠0 then y8 n l (t.drop (Zi t)) else match yF t with
  | none=>.error 2
  | some (x,t')=>y8 n (l++[x]) t'
def YD (c:Nat):Bool:=decide (c=9)||(decide (c=10)||(decide (c=13)||(decide (32≤c)&&decide (c≤65535))))
def zfH:Nat→List UInt8→Bool
 | 0,_=>true
 | n+1,l=>if l=[] then true else decide (0<(zk l).2)&&(YD (zk l).1&&zfH n (l.drop (zk l).2))
def zck (s:List UInt8):Bool:=zfH s.length s
def Zs (s:List UInt8):Except Int (List Tok):=if 8192<s.length then .error 3 else if zck s then y8 (s.length+1) [] s else .error 2
theorem zmM (s:List UInt8):decodeGo ⟨s.toArray⟩=if s=[] then (65533,0) else decodeL s:=by
 unfold decodeGo
 cases s with
 | nil=>rfl
 | cons c r=>rw[if_neg (by simp[ByteArray.size]),if_neg (by simp)];rfl
theorem zkx (s:List UInt8):Pure Tryz.prog 169 [.str s] (.tup [.int .i32 ((if s=[] then (65533,0) else decodeL s:Nat×Nat).1),.int .i64 ((if s=[] then (65533,0) else decodeL s:Nat×Nat).2)]):=by
 refine Pure.of_below fun γ w vs ht hv=>?_
 rw[zhT hv]
 have h:=Tryz.utf8_DecodeRuneInString ⟨s.toArray⟩ w (zfU ht)
 rw[zmM] at h
 exact Calls.mono h fun e w' ⟨he,hb⟩=>⟨hb,_,he,zcM (.int _ _) (.int _ _)⟩
theorem zhI:Go.Proofs.Builder.Extra Tryz.prog Tryz.lays156_ren where
 sizeBuilder:=by kernel_rfl
 liesBuilder:=by kernel_rfl
 t5:=Tryz.underlying5
 a5:=Tryz.isAgg5
 z5:=Tryz.sizeOf5
 v5:=Tryz.zeroValue5
 infoByte:=by kernel_rfl
 cellsByte:=by kernel_rfl
 sizeByte:=by kernel_rfl
 neB5:=by decide
theorem Yf (l:List (List UInt8)) (sep:List UInt8) (hl:(Lib.join l sep).length≤140737488355328) (hn:l.length≤140737488355328):Pure Tryz.prog 63 [.sl .no 1 (cT l),.str sep] (.str (Lib.join l sep)):=by
 refine Pure.of_below fun γ w vs ht hv=>?_
 obtain⟨hlv,hr⟩:=hv
 match vs,hlv with
 | [v,u],_ =>
  have h0:=hr 0 _ _ rfl rfl
  cases hr 1 _ _ rfl rfl
  generalize hx:cT l=xs at h0
  cases h0 with
  | slnil _ _ ho =>
   have:l=[]:=by cases l with|nil=>rfl|cons a b=>simp[cT] at hx
   subst this
   exact(Any.strings_Join_none Tryz.lays156 zhI none 0 ⟨sep.toArray⟩ w).mono fun e w' ⟨he,hw⟩=>⟨by rw[hw];exact RowKit.Below.refl _ _,_,he,.str _⟩
  | sl0 _ _ a ho =>
   have:l=[]:=by cases l with|nil=>rfl|cons a b=>simp[cT] at hx
   subst this
   exact(Any.strings_Join_none Tryz.lays156 zhI (some a) 0 ⟨sep.toArray⟩ w).mono fun e w' ⟨he,hw⟩=>⟨by rw[hw];exact RowKit.Below.refl _ _,_,he,.str _⟩
  | sl _ _ _ b off cap cv hc hm hu hcell hrr ho =>
   subst hx
   have hcl:=yg l
   cases hl0:l with
   | nil =>
    subst hl0
    exact(Any.strings_Join_none Tryz.lays156 zhI (some ⟨b,off,none⟩) cap ⟨sep.toArray⟩ w).mono fun e w' ⟨he,hw⟩=>⟨by rw[hw];exact RowKit.Below.refl _ _,_,he,.str _⟩
   | cons x0 r0 =>
    have hcells:∀(j:Nat) x,(l.map fun s=>(⟨s.toArray⟩:ByteArray))[j]?=some x→w.cell? ⟨b,off+j,none⟩=some (.string x):=fun j x hj=>by
     rw[yU,Yi] at hj
     obtain⟨s,h1,rfl⟩:=hj
     have g1:(cT l)[j]?=some [.str s]:=by simp[cT,h1]
     have h2:=hcell j _ g1 0 (by decide)
     have h3:=hrr j _ g1 0 (.str s) rfl
     have e:off+(j*1+0)=off+j:=by omega
     rw[e] at h2
     generalize cv j 0=y at h2 h3
     cases h3
     exact h2.1
    have hbk:b<w.heap.size:=by
     have:=hcells 0 ⟨x0.toArray⟩ (by rw[hl0];rfl)
     exact World.block_lt_of_cell? w _ this
    have hmap:(l.map fun s=>(⟨s.toArray⟩:ByteArray)).map (·.data.toList)=l:=by
     rw[List.map_map];exact(List.map_congr_left (g:=id) fun s _=>by simp).trans (List.map_id l)
    have h:=Any.strings_Join Tryz.lays156 zhI b off cap (l.map fun s=>(⟨s.toArray⟩:ByteArray)) ⟨sep.toArray⟩ w hcells hbk (by simpa using hn) (by rw[List.length_map];omega) (by rw[hmap];exact hl)
    rw[List.length_map,hmap] at h
    rw[← hl0,hcl]
    exact h.mono fun e w' ⟨he,hb⟩=>⟨hb,_,he,.str _⟩
theorem zjc (s:List UInt8) (i:Nat) (hi:i<s.length) (hs:s.length≤Lim):Pure Tryz.prog 115 [.str s,.int .i64 i] (.tup [.int .i64 (zk (s.drop i)).1,.int .i64 (zk (s.drop i)).2]):=by
 refine Pure.go ir115 ck115 (Al4 _) fun KP Q hQ=>?_
 simp only[Lim] at hs
 have hne:s.drop i≠[]:=fun e=>by have:=congrArg List.length e;simp at this;omega
 have h1:¬ ((i:Int)<0):=by omega
 have h2:¬ ((s.length:Int)≤i):=by omega
 have h3:((i:Int)≤s.length)=True:=eq_true (by omega)
 simp(disch:=first|omega|assumption) only[ir115,h1,h2,h3,go_sem]
 refine goK_pure (zkx (s.drop i)) ?_
 have hw:=decodeL_width (s.drop i)
 have hr:=decodeL_rune (s.drop i)
 unfold zk at hQ
 simp only[hne,if_false] at hQ ⊢
 generalize decodeL (s.drop i)=x at *
 obtain⟨c,k⟩:=x
 simp only at hw hr hQ
 have e:IntKind.wrap .i64 (c:Int)=c:=wrap64 (by omega) (by omega)
 by_cases hc:c=65533
 ·have g1:((c:Int)=65533)=True:=eq_true (by omega)
  by_cases hk:k<2
  ·have g2:((k:Int)<2)=True:=eq_true (by omega)
   have e1:(c,k)=(65533,1):=by rw[hc];congr 1;omega
   rw[if_pos e1] at hQ
   simp(disch:=first|omega|assumption) only[g1,g2,go_sem]
   exact hQ _ _ _ _ nofun rfl (by simp[tupOf,envOf,AV.strip,AV.strip1])
  ·have g2:¬ ((k:Int)<2):=by omega
   have e1:¬ ((c,k)=(65533,1)):=fun h=>by cases h;omega
   rw[if_neg e1] at hQ
   simp(disch:=first|omega|assumption) only[g1,g2,e,go_sem]
   exact hQ _ _ _ _ nofun rfl (by simp[tupOf,envOf,AV.strip,AV.strip1])
 ·have g1:¬ ((c:Int)=65533):=by omega
  have e1:¬ ((c,k)=(65533,1)):=fun h=>by cases h;omega
  rw[if_neg e1] at hQ
  simp(disch:=first|omega|assumption) only[g1,e,go_sem]
  exact hQ _ _ _ _ nofun rfl (by simp[tupOf,envOf,AV.strip,AV.strip1])
theorem zmV (c:Nat) (h:c≤1114111):Pure Tryz.prog 116 [.int .i64 c] (.bool (YD c)):=by
 refine Pure.go ir116 ck116 (Al4 _) fun KP Q hQ=>?_
 by_cases h1:c=9
 ·have g:((c:Int)=9)=True:=eq_true (by omega)
  simp(disch:=first|omega|assumption) only[ir116,g,go_sem]
  exact hQ _ _ _ _ nofun rfl (by simp[tupOf,envOf,AV.strip,AV.strip1,YD,h1])
 have g1:¬ ((c:Int)=9):=by omega
 by_cases h2:c=10
 ·have g:((c:Int)=10)=True:=eq_true (by omega)
  simp(disch:=first|omega|assumption) only[ir116,g1,g,go_sem]
  exact hQ _ _ _ _ nofun rfl (by simp[tupOf,envOf,AV.strip,AV.strip1,YD,h2])
 have g2:¬ ((c:Int)=10):=by omega
 by_cases h3:c=13
 ·have g:((c:Int)=13)=True:=eq_true (by omega)
  simp(disch:=first|omega|assumption) only[ir116,g1,g2,g,go_sem]
  exact hQ _ _ _ _ nofun rfl (by simp[tupOf,envOf,AV.strip,AV.strip1,YD,h3])
 have g3:¬ ((c:Int)=13):=by omega
 by_cases h4:32≤c
 ·have g4:((32:Int)≤c)=True:=eq_true (by omega)
  by_cases h5:c≤65535
  ·have g5:((c:Int)≤65535)=True:=eq_true (by omega)
   simp(disch:=first|omega|assumption) only[ir116,g1,g2,g3,g4,g5,go_sem]
   exact hQ _ _ _ _ nofun rfl (by simp[tupOf,envOf,AV.strip,AV.strip1,YD,h4,h5])
  ·have g5:¬ ((c:Int)≤65535):=by omega
   simp(disch:=first|omega|assumption) only[ir116,g1,g2,g3,g4,g5,go_sem]
   exact hQ _ _ _ _ nofun rfl (by simp[tupOf,envOf,AV.strip,AV.strip1,YD,h1,h2,h3,h5])
 ·have g4:¬ ((32:Int)≤c):=by omega
  simp(disch:=first|omega|assumption) only[ir116,g1,g2,g3,g4,go_sem]
  exact hQ _ _ _ _ nofun rfl (by simp[tupOf,envOf,AV.strip,AV.strip1,YD,h1,h2,h3,h4])
def y1:Nat→List UInt8→List Nat
 | 0,_=>[]
 | n+1,l=>if l=[] then [] else (if 65536≤(zk l).1 then [55296+((zk l).1-65536) / 1024,56320+((zk l).1-65536) % 1024] else [(zk l).1])++y1 n (l.drop (zk l).2)
theorem yT (n:Nat):y1 n []=[]:=by cases n<;>simp[y1]
theorem zcu:∀(n m:Nat) (l:List UInt8),l.length≤n→l.length≤m→validD l=true→y1 n l=y1 m l
 | 0,m,l,h,_,_=>by rw[Ze.1 (by omega:l.length=0),yT,yT]
 | n,0,l,_,h,_=>by rw[Ze.1 (by omega:l.length=0),yT,yT]
 | n+1,m+1,l,h1,h2,hv=>by
  by_cases hne:l=[]
  ·subst hne;rw[yT,yT]
  ·obtain⟨hd,hv2⟩:=ZJ hne hv
   have:=hd.pos
   have:=hd.len
   simp only[y1,hne,if_false]
   rw[zcu n m _ (by simp;omega) (by simp;omega) hv2]
theorem zj2 (n:Nat):((n:Int)).tdiv 1024=((n / 1024:Nat):Int):=by rw[Int.tdiv_eq_ediv_of_nonneg (by omega)];omega
theorem zjM (n:Nat):((n:Int)).tmod 1024=((n % 1024:Nat):Int):=by rw[Int.tmod_eq_emod_of_nonneg (by omega)];omega
theorem zlY (s:List UInt8) (hv:validD s=true) (hs:s.length≤Lim):Pure Tryz.prog 131 [.str s] (.tup [.sl .no 1 (cU (y1 s.length s)),.bool true]):=by
 refine Pure.go ir131 ck131 (Al4 _) fun KP Q hQ=>?_
 have hs':=hs
 simp only[Lim] at hs
 simp(disch:=first|omega|assumption) only[ir131,go_sem]
 refine goL_st (fun x:Own×List Nat×Nat=>[(4,.sl x.1 1 (cU x.2.1)),(5,.int .i64 x.2.2)])
  (fun x H=>x.2.2≤s.length∧x.2.1.length≤2*x.2.2∧y1 s.length s=x.2.1++y1 (s.drop x.2.2).length (s.drop x.2.2)∧validD (s.drop x.2.2)=true∧OwnS Heap.emp .nil H x.1 x.2.1.length 1) (fun x=>s.length-x.2.2) (.nil,[],0) (by simp(disch:=first|omega|assumption) only[cU,go_sem]) ⟨by simp,by simp,by simp,by simpa using hv,OwnS.refl rfl⟩ ?_
 rintro⟨o,acc,i⟩ H J ⟨hi,hai,hc,hv,hs1⟩ hJ
 simp only at hi hai hc hv hs1
 by_cases hlt:i<s.length
 case neg =>
  have hlt':¬ (i:Int)<s.length:=by omega
  rw[List.drop_of_length_le (by omega)] at hc
  rw[yT,List.append_nil] at hc
  simp(disch:=first|omega|assumption) only[hlt',go_sem]
  exact hQ _ _ _ _ nofun rfl (by simp[tupOf,envOf,AV.strip,AV.strip1,hc])
 have hlt':(i:Int)<s.length:=by omega
 have hne:s.drop i≠[]:=fun e=>by have:=congrArg List.length e;simp at this;omega
 have hcl:=zeT acc
 obtain⟨hd,hv2⟩:=ZJ hne hv
 have hp:=hd.pos
 have hle:=hd.len
 have hmax:=hd.le
 have hst:y1 (s.drop i).length (s.drop i)=(if 65536≤(zk (s.drop i)).1 then [55296+((zk (s.drop i)).1-65536) / 1024,56320+((zk (s.drop i)).1-65536) % 1024] else [(zk (s.drop i)).1])++y1 ((s.drop i).drop (zk (s.drop i)).2).length ((s.drop i).drop (zk (s.drop i)).2):=by
  obtain⟨n,hn⟩:∃ n,(s.drop i).length=n+1:=⟨(s.drop i).length-1,by omega⟩
  rw[hn,y1,if_neg hne,zcu n _ _ (by simp at hn ⊢;omega) (Al4 _) hv2]
 simp(disch:=first|omega|assumption) only[hlt',go_sem]
 refine goK_pure (zjc s i hlt hs') ?_
 rw[hst] at hc
 rw[List.drop_drop] at hc hv2
 rw[Zv] at hle
 generalize (zk (s.drop i)).1=c at *
 generalize (zk (s.drop i)).2=k at *
 have h0':¬ ((k:Int)=0):=by omega
 by_cases hc6:65536≤c
 ·have g:((65536:Int)≤c)=True:=eq_true (by omega)
  have w1:IntKind.wrap .i64 ((c:Int)-65536)=((c-65536:Nat):Int):=by rw[wrap64 (by omega) (by omega)];omega
  have w2:IntKind.wrap .i64 (((c-65536) / 1024:Nat):Int)=(((c-65536) / 1024:Nat):Int):=wrap64 (by omega) (by omega)
  have w3:IntKind.wrap .i64 (55296+(((c-65536) / 1024:Nat):Int))=((55296+(c-65536) / 1024:Nat):Int):=by rw[wrap64 (by omega) (by omega)];omega
  have w4:IntKind.wrap .i64 (56320+(((c-65536) % 1024:Nat):Int))=((56320+(c-65536) % 1024:Nat):Int):=by rw[wrap64 (by omega) (by omega)];omega
  rw[if_pos hc6] at hc
  simp(disch:=first|omega|assumption) only[h0',g,w1,zj2,zjM,w2,w3,w4,go_sem]
  refine goP_ownS (by rw[hcl];exact hs1.own) (by simp only[hcl,Al2,Al3];omega) (by simp only[hcl,Al2,Al3,maxLen];omega) fun o' H' hs2=>?_
  simp(disch:=first|omega|assumption) only[wrap64,go_sem]
  exact goJ (hJ (o',acc++[55296+(c-65536) / 1024,56320+(c-65536) % 1024],i+k) H' (by simp only;omega) ⟨by simp only;omega,by simp;omega,by rw[hc];simp,hv2,hs1.trans (by simpa[hcl] using hs2)⟩) (by simp(disch:=first|omega|assumption) only[cU,List.map_append,Int.natCast_add,go_sem])
 ·have g:¬ ((65536:Int)≤c):=by omega
  rw[if_neg hc6] at hc
  simp(disch:=first|omega|assumption) only[h0',g,go_sem]
  refine goP_ownS (by rw[hcl];exact hs1.own) (by simp only[hcl,Al2,Al3];omega) (by simp only[hcl,Al2,Al3,maxLen];omega) fun o' H' hs2=>?_
  simp(disch:=first|omega|assumption) only[wrap64,go_sem]
  exact goJ (hJ (o',acc++[c],i+k) H' (by simp only;omega) ⟨by simp only;omega,by simp;omega,by rw[hc];simp,hv2,hs1.trans (by simpa[hcl] using hs2)⟩) (by simp(disch:=first|omega|assumption) only[cU,List.map_append,Int.natCast_add,go_sem])
theorem ziv {n n' b0 b1 b2 b3 c1 c2 c3 c k:Nat} (h:decodeN n b0 b1 b2 b3=(c,k)) (hv:(c,k)≠(65533,1)) (hn:k≤n') (h1:1<k→c1=b1) (h2:2<k→c2=b2) (h3:3<k→c3=b3):decodeN n' b0 c1 c2 c3=(c,k):=by
 unfold decodeN at h
 split at h
 ·rename_i h0
  unfold decodeN
  rw[if_pos h0,h]
 rename_i h0
 split at h
 ·rename_i hA
  split at h
  ·rename_i hB
   cases h
   unfold decodeN
   rw[if_neg h0,h1 (by decide),if_pos ⟨hA.1,by omega,hA.2.2⟩,if_pos hB]
  ·exact absurd h.symm hv
 rename_i hA
 split at h
 ·rename_i hB
  split at h
  ·rename_i hC
   cases h
   unfold decodeN
   rw[if_neg h0,h1 (by decide),h2 (by decide),if_neg (by omega),if_pos ⟨hB.1,⟨by omega,hB.2.1.2⟩,by omega,hB.2.2.2⟩,if_pos hC]
  ·exact absurd h.symm hv
 rename_i hB
 split at h
 ·rename_i hC
  split at h
  ·rename_i hD
   cases h
   unfold decodeN
   rw[if_neg h0,h1 (by decide),h2 (by decide),h3 (by decide),if_neg (by omega),if_neg (by omega),if_pos ⟨hC.1,⟨by omega,hC.2.1.2⟩,⟨by omega,hC.2.2.1.2⟩,by omega,hC.2.2.2.2⟩,if_pos hD]
  ·exact absurd h.symm hv
 ·exact absurd h.symm hv
theorem zca {l:List UInt8} (hne:l≠[]) (h:(zk l).2≠0):zk l=decodeL l∧decodeL l≠(65533,1):=by
 unfold zk at h ⊢
 rw[if_neg hne] at h ⊢
 split at h
 ·exact absurd rfl h
 ·rename_i h2;rw[if_neg h2];exact⟨rfl,h2⟩
theorem zbr {l:List UInt8} (hne:l≠[]) (h:(zk l).2≠0) (t:List UInt8):zk (l.take (zk l).2++t)=zk l:=by
 obtain⟨e,hv⟩:=zca hne h
 have hk:=decodeL_le l hne
 rw[e]
 generalize hd:decodeL l=x at *
 obtain⟨c,k⟩:=x
 simp only at *
 have h2:decodeL (l.take k++t)=(c,k):=by
  rw[decodeL_N] at hd ⊢
  have hg:∀ j,j<k→(l.take k++t).getD j 0=l.getD j 0:=fun j hj=>by
   simp only[List.getD_eq_getElem?_getD]
   rw[zba (by simp;omega),List.getElem?_take_of_lt hj]
  have hk1:1≤k:=by rw[← show (decodeL l).2=k by rw[decodeL_N,hd]];exact decodeL_width l
  rw[hg 0 (by omega)]
  exact ziv hd hv (by simp;omega) (fun hj=>by rw[hg 1 hj]) (fun hj=>by rw[hg 2 hj]) fun hj=>by rw[hg 3 hj]
 have hne2:l.take k++t≠[]:=fun e=>by
  have h3:=congrArg List.length e
  have hk1:1≤k:=by rw[← show (decodeL l).2=k by rw[hd]];exact decodeL_width l
  have hl:0<l.length:=List.length_pos_iff.2 hne
  simp only[Al5,List.length_take,Al3] at h3;omega
 unfold zk
 rw[if_neg hne2,h2,if_neg hv]
theorem zfZ (b:UInt8) (t:List UInt8) (h:b.toNat<128):zk (b::t)=(b.toNat,1):=by
 unfold zk
 rw[if_neg (by simp),decodeL_ascii b t h,if_neg (by simp;omega)]
def zcc (r:List UInt8):Prop:=r=[]∨∃ c t,r=c::t∧(c=32∨c=10)
theorem zfP {r:List UInt8} (h:zcc r):zz r=0:=by
 rcases h with rfl|⟨c,t,rfl,rfl|rfl⟩
 ·rfl
 all_goals simp[zz,isD]
theorem zaL:∀(a:List UInt8) {r:List UInt8},zcc r→zz (a++r)=zz a
 | [],r,h=>zfP h
 | c::a,r,h=>by simp only[Al6,zz];rw[zaL a h]
theorem zf2 (a:List UInt8) {r:List UInt8} (h:zcc r):ZM (a++r)=ZM a:=by
 unfold ZM
 rw[zaL a h]
 cases a with
 | nil=>simp[zz]
 | cons c a=>simp
theorem zhl (a:List UInt8) {r:List UInt8} (h:zcc r):zp (a++r)=zp a:=by
 cases a with
 | nil =>
  have h1:=zfP h
  have h2:zp []=0:=rfl
  rw[Zh,h2]
  unfold zp
  rcases h with rfl|⟨c,t,rfl,rfl|rfl⟩
  ·rfl
  all_goals
   rw[if_neg (by simp)];unfold ZM;rw[if_pos h1]
 | cons c a =>
  by_cases hc:c=45
  ·subst hc;rw[Al6,zag,zag,zaL a h,zf2 a h]
  ·rw[ZC (s:=c::a++r) (by simp[hc]),ZC (s:=c::a) (by simp[hc]),zf2 (c::a) h]
theorem zh7 (a:List UInt8) {r:List UInt8} (h:zcc r):yO (a++r)=yO a:=by
 cases a with
 | nil=>rcases h with rfl|⟨c,t,rfl,rfl|rfl⟩<;>rfl
 | cons c a=>simp[yO,zaL a h]
theorem zj6 (a:List UInt8) {r:List UInt8} (h:zcc r):Yn (a++r)=Yn a:=by
 cases a with
 | nil =>
  rcases h with rfl|⟨c,t,rfl,rfl|rfl⟩
  ·rfl
  all_goals simp[Yn,isE]
 | cons c a =>
  have hs:sgN (a++r)=sgN a:=by
   cases a with
   | nil=>rcases h with rfl|⟨c,t,rfl,rfl|rfl⟩<;>simp[sgN]
   | cons d a=>simp[sgN]
  have hd:(a++r).drop (sgN a)=a.drop (sgN a)++r:=zdc (zgV a)
  simp only[Al6,Yn,hs,hd,zaL _ h]
theorem zgo {a:List UInt8} {r:List UInt8} (h:zcc r):z1 (a++r)=z1 a:=by
 have h1:=zb5 a
 have e1:(a++r).drop (zp a)=a.drop (zp a)++r:=zdc h1
 have h2:=zgm (a.drop (zp a))
 simp only[Zv] at h2
 have e2:(a++r).drop (zp a+yO (a.drop (zp a)))=a.drop (zp a+yO (a.drop (zp a)))++r:=zdc (by omega)
 unfold z1
 rw[zhl a h,e1,zh7 _ h,e2,zj6 _ h]
theorem zl0:∀ x:Fin 16,hexD (hexL.getD x.val 0)=some x.val:=by decide +kernel
theorem zlD (n:Nat):hexD (hexL.getD (n % 16) 0)=some (n % 16):=zl0 ⟨n % 16,Nat.mod_lt _ (by decide)⟩
theorem zgX {u:Nat} (h:u<65536) (t:List UInt8):Z8 (hexL.getD (u / 4096 % 16) 0::hexL.getD (u / 256 % 16) 0::hexL.getD (u / 16 % 16) 0::hexL.getD (u % 16) 0::t)=some u:=by
 simp only[Z8,ZX,zlD]
 congr 1
 omega
theorem zaX:∀(us vs:List Nat) (tt:List UInt8),zt us=some tt→zt (us++vs)=(zt vs).map (tt++·)
 | [],vs,tt,h=>by
  simp only[zt,Al1] at h;subst h
  rw[Zh]
  cases hj:zt vs<;>simp
 | [u],vs,tt,h=>by
  unfold zt at h
  rw[List.singleton_append]
  conv=>lhs;unfold zt
  split at h
  ·cases h
  ·rename_i h1
   rw[if_neg h1]
   split at h
   ·cases h
   ·rename_i h2
    rw[if_neg h2]
    simp only[zt,z8,Al1,List.append_nil] at h
    subst h;rfl
 | u::v::r,vs,tt,h=>by
  unfold zt at h
  rw[Al6]
  conv=>lhs;unfold zt
  split at h
  ·cases h
  ·rename_i h1
   rw[if_neg h1]
   split at h
   ·rename_i h2
    rw[if_pos h2]
    simp only[Al6] at h ⊢
    split at h
    ·cases h
    ·rename_i h3
     rw[if_neg h3]
     cases hj:zt r with
     | none=>rw[hj] at h;cases h
     | some x =>
      rw[hj] at h
      simp only[z8,Al1] at h
      rw[zaX r vs x hj]
      subst h
      cases zt vs<;>simp
   ·rename_i h2
    rw[if_neg h2]
    cases hj:zt (v::r) with
    | none=>rw[hj] at h;cases h
    | some x =>
     rw[hj] at h
     simp only[z8,Al1] at h
     rw[zaX (v::r) vs x hj]
     subst h
     cases zt vs<;>simp
theorem zix {u:Nat} (h1:u≤65535) (h2:u<55296∨57343<u):zt [u]=some (yM u):=by
 unfold zt;rw[if_neg (by omega),if_neg (by omega)];simp[zt]
theorem ziQ {c:Nat} (h1:65536≤c) (h2:c≤1114111):zt [55296+(c-65536) / 1024,56320+(c-65536) % 1024]=some (yM c):=by
 have e:65536+1024*(55296+(c-65536) / 1024-55296)+(56320+(c-65536) % 1024-56320)=c:=by omega
 unfold zt;rw[if_neg (by omega),if_pos (by omega)]
 simp only
 rw[if_neg (by omega),e]
 simp[zt]
theorem zcg {u:Nat} (h:u<65536) (t out:List UInt8) (us:List Nat):Y6 yi (ym u++t) ⟨out,us,true⟩=Y6 yi t ⟨out,us++[u],true⟩:=by
 simp only[ym,Al6,Zh]
 rw[zh2]
 simp only[Ye,if_true,zgX h,z8,List.drop_succ_cons,List.drop_zero]
theorem zdl {k:UInt8} {v:UInt8} (hk:k≠117) (h1:¬ Lib.indexByte zdN k<0) (h2:zlx.getD (Lib.indexByte zdN k).toNat 0=v) {us:List Nat} {tt:List UInt8} (hj:zt us=some tt) (t out:List UInt8) :
  Y6 yi (92::k::t) ⟨out,us,true⟩=Y6 yi t ⟨out++tt++[v],[],true⟩:=by
 rw[zh2]
 simp only[Ye,if_neg hk,if_neg h1,h2]
 simp[Sd.put,yo,hj]
theorem zdy {l:List UInt8} {c k:Nat} (h:DecOk l c k) (hc:c<128):k=1∧l.take k=[UInt8.ofNat c]∧(l.getD 0 0).toNat=c:=by
 have e:=h.enc
 have hl:(yM c).length=1:=by unfold yM;rw[if_pos (by omega)];rfl
 have hk:k=1:=by
  rw[e] at hl
  have:=h.len
  simp at hl;omega
 refine⟨hk,by rw[← e];unfold yM;rw[if_pos (by omega)],(h.one hk).1.symm⟩
theorem zm5 {l:List UInt8} (hne:l≠[]) (h:(zk l).2≠0):(zk l).1<55296∨57343<(zk l).1:=by
 obtain⟨e,hv⟩:=zca hne h
 rw[e]
 rw[decodeL_N] at hv ⊢
 generalize (l.getD 0 0).toNat=b0 at *
 generalize (l.getD 1 0).toNat=b1 at *
 generalize (l.getD 2 0).toNat=b2 at *
 generalize (l.getD 3 0).toNat=b3 at *
 unfold decodeN at hv ⊢
 repeat' split
 all_goals first|(simp only;omega)|(simp_all;done)|(simp_all;omega)
theorem zev:∀(n:Nat) (l out:List UInt8) (us:List Nat) (tt rest:List UInt8),l.length≤n→validD l=true→zt us=some tt→Y6 yi (yu n l++34::rest) ⟨out,us,true⟩=some (⟨out++tt++l,[],true⟩,rest)
 | 0,l,out,us,tt,rest,hn,_,hj=>by
  obtain rfl:l=[]:=Ze.1 (by omega)
  simp only[yu,Zh]
  rw[zh1];simp[yo,hj]
 | n+1,l,out,us,tt,rest,hn,hv,hj=>by
  rw[yu]
  by_cases hne:l=[]
  ·subst hne
   simp only[if_true,Zh]
   rw[zh1];simp[yo,hj]
  ·rw[if_neg hne]
   obtain⟨hd,hv2⟩:=ZJ hne hv
   have hpos:=hd.pos
   have hle:=hd.len
   have hsur:=zm5 hne (by omega)
   have hmax:=hd.le
   have hen:=hd.enc
   have hpre:=zbr hne (by omega:(zk l).2≠0)
   generalize (zk l).1=c at *
   generalize (zk l).2=k at *
   have hl:(l.drop k).length≤n:=by simp;omega
   have hcat:l.take k++l.drop k=l:=List.take_append_drop k l
   have ih:∀ out us tt,zt us=some tt→Y6 yi (yu n (l.drop k)++34::rest) ⟨out,us,true⟩=some (⟨out++tt++l.drop k,[],true⟩,rest):=fun out us tt hj=>zev n (l.drop k) out us tt rest hl hv2 hj
   have fin:∀ x:List UInt8,x=l.take k→out++tt++x++l.drop k=out++tt++l:=fun x hx=>by rw[hx,Yj,hcat]
   rw[Yj]
   unfold yy
   by_cases h1:c=34∨c=92
   ·rw[if_pos h1]
    obtain⟨rfl,ht,_⟩:=zdy hd (by omega)
    simp only[Al6,Zh]
    rcases h1 with rfl|rfl
    ·rw[zdl (v:=34) (by decide) (by decide) (by decide) hj,ih _ [] [] rfl,List.append_nil]
     exact congrArg some (Prod.ext (by simp only[Sd.mk.injEq,and_self,and_true];exact fin [34] (by rw[ht];rfl)) rfl)
    ·rw[zdl (v:=92) (by decide) (by decide) (by decide) hj,ih _ [] [] rfl,List.append_nil]
     exact congrArg some (Prod.ext (by simp only[Sd.mk.injEq,and_self,and_true];exact fin [92] (by rw[ht];rfl)) rfl)
   rw[if_neg h1]
   by_cases h2:c=10
   ·rw[if_pos h2]
    subst h2
    obtain⟨rfl,ht,_⟩:=zdy hd (by omega)
    simp only[Al6,Zh]
    rw[zdl (v:=10) (by decide) (by decide) (by decide) hj,ih _ [] [] rfl,List.append_nil]
    exact congrArg some (Prod.ext (by simp only[Sd.mk.injEq,and_self,and_true];exact fin [10] (by rw[ht];rfl)) rfl)
   rw[if_neg h2]
   by_cases h3:c<32
   ·rw[if_pos h3,zcg (by omega),ih out (us++[c]) (tt++yM c) (by rw[zaX us [c] tt hj,zix (by omega) (by omega)];rfl)]
    exact congrArg some (Prod.ext (by simp only[Sd.mk.injEq,and_self,and_true];rw[← Yj];exact fin (yM c) hen) rfl)
   rw[if_neg h3]
   by_cases h4:65536≤c
   ·rw[if_pos h4,Yj,zcg (by omega),zcg (by omega),ih out (us++[_]++[_]) (tt++yM c) (by rw[Yj,zaX us _ tt hj,List.singleton_append,ziQ h4 (by omega)];rfl)]
    exact congrArg some (Prod.ext (by simp only[Sd.mk.injEq,and_self,and_true];rw[← Yj];exact fin (yM c) hen) rfl)
   ·rw[if_neg h4]
    obtain⟨b,t,hbt⟩:∃ b t,l=b::t:=by cases l with|nil=>exact absurd rfl hne|cons a b=>exact⟨a,b,rfl⟩
    have hg:(l.take k++(yu n (l.drop k)++34::rest)).getD 0 0=l.getD 0 0:=by
     rw[hbt];obtain⟨m,rfl⟩:∃ m,k=m+1:=⟨k-1,by omega⟩;simp
    have hd2:DecOk (l.take k++(yu n (l.drop k)++34::rest)) c k:=by
     have htk:(l.take k++(yu n (l.drop k)++34::rest)).take k=l.take k:=List.take_left' (by simp;omega)
     exact⟨by rw[htk];exact hen,hmax,hpos,by simp;omega,fun e=>by rw[hg];exact hd.one e,fun e=>by rw[htk];exact hd.high e⟩
    have hb:(l.getD 0 0).toNat=c∨128≤(l.getD 0 0).toNat:=by
     by_cases hk1:k=1
     ·exact .inl (hd.one hk1).1.symm
     ·right
      refine hd.high hk1 _ ?_
      rw[hbt];obtain⟨m,rfl⟩:∃ m,k=m+1:=⟨k-1,by omega⟩;simp
    have hne0:∀ m:UInt8,m.toNat<128→m.toNat≠c→l.getD 0 0≠m:=fun m hm hc e=>by rw[e] at hb;omega
    rw[zh9 hj hd2 (by rw[hbt];obtain⟨m,rfl⟩:∃ m,k=m+1:=⟨k-1,by omega⟩;simp) (by rw[hg];exact hne0 34 (by decide) (by simp;omega)) (by rw[hg];exact hne0 92 (by decide) (by simp;omega))
     (by rw[hg];simp only[yi,Al0,zn];exact⟨hne0 10 (by decide) (by simp;omega),hne0 13 (by decide) (by simp;omega)⟩)]
    rw[List.take_left' (by simp;omega),List.drop_left' (by simp;omega),ih _ [] [] rfl,List.append_nil]
    exact congrArg some (Prod.ext (by simp only[Sd.mk.injEq,and_self,and_true];exact fin _ rfl) rfl)
theorem zie (s rest:List UInt8) (hv:validD s=true):Yd yi (yu s.length s++34::rest)=some (s,rest):=by
 rw[zlW,zev s.length s [] [] [] rest (Al4 _) hv rfl]
 simp[zmS]
theorem zaW (u:Nat):(ym u).length=6:=rfl
theorem zdA {l:List UInt8} {c k:Nat} (h:DecOk l c k):(yy c (l.take k)).length≤6*k:=by
 have hp:=h.pos
 have hl:=h.len
 have he:=h.enc
 unfold yy
 split
 ·simp;omega
 split
 ·simp;omega
 split
 ·rw[zaW];omega
 split
 ·have:k=4:=by
   have e:=congrArg List.length he
   unfold yM at e
   rw[if_neg (by omega),if_neg (by omega),if_neg (by omega)] at e
   simp at e;omega
  simp only[Al5,zaW];omega
 ·simp;omega
theorem Z7 (n:Nat):yu n []=[]:=by cases n<;>simp[yu]
theorem zc1:∀(n m:Nat) (l:List UInt8),l.length≤n→l.length≤m→validD l=true→yu n l=yu m l
 | 0,m,l,h,_,_=>by rw[Ze.1 (by omega:l.length=0),Z7,Z7]
 | n,0,l,_,h,_=>by rw[Ze.1 (by omega:l.length=0),Z7,Z7]
 | n+1,m+1,l,h1,h2,hv=>by
  by_cases hne:l=[]
  ·subst hne;rw[Z7,Z7]
  ·obtain⟨hd,hv2⟩:=ZJ hne hv
   have:=hd.pos
   have:=hd.len
   simp only[yu,hne,if_false]
   rw[zc1 n m _ (by simp;omega) (by simp;omega) hv2]
theorem zej:∀(n:Nat) (l:List UInt8),validD l=true→(yu n l).length≤6*l.length
 | 0,l,_=>by simp[yu]
 | n+1,l,hv=>by
  by_cases hne:l=[]
  ·subst hne;simp[yu]
  ·obtain⟨hd,hv2⟩:=ZJ hne hv
   have h1:=zdA hd
   have h2:=zej n _ hv2
   have h3:=hd.len
   simp only[yu,hne,if_false,Al5]
   simp only[Zv] at h2
   omega
def zec (l:List UInt8):List UInt8:=yu l.length l
theorem zg7 {l:List UInt8} (hne:l≠[]) (hv:validD l=true):zec l=yy (zk l).1 (l.take (zk l).2)++zec (l.drop (zk l).2):=by
 obtain⟨hd,hv2⟩:=ZJ hne hv
 have:=hd.pos
 have:=hd.len
 unfold zec
 obtain⟨n,hn⟩:∃ n,l.length=n+1:=⟨l.length-1,by omega⟩
 rw[hn,yu,if_neg hne,zc1 n _ _ (by simp;omega) (Al4 _) hv2]
theorem zi5 (s:List UInt8) (hv:validD s=true):(ze7 s).length≤6*s.length+2:=by
 have:=zej s.length s hv
 simp only[ze7,Al2,Al5,Al3];omega
theorem zjl {t:Tok} (h:zi t=true):(ZN t).length≤6*t.s.length+2:=by
 unfold ZN
 split
 ·rename_i h5
  unfold zi at h
  rw[h5] at h
  exact zi5 _ (by simpa using h)
 ·omega
theorem fdN (u k:Nat) (hk:k≤64):(u:Int).fdiv (2 ^ min k IntKind.i64.bits)=((u / 2 ^ k:Nat):Int):=by
 have e:min k IntKind.i64.bits=k:=by show min k 64=k;omega
 rw[e,Int.fdiv_eq_ediv_of_nonneg _ (by exact_mod_cast Nat.zero_le _)]
 norm_cast
theorem zlO (n:Nat):((n:Int)).tmod 16=((n % 16:Nat):Int):=by rw[Int.tmod_eq_emod_of_nonneg (by omega)];omega
theorem zmg (u:Nat) (hu:u<65536) (acc:List UInt8) (H:Heap) (o:Own) (ho:Owned H o acc.length 1) (hb:acc.length≤Lim) :
  zeN Tryz.prog 132 [.sl o 1 (bytesOf acc),.int .i64 u] H o 1 (bytesOf (acc++ym u)):=by
 refine ACalls.goO ir132 ck132 (Al4 _) fun KP Q hQ hP=>?_
 have hal:=zr acc
 simp only[Lim] at hb
 simp(disch:=first|omega|assumption) only[ir132,steps,st2,pev,rev,oev,optr,ibin,sbin,ishf,bound,mmAll,mm2,mk,mkArgs,AV.cells,AV.boxable,AV.one,AV.strip1,fillA,fillS,Nat.reduceEqDiff,reduceCtorEq,↓reduceIte,Nat.reduceAdd,Int.reduceNeg,Nat.reduceLeDiff,Int.reduceToNat,Int.reduceEq,Int.reduceLT,Int.reduceLE,Int.reduceAdd,Io,Im,If,Il,Jt,Jf,AC.rg,Jm,Jl,Ja,Fm,Fl,Fa,Imv,Imb,Iai,Iei,Igi,Isi,Ipf,Ipt,Ilb,Iia,Ilt,Iap,Ink,Iln,Ils,Iad,Iex,Ibx,Ing]
 refine goP_ownS (by rw[hal];exact ho) (by simp[hal];omega) (by simp[hal,maxLen];omega) fun o1 H1 hs1=>?_
 have hs1':OwnS H o H1 o1 (acc++[92,117]).length 1:=by simpa[hal] using hs1
 have e1:bytesOf acc++[[AV.int .u8 92],[AV.int .u8 117]]=bytesOf (acc++[92,117]):=zas acc 92 117
 simp(disch:=first|omega|assumption) only[e1,steps,st2,pev,rev,oev,optr,ibin,sbin,ishf,bound,mmAll,mm2,mk,mkArgs,AV.cells,AV.boxable,AV.one,AV.strip1,fillA,fillS,Nat.reduceEqDiff,reduceCtorEq,↓reduceIte,Nat.reduceAdd,Int.reduceNeg,Nat.reduceLeDiff,Int.reduceToNat,Int.reduceEq,Int.reduceLT,Int.reduceLE,Int.reduceAdd]
 refine goL_st (fun x:Nat×Own=>[(0,.sl x.2 1 (bytesOf (acc++(ym u).take (6-x.1)))),(5,.int .i64 ((x.1:Int)-1))]) (fun x H'=>x.1≤4∧OwnS H o H' x.2 (acc++(ym u).take (6-x.1)).length 1) (fun x=>x.1) (4,o1) (by simp(disch:=first|omega|assumption) only[ym,Int.reduceSub,steps,st2,pev,rev,oev,optr,ibin,sbin,ishf,bound,mmAll,mm2,mk,mkArgs,AV.cells,AV.boxable,AV.one,AV.strip1,fillA,fillS,Nat.reduceEqDiff,reduceCtorEq,↓reduceIte,Nat.reduceAdd,Int.reduceNeg,Nat.reduceLeDiff,Int.reduceToNat,Int.reduceEq,Int.reduceLT,Int.reduceLE,Int.reduceAdd]) ⟨by simp,by simpa[ym] using hs1'⟩ ?_
 rintro⟨k,o2⟩ H2 J ⟨hk,hs⟩ hJ
 simp only at hk hs
 cases k with
 | zero =>
  have h0:¬ ((0:Int)≤-1):=by omega
  have e:(ym u).take (6-0)=ym u:=rfl
  rw[e] at hs
  simp(disch:=first|omega|assumption) only[h0,e,Int.reduceSub,steps,st2,pev,rev,oev,optr,ibin,sbin,ishf,bound,mmAll,mm2,mk,mkArgs,AV.cells,AV.boxable,AV.one,AV.strip1,fillA,fillS,Nat.reduceEqDiff,reduceCtorEq,↓reduceIte,Nat.reduceAdd,Int.reduceNeg,Nat.reduceLeDiff,Int.reduceToNat,Int.reduceEq,Int.reduceLT,Int.reduceLE,Int.reduceAdd]
  exact hQ _ _ H2 H2 [_] nofun rfl (Low.refl _) ⟨o2,rfl,by rw[zr];exact hs⟩
 | succ j =>
  have e0:((j+1:Nat):Int)-1=(j:Int):=by omega
  have h0:((0:Int)≤j)=True:=eq_true (by omega)
  have w1:IntKind.wrap .i64 (4*(j:Int))=((4*j:Nat):Int):=by rw[wrap64 (by omega) (by omega)];omega
  have w2:=fdN u (4*j) (by omega)
  have hlt:(((u / 2 ^ (4*j) % 16:Nat):Int)<16)=True:=eq_true (by omega)
  have w0:(((4*j:Nat):Int)<0)=False:=eq_false (by omega)
  have hm:((ym u).take (6-(j+1)))++[hexL.getD (u / 2 ^ (4*j) % 16) 0]=(ym u).take (6-j):=by
   have:j=0∨j=1∨j=2∨j=3:=by omega
   rcases this with rfl|rfl|rfl|rfl<;>simp[ym]
  have hl2:=zr (acc++(ym u).take (6-(j+1)))
  have hl3:(acc++(ym u).take (6-(j+1))).length≤acc.length+6:=by simp[zaW];omega
  have e3:=YG (acc++(ym u).take (6-(j+1))) (hexL.getD (u / 2 ^ (4*j) % 16) 0)
  rw[Yj,hm] at e3
  have hg:([48,49,50,51,52,53,54,55,56,57,97,98,99,100,101,102]:List UInt8).getD (u / 2 ^ (4*j) % 16) 0=hexL.getD (u / 2 ^ (4*j) % 16) 0:=rfl
  simp(disch:=first|omega|assumption) only[e0,h0,w1,w2,w0,zlO,hlt,hg,steps,st2,pev,rev,oev,optr,ibin,sbin,ishf,bound,mmAll,mm2,mk,mkArgs,AV.cells,AV.boxable,AV.one,AV.strip1,fillA,fillS,Nat.reduceEqDiff,reduceCtorEq,↓reduceIte,Nat.reduceAdd,Int.reduceNeg,Nat.reduceLeDiff,Int.reduceToNat,Int.reduceEq,Int.reduceLT,Int.reduceLE,Int.reduceAdd]
  refine goP_ownS (by rw[hl2];exact hs.own) (by simp only[hl2,Al2,Al3];omega) (by simp only[hl2,Al2,Al3,maxLen];omega) fun o3 H3 hs3=>?_
  have hs4:OwnS H o H3 o3 (acc++(ym u).take (6-j)).length 1:=by
   have e:(acc++(ym u).take (6-j)).length=(bytesOf (acc++(ym u).take (6-(j+1)))).length+1:=by
    rw[hl2,← hm,← Yj];simp only[Al5,Al2,Al3]
   rw[e];exact hs.trans hs3
  simp(disch:=first|omega|assumption) only[e3,wrap64,steps,st2,pev,rev,oev,optr,ibin,sbin,ishf,bound,mmAll,mm2,mk,mkArgs,AV.cells,AV.boxable,AV.one,AV.strip1,fillA,fillS,Nat.reduceEqDiff,reduceCtorEq,↓reduceIte,Nat.reduceAdd,Int.reduceNeg,Nat.reduceLeDiff,Int.reduceToNat,Int.reduceEq,Int.reduceLT,Int.reduceLE,Int.reduceAdd]
  exact goJ (hJ (j,o3) H3 (Nat.lt_succ_self j) ⟨by simp only;omega,hs4⟩) (by simp(disch:=first|omega|assumption) only[steps,st2,pev,rev,oev,optr,ibin,sbin,ishf,bound,mmAll,mm2,mk,mkArgs,AV.cells,AV.boxable,AV.one,AV.strip1,fillA,fillS,Nat.reduceEqDiff,reduceCtorEq,↓reduceIte,Nat.reduceAdd,Int.reduceNeg,Nat.reduceLeDiff,Int.reduceToNat,Int.reduceEq,Int.reduceLT,Int.reduceLE,Int.reduceAdd])
theorem zgK {l:List UInt8} {c k:Nat} (hne:l≠[]) (hv:validD l=true) (hc:(zk l).1=c) (hk:(zk l).2=k) :
  validD (l.take k)=true∧(l.take k).length=k∧y1 (l.take k).length (l.take k)=if 65536≤c then [55296+(c-65536) / 1024,56320+(c-65536) % 1024] else [c]:=by
 obtain⟨hd,hv2⟩:=ZJ hne hv
 subst hc;subst hk
 have hp:=hd.pos
 have hle:=hd.len
 have hlen:(l.take (zk l).2).length=(zk l).2:=by simp;omega
 have hne2:l.take (zk l).2≠[]:=fun e=>by rw[e] at hlen;simp at hlen;omega
 have hcode:=zbr hne (by omega:(zk l).2≠0) []
 rw[List.append_nil] at hcode
 have hdrop:(l.take (zk l).2).drop (zk l).2=[]:=by apply List.drop_eq_nil_of_le;omega
 refine⟨?_,hlen,?_⟩
 ·have:=(zgL hne2 (by rw[hcode];omega)).1
  rw[this,hcode,hdrop];rfl
 ·rw[hlen]
  obtain⟨n,hn⟩:∃ n,(zk l).2=n+1:=⟨(zk l).2-1,by omega⟩
  conv=>lhs;rw[show y1 (zk l).2=y1 (n+1) by rw[hn]]
  rw[y1,if_neg hne2,hcode,hdrop,yT,List.append_nil]
theorem zni {n:Nat} (h:n<256):IntKind.wrap .u8 (n:Int)=((UInt8.ofNat n).toNat:Int):=by
 rw[wr8];simp
set_option maxHeartbeats 1000000 in
theorem zkw (s:List UInt8) (hv:validD s=true) (hs:6*s.length+2≤Lim):Pure Tryz.prog 62 [.str s] (.str (ze7 s)):=by
 refine Pure.go ir62 ck62 (Al4 _) fun KP Q hQ=>?_
 have hs':s.length≤Lim:=by simp only[Lim] at hs ⊢;omega
 simp only[Lim] at hs
 simp(disch:=first|omega|assumption) only[ir62,go_sem]
 have e34:([[AV.int .u8 34]]:List (List AV))=bytesOf [34]:=rfl
 simp(disch:=first|omega|assumption) only[e34,go_sem]
 refine goL_st (fun x:Own×List UInt8×Nat=>[(3,.sl x.1 1 (bytesOf x.2.1)),(4,.int .i64 x.2.2)])
  (fun x H=>x.2.2≤s.length∧x.2.1.length≤6*x.2.2+1∧34::zec s=x.2.1++zec (s.drop x.2.2)∧validD (s.drop x.2.2)=true∧Owned H x.1 x.2.1.length 1) (fun x=>s.length-x.2.2) (.full,[34],0) (by simp(disch:=first|omega|assumption) only[go_sem]) ⟨by simp,by simp,by simp,by simpa using hv,Owned.full _ _ _⟩ ?_
 rintro⟨o,acc,i⟩ H J ⟨hi,hai,hc,hv,hs1⟩ hJ
 simp only at hi hai hc hv hs1
 have hal:=zr acc
 by_cases hlt:i<s.length
 case neg =>
  have hlt':¬ (i:Int)<s.length:=by omega
  rw[List.drop_of_length_le (by omega)] at hc
  have e0:zec []=[]:=rfl
  rw[e0,List.append_nil] at hc
  have e3:bytesOf acc++[[AV.int .u8 34]]=bytesOf (acc++[34]):=YG acc 34
  simp(disch:=first|omega|assumption) only[hlt',go_sem]
  refine goP_ownS (by rw[hal];exact hs1) (by simp only[hal,Al2,Al3];omega) (by simp only[hal,Al2,Al3,maxLen];omega) fun o3 H3 hs3=>?_
  simp(disch:=first|omega|assumption) only[e3,zcH,go_sem]
  have e4:ze7 s=acc++[34]:=by rw[← hc];rfl
  exact hQ _ _ _ _ nofun rfl (by simp[tupOf,envOf,AV.strip,AV.strip1,e4])
 have hlt':(i:Int)<s.length:=by omega
 have hne:s.drop i≠[]:=fun e=>by have:=congrArg List.length e;simp at this;omega
 obtain⟨hd,hv2⟩:=ZJ hne hv
 have hst:=zg7 hne hv
 have hone:=zgK hne hv rfl rfl
 have hpl:=zdA hd
 have hp:=hd.pos
 have hle:=hd.len
 have hmax:=hd.le
 have h1b:=@zdy _ _ _ hd
 rw[Zv] at hle
 simp(disch:=first|omega|assumption) only[hlt',go_sem]
 refine goK_pure (zjc s i hlt hs') ?_
 rw[hst] at hc
 rw[List.drop_drop] at hc hv2
 generalize (zk (s.drop i)).1=c at *
 generalize (zk (s.drop i)).2=k at *
 have hmax1:((1:Int) > (k:Int))=False:=eq_false (by omega)
 have wk:IntKind.wrap .i64 ((i:Int)+(k:Int))=((i+k:Nat):Int):=by rw[wrap64 (by omega) (by omega)];omega
 have hsub:(s.take (i+k)).drop i=(s.drop i).take k:=by rw[List.drop_take];congr 1;omega
 have hle2:(((i+k:Nat):Int)≤s.length)=True:=eq_true (by omega)
 have hle3:((i:Int)≤((i+k:Nat):Int))=True:=eq_true (by omega)
 have step:∀ o3 H3 (bs:List UInt8),bs=yy c ((s.drop i).take k)→Owned H3 o3 (acc++bs).length 1→J ((setAll _ [(3,.sl o3 1 (bytesOf (acc++bs))),(4,.int .i64 ((i+k:Nat):Int))]).keep [0,3,4]) H3:=fun o3 H3 bs hbs ho3 =>
  hJ (o3,acc++bs,i+k) H3 (by simp only;omega) ⟨by simp only;omega,by simp only[Al5,hbs];omega,by rw[hc,hbs];simp,hv2,ho3⟩
 by_cases c1:c=34∨c=92
 ·have g:((c:Int)=34∨(c:Int)=92):=by omega
  have e3:bytesOf acc++[[AV.int .u8 92],[AV.int .u8 (UInt8.ofNat c).toNat]]=bytesOf (acc++[92,UInt8.ofNat c]):=zas acc 92 _
  have ep:[92,UInt8.ofNat c]=yy c ((s.drop i).take k):=by unfold yy;rw[if_pos c1]
  rcases c1 with c1|c1
  all_goals
   have w8:IntKind.wrap .u8 (c:Int)=((UInt8.ofNat c).toNat:Int):=zni (by omega)
   subst c1
   have gg:=w8
   simp only[Int.cast_ofNat_Int] at w8
   simp(disch:=first|omega|assumption) only[w8,go_sem]
   refine goP_ownS (by rw[hal];exact hs1) (by simp only[hal,Al2,Al3];omega) (by simp only[hal,Al2,Al3,maxLen];omega) fun o3 H3 hs3=>?_
   simp(disch:=first|omega|assumption) only[e3,hmax1,wk,go_sem]
   exact goJ (step o3 H3 _ ep (by simpa[hal] using hs3.own)) (by simp(disch:=first|omega|assumption) only[go_sem])
 have g34:¬ ((c:Int)=34):=by omega
 have g92:¬ ((c:Int)=92):=by omega
 by_cases c2:c=10
 ·subst c2
  have e3:bytesOf acc++[[AV.int .u8 92],[AV.int .u8 110]]=bytesOf (acc++[92,110]):=zas acc 92 110
  have ep:[92,110]=yy 10 ((s.drop i).take k):=by unfold yy;rw[if_neg (by decide),if_pos rfl]
  simp(disch:=first|omega|assumption) only[go_sem]
  refine goP_ownS (by rw[hal];exact hs1) (by simp only[hal,Al2,Al3];omega) (by simp only[hal,Al2,Al3,maxLen];omega) fun o3 H3 hs3=>?_
  simp(disch:=first|omega|assumption) only[e3,hmax1,wk,go_sem]
  exact goJ (step o3 H3 _ ep (by simpa[hal] using hs3.own)) (by simp(disch:=first|omega|assumption) only[go_sem])
 have g10:¬ ((c:Int)=10):=by omega
 by_cases c3:c<32∨65536≤c
 ·have hus:=hone.2.2
  have hvt:=hone.1
  have htl:=hone.2.1
  have hlim:((s.drop i).take k).length≤Lim:=by rw[htl];simp only[Lim];omega
  have loop:∀(ρ:Env) (us:List Nat),us=(if 65536≤c then [55296+(c-65536) / 1024,56320+(c-65536) % 1024] else [c])→(∀ u∈us,u<65536)∧us.flatMap ym=yy c ((s.drop i).take k):=fun ρ us hu=>by
   subst hu
   by_cases h6:65536≤c
   ·rw[if_pos h6]
    refine⟨fun u hu=>by simp at hu;omega,?_⟩
    unfold yy;rw[if_neg c1,if_neg c2,if_neg (by omega),if_pos h6];simp
   ·rw[if_neg h6]
    refine⟨fun u hu=>by simp at hu;omega,?_⟩
    unfold yy;rw[if_neg c1,if_neg c2,if_pos (by omega)];simp
  obtain⟨us,hus2⟩:∃ us,us=(if 65536≤c then [55296+(c-65536) / 1024,56320+(c-65536) % 1024] else [c]):=⟨_,rfl⟩
  rw[← hus2] at hus
  obtain⟨hu1,hu2⟩:=loop (fun _=>.any) us hus2
  have hul:us.length≤2:=by rw[hus2];split<;>simp
  have hcl:=zeT us
  by_cases c4:c<32
  case' pos =>
   have g32:((c:Int)<32)=True:=eq_true (by omega)
   simp(disch:=first|omega|assumption) only[g34,g92,g10,g32,wk,hle2,hle3,hsub,go_sem]
  case' neg =>
   have g32:¬ ((c:Int)<32):=by omega
   have g6:((65536:Int)≤c)=True:=eq_true (by omega)
   simp(disch:=first|omega|assumption) only[g34,g92,g10,g32,g6,wk,hle2,hle3,hsub,go_sem]
  all_goals
   refine goK_pure (zlY _ hvt hlim) ?_
   rw[hus]
   simp(disch:=first|omega|assumption) only[hcl,go_sem]
   refine goL_range us 67 (fun x:Own×List UInt8=>[(3,.sl x.1 1 (bytesOf x.2))]) (fun done rest x H'=>x.2++rest.flatMap ym=acc++yy c ((s.drop i).take k)∧x.2.length≤acc.length+6*done.length∧Owned H' x.1 x.2.length 1) (o,acc) (by simp(disch:=first|omega|assumption) only[go_sem]) ⟨by simp only;rw[hu2],by simp,hs1⟩ ?_ ?_
   ·rintro⟨o2,a⟩ H2 J2 ⟨hn,hle,hs2⟩ hlt
    simp only[List.flatMap_nil,List.append_nil] at hn hle hs2
    simp(disch:=first|omega|assumption) only[hcl,hlt,hmax1,wk,go_sem]
    subst hn
    exact goJ (step o2 H2 _ rfl hs2) (by simp(disch:=first|omega|assumption) only[go_sem])
   ·rintro done x rest ⟨o2,a⟩ H2 J2 hdn hlt hlt2 ⟨hn,hle,hs2⟩ hJ2
    simp only[List.flatMap_cons] at hn hle hs2
    have hg:(cU us).getD done.length []=[AV.int .i64 (x:Int)]:=getD_mid' hdn
    simp(disch:=first|omega|assumption) only[hcl,hlt,hg,go_sem]
    refine yB (zmg x (hu1 x (by rw[hdn];simp)) a _ o2 hs2 (by simp only[Lim];omega)) fun o3 H3 hs3=>?_
    rw[zr] at hs3
    simp(disch:=first|omega|assumption) only[wrap64,go_sem]
    exact goJ (hJ2 (o3,a++ym x) H3 ⟨by rw[← hn];simp,by simp only[Al5,zaW,Al2,Al3];omega,hs3.own⟩) (by simp(disch:=first|omega|assumption) only[go_sem])
 ·have g32:¬ ((c:Int)<32):=by omega
  have g6:¬ ((65536:Int)≤c):=by omega
  have ep:(s.drop i).take k=yy c ((s.drop i).take k):=by unfold yy;rw[if_neg c1,if_neg c2,if_neg (by omega),if_neg (by omega)]
  have htl:=hone.2.1
  have hbl:=zr ((s.drop i).take k)
  simp(disch:=first|omega|assumption) only[g34,g92,g10,g32,g6,wk,hle2,hle3,hsub,go_sem]
  refine goP_ownS (by rw[hal];exact hs1) (by rw[hal,hbl,htl];omega) (by rw[hal,hbl,htl];simp only[maxLen];omega) fun o3 H3 hs3=>?_
  simp(disch:=first|omega|assumption) only[yJ,zZ,hmax1,wk,go_sem]
  exact goJ (step o3 H3 _ ep (by have:=hs3.own;rw[hal,hbl] at this;simpa using this)) (by simp(disch:=first|omega|assumption) only[go_sem])
end Go.Proofs.YtaielcdfcgpbiaaGreatDoor
namespace Go.Proofs.YtaielcdfcgpbiaaGreatDoor
open Go.Ab
abbrev TS:=List Tok
def hdT (t:TS):Tok:=t.headD ⟨0,[]⟩
def isP (m:List UInt8) (t:TS):Bool:=decide ((hdT t).k=1)&&decide ((hdT t).s=m)
def isW (w:List UInt8) (t:TS):Bool:=decide ((hdT t).k=2)&&decide ((hdT t).s=w)
abbrev PR (α:Type):=Except Int (α×TS)
def pb {α β:Type} (x:PR α) (f:α→TS→PR β):PR β:=match x with
 | .ok (a,t)=>f a t
 | .error e=>.error e
theorem zj {α β:Type} (a:α) (t:TS) (f:α→TS→PR β):pb (.ok (a,t)) f=f a t:=rfl
def yt (m:List UInt8) (t:TS):PR Unit:=if isP m t then .ok ((),t.tail) else .error 2
def z7 (t:TS):PR (List UInt8):=if (hdT t).k=2 then .ok ((hdT t).s,t.tail) else .error 2
def zN (w:List UInt8) (t:TS):TS:=if isW w t then t.tail else t
def zJ {α:Type} (m:List UInt8) (f:TS→PR α):Nat→List α→TS→PR (List α)
 | 0,_,_=>.error 0
 | n+1,l,t=>if isP m t then .ok (l,t.tail) else pb (f t) fun x t=>zJ m f n (l++[x]) t
def yx {α:Type} (m:List UInt8) (f:TS→PR α) (t:TS):PR (List α):=pb (f t) fun x t=>zJ m f (t.length+1) [x] t
def yq {α:Type} (m:List UInt8) (f:TS→PR α):Nat→List α→TS→PR (List α)
 | 0,_,_=>.error 0
 | n+1,l,t=>if isP m t then pb (f t.tail) fun x t=>yq m f n (l++[x]) t else .ok (l,t)
def zaC (ty:TyD) (t:TS):PR TyD:=if isP [33] t then .ok (⟨ty.nm,ty.lists,ty.musts+1⟩,t.tail) else .ok (ty,t)
def zfJ {α:Type} (f:Nat→α):Nat→Option α
 | 0=>none
 | k+1=>some (f k)
theorem zfm {α:Type} (f:Nat→α) (k:Nat):zfJ f (k+1)=some (f k):=rfl
def zcF (sub:Option (TS→PR TyD)) (t:TS):PR TyD:=if isP [91] t then (match sub with
   | none=>.error 4
   | some f=>pb (f t.tail) fun ty t=>pb (yt [93] t) fun _ t=>zaC ⟨ty.nm,ty.lists+1,ty.musts*2⟩ t)
  else pb (z7 t) fun s t=>zaC ⟨s,0,0⟩ t
def Y4:Nat→TS→PR TyD
 | 0=>zcF none
 | k+1=>zcF (some (Y4 k))
theorem Z2 (k:Nat) (t:TS):Y4 k t=zcF (zfJ Y4 k) t:=by cases k<;>rfl
def YA (s:List UInt8):Val:=if s=[110,117,108,108] then zV else if s=[116,114,117,101] then .mk 1 1 [] [] [] else if s=[102,97,108,115,101] then .mk 1 0 [] [] [] else .mk 5 0 s [] []
def zP (v:TS→PR Val) (t:TS):PR Mem:=pb (z7 t) fun s t=>pb (yt [58] t) fun _ t=>pb (v t) fun x t=>.ok (.mk s x,t)
def Z3 (fixed:Bool) (sub:Option (TS→PR Val)) (t:TS):PR Val :=
  if (hdT t).k=2 then .ok (YA (hdT t).s,t.tail)
  else if (hdT t).k=3∨(hdT t).k=4 then .ok (zdD (hdT t).s,t.tail)
  else if (hdT t).k=5 then .ok (.mk 4 0 (hdT t).s [] [],t.tail)
  else if isP [91] t then (match sub with
   | none=>.error 4
   | some f=>pb (zJ [93] f (t.tail.length+1) [] t.tail) fun l t=>.ok (.mk 6 0 [] l [],t))
  else if isP [123] t then (match sub with
   | none=>.error 4
   | some f=>pb (zJ [125] (zP f) (t.tail.length+1) [] t.tail) fun l t=>.ok (.mk 7 0 [] [] l,t))
  else if fixed then .error 2
  else pb (yt [36] t) fun _ t=>pb (z7 t) fun s t=>.ok (.mk 8 0 s [] [],t)
def yA (fixed:Bool):Nat→TS→PR Val
 | 0=>Z3 fixed none
 | k+1=>Z3 fixed (some (yA fixed k))
theorem zY (fixed:Bool) (k:Nat) (t:TS):yA fixed k t=Z3 fixed (zfJ (yA fixed) k) t:=by cases k<;>rfl
def YH (fixed:Bool) (k:Nat) (t:TS):PR (List Mem):=if isP [40] t then yx [41] (zP (yA fixed k)) t.tail else .ok ([],t)
def zcB (fixed:Bool) (k:Nat) (t:TS):PR DirD:=pb (z7 t) fun s t=>pb (YH fixed k t) fun a t=>.ok (⟨s,a⟩,t)
def zaK (fixed:Bool) (k:Nat) (t:TS):PR (List DirD):=yq [64] (zcB fixed k) (t.length+1) [] t
def wK (t:Tok):Nat:=t.s.length+4
def wT (l:TS):Nat:=(l.map wK).sum
theorem zw (x:Tok) (l:TS):wT (x::l)=wK x+wT l:=by simp[wT]
theorem zlI {a b:TS} (h:a <:+ b):wT a≤wT b:=by
 obtain⟨p,rfl⟩:=h;simp[wT]
structure Fp {α:Type} (b:α→Nat) (ok:α→Prop) (c:Nat) (t:TS) (a:α) (t':TS):Prop where
 suf:t' <:+ t
 w:b a+c+wT t'≤wT t
 ok:ok a
def GP {α:Type} (b:α→Nat) (ok:α→Prop) (c:Nat) (f:TS→PR α):Prop:=∀ t a t',f t=.ok (a,t')→Fp b ok c t a t'
theorem Fp.lt {α:Type} {b:α→Nat} {ok:α→Prop} {c:Nat} {t t':TS} {a:α} (h:Fp b ok c t a t') (hc:0<c):t'.length<t.length:=by
 obtain⟨p,hp⟩:=h.suf
 have h2:=h.w
 cases p with
 | nil=>simp at hp;subst hp;omega
 | cons x p=>rw[← hp];simp;omega
theorem zcQ {t:TS} (h:(hdT t).k≠0):t=hdT t::t.tail:=by
 cases t with
 | nil=>exact absurd rfl h
 | cons x t=>rfl
theorem zdK {m:List UInt8} {t:TS} (h:isP m t=true):(hdT t).k≠0:=by
 simp only[isP,Al0,zn] at h;rw[h.1];decide
theorem zjY {m:List UInt8} {t:TS} (h:isW m t=true):(hdT t).k≠0:=by
 simp only[isW,Al0,zn] at h;rw[h.1];decide
theorem zbu {t:TS} (h:(hdT t).k≠0):t.tail <:+ t∧(hdT t).s.length+4+wT t.tail=wT t:=by
 refine⟨List.tail_suffix t,?_⟩
 conv=>rhs;rw[zcQ h,zw]
 rfl
theorem Ya {m:List UInt8} {t:TS} (h:isP m t=true):t.tail <:+ t∧4+wT t.tail≤wT t:=by
 have:=zbu (zdK h);exact⟨this.1,by omega⟩
theorem zaS {m:List UInt8} {t:TS} (h:isW m t=true):t.tail <:+ t∧4+wT t.tail≤wT t:=by
 have:=zbu (zjY h);exact⟨this.1,by omega⟩
def T1 {α:Type} (_:α):Prop:=True
def b0 {α:Type} (_:α):Nat:=0
theorem yb (m:List UInt8):GP b0 T1 4 (yt m):=fun t a t' h=>by
 unfold yt at h
 split at h
 ·rename_i hp;simp only[ziG,Al8] at h;obtain⟨_,rfl⟩:=h
  have:=Ya hp;exact⟨this.1,by simp only[b0];omega,trivial⟩
 ·cases h
theorem zD:GP List.length T1 4 z7:=fun t a t' h=>by
 unfold z7 at h
 split at h
 ·rename_i hp;simp only[ziG,Al8] at h;obtain⟨rfl,rfl⟩:=h
  have:=zbu (t:=t) (by rw[hp];decide);exact⟨this.1,by omega,trivial⟩
 ·cases h
theorem zm {α β:Type} {x:PR α} {f:α→TS→PR β} {b:β} {t':TS} (h:pb x f=.ok (b,t')):∃ a t,x=.ok (a,t)∧f a t=.ok (b,t'):=by
 rcases x with e|⟨a,t⟩
 ·cases h
 ·exact⟨a,t,rfl,h⟩
def sm {α:Type} (b:α→Nat) (l:List α):Nat:=(l.map b).sum+l.length
theorem zhC {α:Type} (b:α→Nat) (l:List α) (x:α):sm b (l++[x])=sm b l+b x+1:=by simp[sm];omega
theorem zhK {α:Type} {ok:α→Prop} {l:List α} {x:α} (h:∀ y∈l,ok y) (hx:ok x):∀ y∈l++[x],ok y:=fun y hy=>by
 rcases List.mem_append.1 hy with h1|h1
 ·exact h y h1
 ·simp at h1;subst h1;exact hx
theorem zaP {α:Type} {b:α→Nat} {ok:α→Prop} {m:List UInt8} {f:TS→PR α} (hf:GP b ok 1 f):∀(n:Nat) (l:List α) (t:TS) (l':List α) (t':TS),(∀ x∈l,ok x)→zJ m f n l t=.ok (l',t')→t' <:+ t∧sm b l'+4+wT t'≤sm b l+wT t∧∀ x∈l',ok x
 | 0,_,_,_,_,_,h=>by cases h
 | n+1,l,t,l',t',hl,h=>by
  simp only[zJ] at h
  split at h
  ·rename_i hp;simp only[ziG,Al8] at h;obtain⟨rfl,rfl⟩:=h
   have:=Ya hp;exact⟨this.1,by omega,hl⟩
  ·obtain⟨x,t1,h1,h2⟩:=zm h
   have g1:=hf _ _ _ h1
   have w:=g1.w
   have g2:=zaP hf n _ _ _ _ (zhK hl g1.ok) h2
   rw[zhC] at g2
   exact⟨g2.1.trans g1.suf,by omega,g2.2.2⟩
theorem zbi {α:Type} {b:α→Nat} {ok:α→Prop} {m:List UInt8} {f:TS→PR α} (hf:GP b ok 1 f):∀(n:Nat) (l:List α) (t:TS) (l':List α) (t':TS),(∀ x∈l,ok x)→yq m f n l t=.ok (l',t')→t' <:+ t∧sm b l'+wT t'≤sm b l+wT t∧∀ x∈l',ok x
 | 0,_,_,_,_,_,h=>by cases h
 | n+1,l,t,l',t',hl,h=>by
  simp only[yq] at h
  split at h
  ·rename_i hp
   have h0:=Ya hp
   obtain⟨x,t1,h1,h2⟩:=zm h
   have g1:=hf _ _ _ h1
   have w:=g1.w
   have g2:=zbi hf n _ _ _ _ (zhK hl g1.ok) h2
   rw[zhC] at g2
   exact⟨(g2.1.trans g1.suf).trans h0.1,by omega,g2.2.2⟩
  ·simp only[ziG,Al8] at h;obtain⟨rfl,rfl⟩:=h
   exact⟨List.suffix_refl t,by omega,hl⟩
theorem Yh {α:Type} {b:α→Nat} {ok:α→Prop} {m:List UInt8} {f:TS→PR α} (hf:GP b ok 1 f):GP (sm b) (fun l=>∀ x∈l,ok x) 4 (yx m f):=fun t l t' h=>by
 obtain⟨x,t1,h1,h2⟩:=zm h
 have g1:=hf _ _ _ h1
 have w:=g1.w
 have g2:=zaP hf _ [x] _ _ _ (fun y hy=>by simp at hy;subst hy;exact g1.ok) h2
 have e:sm b [x]=b x+1:=by simp[sm]
 exact⟨g2.1.trans g1.suf,by omega,g2.2.2⟩
theorem zcK {m:List UInt8} {t:TS} (h:isP m t=true):t.tail.length<t.length:=by
 conv=>rhs;rw[zcQ (zdK h)]
 simp
theorem GP.lt {α:Type} {b:α→Nat} {ok:α→Prop} {c:Nat} {f:TS→PR α} (h:GP b ok c f) (hc:0<c):∀ t a t',f t=.ok (a,t')→t'.length<t.length:=fun t a t' e=>(h t a t' e).lt hc
def znk (ty:TyD) (n:Nat):Prop:=0≤ty.lists∧ty.lists≤n∧0≤ty.musts∧ty.musts<2 ^ (ty.lists.toNat+1)∧ty.musts % 2=0
def zgv (n:Nat) (ty:TyD):Prop:=0≤ty.lists∧ty.lists≤n∧0≤ty.musts∧ty.musts<2 ^ (ty.lists.toNat+1)
theorem zeO {ty:TyD} {n:Nat} (h:znk ty n):∀ t a t',zaC ty t=.ok (a,t')→t' <:+ t∧a.nm=ty.nm∧wT t'≤wT t∧zgv n a:=fun t a t' e=>by
 obtain⟨h1,h2,h3,h4,h5⟩:=h
 unfold zaC at e
 split at e
 ·rename_i hp;simp only[ziG,Al8] at e;obtain⟨rfl,rfl⟩:=e
  have:=Ya hp
  refine⟨this.1,rfl,by omega,h1,h2,by simp only;omega,?_⟩
  have e2:(2:Int) ^ (ty.lists.toNat+1) % 2=0:=by rw[Int.pow_succ];omega
  simp only;omega
 ·simp only[ziG,Al8] at e;obtain⟨rfl,rfl⟩:=e
  exact⟨List.suffix_refl t,rfl,Al4 _,h1,h2,h3,h4⟩
theorem zex (n:Nat) (ih:∀ m,n=m+1→GP (fun ty=>ty.nm.length) (zgv m) 4 (Y4 m)):GP (fun ty=>ty.nm.length) (zgv n) 4 (Y4 n):=fun t a t' h=>by
 rw[Z2,zcF.eq_def] at h
 split at h
 ·rename_i hp
  have h0:=Ya hp
  cases n with
  | zero=>cases h
  | succ n =>
   obtain⟨ty,t1,h1,h2⟩:=zm h
   obtain⟨_,t2,h3,h4⟩:=zm h2
   have g1:=ih n rfl _ _ _ h1
   have g3:=yb _ _ _ _ h3
   obtain⟨a1,a2,a3,a4⟩:=g1.ok
   have e1:(ty.lists+1).toNat=ty.lists.toNat+1:=by omega
   have g4:=zeO (n:=n+1) ⟨by simp only;omega,by simp only;omega,by simp only;omega,by simp only;rw[e1,Int.pow_succ];omega,by simp only;omega⟩ _ _ _ h4
   have w1:=g1.w
   have w3:=g3.w
   simp only[b0] at w1 w3
   exact⟨((g4.1.trans g3.suf).trans g1.suf).trans h0.1,by rw[g4.2.1];simp only;omega,g4.2.2.2⟩
 ·obtain⟨s,t1,h1,h2⟩:=zm h
  have g1:=zD _ _ _ h1
  have g4:=zeO (n:=n) ⟨by simp,by simp,by simp,by simp,by simp⟩ _ _ _ h2
  have w1:=g1.w
  exact⟨g4.1.trans g1.suf,by rw[g4.2.1];simp only;omega,g4.2.2.2⟩
theorem zdS:∀ n,GP (fun ty=>ty.nm.length) (zgv n) 4 (Y4 n)
 | 0=>zex 0 fun m h=>by cases h
 | k+1=>zex (k+1) fun m h=>by cases h;exact zdS k
open Go.Lib
theorem ziL {s:List UInt8} (h:s.length≠1):zdO s=false:=by
 match s,h with
 | [],_=>rfl
 | [_],h=>exact absurd rfl h
 | _::_::_,_=>rfl
theorem zkA (t:Tok) (ht:t.s.length≤Lim):Pure Tryz.prog 61 [.agg (cK t)] (.bool (zi t)):=by
 refine Pure.go ir61 ck61 (Al4 _) fun KP Q hQ=>?_
 obtain⟨k,s⟩:=t
 simp only at ht
 by_cases k1:k=1
 ·subst k1
  by_cases hd:s=[46,46,46]
  ·simp(disch:=first|omega|assumption) only[ir61,cK,hd,go_sem]
   exact hQ _ _ _ _ nofun rfl (by simp[tupOf,envOf,AV.strip,AV.strip1,zi,hd,Za])
  by_cases hl:s.length=1
  ·obtain⟨c,rfl⟩:=List.length_eq_one_iff.1 hl
   simp(disch:=first|omega|assumption) only[ir61,cK,hd,go_sem]
   have e:zi ⟨1,[c]⟩=decide (0≤Lib.indexByte zar c):=by simp[zi,Za,zdO]
   refine goK_pure (zhk _ c) ?_
   simp(disch:=first|omega|assumption) only[go_sem]
   exact hQ _ _ _ [_] nofun rfl (by rw[e];rfl)
  ·have hl':¬ ((s.length:Int)=1):=by omega
   simp(disch:=first|omega|assumption) only[ir61,cK,hd,hl',go_sem]
   exact hQ _ _ _ _ nofun rfl (by simp[tupOf,envOf,AV.strip,AV.strip1,zi,hd,Za,ziL hl])
 by_cases k2:k=2
 ·subst k2
  simp(disch:=first|omega|assumption) only[ir61,cK,go_sem]
  refine goK_pure (zeJ s ht) ?_
  simp(disch:=first|omega|assumption) only[go_sem]
  exact hQ _ _ _ _ nofun rfl (by simp[tupOf,envOf,AV.strip,AV.strip1,zi])
 by_cases k3:k=3
 ·subst k3
  simp(disch:=first|omega|assumption) only[ir61,cK,go_sem]
  refine goK_pure (zbL s ht) ?_
  simp(disch:=first|omega|assumption) only[go_sem]
  exact hQ _ _ _ _ nofun rfl (by simp[tupOf,envOf,AV.strip,AV.strip1,zi])
 by_cases k4:k=4
 ·subst k4
  simp(disch:=first|omega|assumption) only[ir61,cK,go_sem]
  refine goK_pure (zbL s ht) ?_
  simp(disch:=first|omega|assumption) only[go_sem]
  exact hQ _ _ _ _ nofun rfl (by simp[tupOf,envOf,AV.strip,AV.strip1,zi])
 by_cases k5:k=5
 ·subst k5
  simp(disch:=first|omega|assumption) only[ir61,cK,go_sem]
  refine goK_pure (zlg s ht) ?_
  simp(disch:=first|omega|assumption) only[go_sem]
  exact hQ _ _ _ _ nofun rfl (by simp[tupOf,envOf,AV.strip,AV.strip1,zi])
 ·simp(disch:=first|omega|assumption) only[ir61,cK,k1,k2,k3,k4,k5,go_sem]
  exact hQ _ _ _ _ nofun rfl (by simp[tupOf,envOf,AV.strip,AV.strip1,zi,k1,k2,k3,k4,k5])
theorem zko:∀ l:List (List UInt8),(Lib.join l [32]).length≤(l.map fun s=>s.length+1).sum
 | []=>by simp[Lib.join_nil]
 | x::r=>by
  rw[Lib.join_length]
  have:∀ l:List (List UInt8),lens l+l.length=(l.map fun s=>s.length+1).sum:=fun l=>by
   induction l with
   | nil=>rfl
   | cons y l ih=>simp only[lens,List.map_cons,List.sum_cons,Al2] at ih ⊢;omega
  have h:=this (x::r)
  simp only[Al2,Al3] at h ⊢
  omega
theorem zj7 (l:List Tok) (h:l.all zi=true):(yr l).length≤6*wT l:=by
 refine Nat.le_trans (zko _) ?_
 induction l with
 | nil=>simp[wT]
 | cons t l ih =>
  simp only[List.all_cons,Al0] at h
  have h1:=zjl h.1
  have h2:=ih h.2
  rw[zw]
  simp only[List.map_cons,List.sum_cons,wK] at h2 ⊢
  omega
theorem zl4 {l:List Tok} {t:Tok} (h:t∈l):t.s.length+4≤wT l:=by
 induction l with
 | nil=>cases h
 | cons y l ih =>
  rw[zw]
  rcases List.mem_cons.1 h with rfl|h
  ·unfold wK;omega
  ·have:=ih h;omega
theorem zl3 (l:List Tok):4*l.length≤wT l:=by
 induction l with
 | nil=>simp
 | cons y l ih=>rw[zw];simp only[Al2,wK];omega
theorem zh5 (L:List Tok) (hb:8*wT L≤Lim):Pure Tryz.prog 25 [.sl .no 2 (cKs L)] (.tup [.str (Zg L).1,.bool (Zg L).2]):=by
 refine Pure.go ir25 ck25 (Al4 _) fun KP Q hQ=>?_
 have hkl:=zH L
 have hwl:=zl3 L
 simp only[Lim] at hb
 simp(disch:=first|omega|assumption) only[ir25,hkl,go_sem]
 refine goL_range L 9 (fun x:Own×List (List UInt8)=>[(4,.sl x.1 1 (cT x.2))]) (fun done rest x H=>x.2=done.map ZN∧done.all zi=true∧Owned H x.1 x.2.length 1) (.nil,[]) (by simp(disch:=first|omega|assumption) only[cT,go_sem]) ⟨rfl,rfl,Owned.nil _ _⟩ ?_ ?_
 ·rintro⟨o,l⟩ H J ⟨hl,hr,ho⟩ hlt
  simp only at hl hr ho
  subst hl
  have hj:=zj7 L hr
  have hcl:=yg (L.map ZN)
  simp(disch:=first|omega|assumption) only[hkl,hlt,go_sem]
  refine goK_pure (Pure.low (Yf (L.map ZN) [32] (by show (yr L).length≤_;omega) (by simp;omega))) ?_
  simp(disch:=first|omega|assumption) only[go_sem]
  exact hQ _ _ _ _ nofun rfl (by simp[tupOf,envOf,AV.strip,AV.strip1,Zg,hr,yr])
 ·rintro done x rest ⟨o,l⟩ H J hd hlt hlt2 ⟨hl,hr,ho⟩ hJ
  simp only at hl hr ho
  have hg:=zkn hd
  have hmem:x∈L:=by rw[hd];simp
  have hx:=zl4 hmem
  have hlen:l.length=done.length:=by rw[hl];simp
  have hcl:=yg l
  simp(disch:=first|omega|assumption) only[hkl,hlt,hg,go_sem]
  refine goA_intro fun b hb=>?_
  simp(disch:=first|omega|assumption) only[go_sem]
  refine goK_pure (zkA x (by simp only[Lim];omega)) ?_
  cases hrx:zi x with
  | false =>
   have e:L.all zi=false:=by rw[hd];simp[hrx]
   simp(disch:=first|omega|assumption) only[go_sem]
   exact hQ _ _ _ _ nofun rfl (by simp[tupOf,envOf,AV.strip,AV.strip1,Zg,e])
  | true =>
   by_cases k5:x.k=5
   ·have hv:validD x.s=true:=by unfold zi at hrx;rw[k5] at hrx;simpa using hrx
    simp(disch:=first|omega|assumption) only[k5,go_sem]
    refine goK_pure (zkw x.s hv (by simp only[Lim];omega)) ?_
    simp(disch:=first|omega|assumption) only[go_sem]
    refine goP_ownS (by rw[hcl];exact ho.upd hb) (by simp only[hcl,Al2,Al3];omega) (by simp only[hcl,Al2,Al3,maxLen];omega) fun o3 H3 hs3=>?_
    have et:ZN x=ze7 x.s:=by unfold ZN;rw[if_pos k5]
    simp(disch:=first|omega|assumption) only[wrap64,go_sem]
    exact goJ (hJ (o3,l++[ze7 x.s]) H3 ⟨by rw[hl];simp[et],by simp[hr,hrx],by simpa[hcl] using hs3.own⟩) (by simp(disch:=first|omega|assumption) only[cT,List.map_append,go_sem])
   ·have et:ZN x=x.s:=by unfold ZN;rw[if_neg k5]
    simp(disch:=first|omega|assumption) only[k5,go_sem]
    refine goP_ownS (by rw[hcl];exact ho.upd hb) (by simp only[hcl,Al2,Al3];omega) (by simp only[hcl,Al2,Al3,maxLen];omega) fun o3 H3 hs3=>?_
    simp(disch:=first|omega|assumption) only[wrap64,go_sem]
    exact goJ (hJ (o3,l++[x.s]) H3 ⟨by rw[hl];simp[et],by simp[hr,hrx],by simpa[hcl] using hs3.own⟩) (by simp(disch:=first|omega|assumption) only[cT,List.map_append,go_sem])
end Go.Proofs.YtaielcdfcgpbiaaGreatDoor
namespace Go.Proofs.YtaielcdfcgpbiaaGreatDoor
open Go.Ab
structure WAt (H:Heap) (w:Nat) (o:Own) (l:List Tok) (ok:Bool) (dp:Int):Prop where
 cell:H w=some (.cells [.sl o 2 (cKs l),.bool ok,.int .i64 dp])
 own:Owned H o l.length 2
structure WStep (H:Heap) (o:Own) (w:Nat) (H':Heap) (o':Own):Prop where
 keep:∀ c x,c≠w→(∀ d,o≠.tip c d)→H c=some x→H' c=some x
 new:∀ b d,o'=.tip b d→H b=none∨∃ d0,o=.tip b d0
theorem WStep.refl (H:Heap) (o:Own) (w:Nat):WStep H o w H o:=⟨fun _ _ _ _ h=>h,fun b d e=>.inr ⟨d,e⟩⟩
theorem WStep.trans {H H1 H2:Heap} {o o1 o2:Own} {w:Nat} {x:AObj} (h:WStep H o w H1 o1) (hw:H1 w=some x) (h':WStep H1 o1 w H2 o2):WStep H o w H2 o2:=by
 refine⟨fun c y hc hn hy=>h'.keep c y hc (fun d e=>?_) (h.keep c y hc hn hy),fun b d e=>?_⟩
 ·rcases h.new c d e with h1|⟨d0,h1⟩
  ·rw[hy] at h1;cases h1
  ·exact hn d0 h1
 ·rcases h'.new b d e with h1|⟨d0,h1⟩
  ·cases hb:H b with
   | none=>exact .inl rfl
   | some y =>
    by_cases e2:∃ d,o=.tip b d
    ·exact .inr e2
    ·have hbw:b≠w:=fun e3=>by subst e3;rw[hw] at h1;cases h1
     have:=h.keep b y hbw (fun d e3=>e2 ⟨d,e3⟩) hb
     rw[h1] at this;cases this
  ·exact h.new b d0 h1
theorem WStep.box {H H':Heap} {o o':Own} {w b n:Nat} {cs:List AV} (h:WStep H o w H' o') (ho:Owned H o n 2) (hb:H b=some (.cells cs)) (hw:b≠w):H' b=some (.cells cs) :=
 h.keep b _ hw (fun d e=>by subst e;exact own_ne ho hb rfl) hb
theorem WStep.upd {H H':Heap} {o o':Own} {w:Nat} {x:AObj} (h:WStep H o w H' o'):WStep H o w (H'.upd w x) o' :=
 ⟨fun c y hc hn hy=>by rw[upd_ne hc];exact h.keep c y hc hn hy,h.new⟩
theorem WStep.alloc {H H':Heap} {o o':Own} {w b:Nat} {x:AObj} (h:WStep H o w H' o') (hb:H' b=none):WStep H o w (H'.upd b x) o' :=
 ⟨fun c y hc hn hy=>by have:=h.keep c y hc hn hy;rw[upd_ne (fun e=>by subst e;rw[hb] at this;cases this)];exact this,h.new⟩
theorem WAt.alloc {H:Heap} {w b:Nat} {o:Own} {l:List Tok} {ok:Bool} {dp:Int} {x:AObj} (h:WAt H w o l ok dp) (hb:H b=none):WAt (H.upd b x) w o l ok dp :=
 ⟨by rw[upd_ne (fun e=>by subst e;rw[h.cell] at hb;cases hb)];exact h.cell,h.own.upd hb⟩
theorem WAt.put {H:Heap} {w:Nat} {o:Own} {l:List Tok} {ok ok':Bool} {dp dp':Int} (h:WAt H w o l ok dp):WAt (H.upd w (.cells [.sl o 2 (cKs l),.bool ok',.int .i64 dp'])) w o l ok' dp' :=
 ⟨upd_same ..,yN h.own h.cell⟩
theorem WAt.app {H H1:Heap} {w:Nat} {o o1:Own} {l ts:List Tok} {ok:Bool} {dp:Int} {n:Nat} (h:WAt H w o l ok dp) (hs:OwnS H o H1 o1 n 2) (hn:n=(l++ts).length) :
  H1 w=some (.cells [.sl o 2 (cKs l),.bool ok,.int .i64 dp])∧WAt (H1.upd w (.cells [.sl o1 2 (cKs (l++ts)),.bool ok,.int .i64 dp])) w o1 (l++ts) ok dp∧WStep H o w (H1.upd w (.cells [.sl o1 2 (cKs (l++ts)),.bool ok,.int .i64 dp])) o1:=by
 subst hn
 have hc:=zL h.own h.cell hs.kept
 exact⟨hc,⟨upd_same ..,yN hs.own hc⟩,fun c y hcw hn hy=>by rw[upd_ne hcw];exact hs.kept c y hy hn,hs.new⟩
abbrev ziR (R:AV→Heap→Prop):AEnd→Heap→Prop:=fun e H'=>∃ v,e=.ret v∧R v H'
section
variable {KP:AV→Heap→Prop} {Q:AExit→Env→Heap→Prop} {st:List Fr} {ρ:Env} {H:Heap} {all items:List AItem} {d:Option Nat} {R:List Chk}
end
theorem zm7:ACalls Tryz.prog 111 [] Heap.emp (ziR fun v H'=>∃ w,v=.ptr w 0∧WAt H' w .nil [] true 0):=by
 refine ACalls.go ir111 ck111 (Al4 _) fun KP Q hQ=>?_
 simp(disch:=first|omega|assumption) only[ir111,go_sem]
 refine goA_intro fun b hb=>?_
 simp(disch:=first|omega|assumption) only[go_sem]
 exact hQ _ _ _ _ [_] nofun rfl (Low.refl _) ⟨b,rfl,upd_same ..,rfl⟩
theorem zb2 (v:Val):YV v=if ZQ v then zF v else []:=by unfold YV;rfl
theorem zle (m:Int) (k:Nat) (hk:k≤64):m.fdiv (2 ^ min k IntKind.i64.bits)=m / 2 ^ k:=by
 have e:min k IntKind.i64.bits=k:=by show min k 64=k;omega
 have hp:(0:Int)≤2 ^ k:=by exact_mod_cast Nat.zero_le _
 rw[e,Int.fdiv_eq_ediv_of_nonneg _ hp]
theorem zkb (t:TyD) (hs:t.nm.length≤Lim):Pure Tryz.prog 243 [.agg (cTy t)] (.bool (zM t)):=by
 refine Pure.go ir243 ck243 (Al4 _) fun KP Q hQ=>?_
 obtain⟨nm,ls,ms⟩:=t
 simp only at hs
 simp(disch:=first|omega|assumption) only[ir243,cTy,steps,st2,pev,rev,oev,optr,ibin,sbin,ishf,bound,mmAll,mm2,mk,mkArgs,AV.cells,AV.boxable,AV.one,AV.strip1,fillA,fillS,Nat.reduceEqDiff,reduceCtorEq,↓reduceIte,Nat.reduceAdd,Int.reduceNeg,Nat.reduceLeDiff,Int.reduceToNat,Int.reduceEq,Int.reduceLT,Int.reduceLE,Int.reduceAdd,Io,Im,If,Il,Jt,Jf,AC.rg,Jm,Jl,Ja,Fm,Fl,Fa,Imv,Imb,Iai,Iei,Igi,Isi,Ipf,Ipt,Ilb,Iia,Ilt,Iap,Ink,Iln,Ils,Iad,Iex,Ibx,Ing]
 refine goK_pure (zeJ nm hs) ?_
 cases h1:zq nm with
 | false =>
  simp(disch:=first|omega|assumption) only[steps,st2,pev,rev,oev,optr,ibin,sbin,ishf,bound,mmAll,mm2,mk,mkArgs,AV.cells,AV.boxable,AV.one,AV.strip1,fillA,fillS,Nat.reduceEqDiff,reduceCtorEq,↓reduceIte,Nat.reduceAdd,Int.reduceNeg,Nat.reduceLeDiff,Int.reduceToNat,Int.reduceEq,Int.reduceLT,Int.reduceLE,Int.reduceAdd]
  exact hQ _ _ _ _ nofun rfl (by simp[tupOf,envOf,AV.strip,AV.strip1,zM,h1])
 | true =>
  by_cases h2:0≤ls
  case neg =>
   simp(disch:=first|omega|assumption) only[h2,steps,st2,pev,rev,oev,optr,ibin,sbin,ishf,bound,mmAll,mm2,mk,mkArgs,AV.cells,AV.boxable,AV.one,AV.strip1,fillA,fillS,Nat.reduceEqDiff,reduceCtorEq,↓reduceIte,Nat.reduceAdd,Int.reduceNeg,Nat.reduceLeDiff,Int.reduceToNat,Int.reduceEq,Int.reduceLT,Int.reduceLE,Int.reduceAdd]
   exact hQ _ _ _ _ nofun rfl (by simp[tupOf,envOf,AV.strip,AV.strip1,zM,h1,h2])
  by_cases h3:ls≤4
  case neg =>
   simp(disch:=first|omega|assumption) only[h2,h3,steps,st2,pev,rev,oev,optr,ibin,sbin,ishf,bound,mmAll,mm2,mk,mkArgs,AV.cells,AV.boxable,AV.one,AV.strip1,fillA,fillS,Nat.reduceEqDiff,reduceCtorEq,↓reduceIte,Nat.reduceAdd,Int.reduceNeg,Nat.reduceLeDiff,Int.reduceToNat,Int.reduceEq,Int.reduceLT,Int.reduceLE,Int.reduceAdd]
   exact hQ _ _ _ _ nofun rfl (by simp[tupOf,envOf,AV.strip,AV.strip1,zM,h1,h2,h3])
  by_cases h4:0≤ms
  case neg =>
   simp(disch:=first|omega|assumption) only[h2,h3,h4,steps,st2,pev,rev,oev,optr,ibin,sbin,ishf,bound,mmAll,mm2,mk,mkArgs,AV.cells,AV.boxable,AV.one,AV.strip1,fillA,fillS,Nat.reduceEqDiff,reduceCtorEq,↓reduceIte,Nat.reduceAdd,Int.reduceNeg,Nat.reduceLeDiff,Int.reduceToNat,Int.reduceEq,Int.reduceLT,Int.reduceLE,Int.reduceAdd]
   exact hQ _ _ _ _ nofun rfl (by simp[tupOf,envOf,AV.strip,AV.strip1,zM,h1,h2,h3,h4])
  have w1:IntKind.wrap .i64 (ls+1)=ls+1:=wrap64 (by omega) (by omega)
  have w2:¬ (ls+1<0):=by omega
  have e1:(ls+1).toNat=ls.toNat+1:=by omega
  have e2:=zle ms (ls.toNat+1) (by omega)
  have hpow:(0:Int)<2 ^ (ls.toNat+1):=by exact_mod_cast Nat.pos_of_ne_zero (by simp)
  have e3:(ms / 2 ^ (ls.toNat+1)=0)=(ms<2 ^ (ls.toNat+1)):=propext ⟨fun h=>by
   by_cases hlt:ms<2 ^ (ls.toNat+1)
   ·exact hlt
   ·have:=(Int.le_ediv_iff_mul_le hpow).2 (show 1*2 ^ (ls.toNat+1)≤ms by omega)
    omega,fun h=>Int.ediv_eq_zero_of_lt h4 h⟩
  simp(disch:=first|omega|assumption) only[h2,h3,h4,w1,w2,e1,e2,e3,steps,st2,pev,rev,oev,optr,ibin,sbin,ishf,bound,mmAll,mm2,mk,mkArgs,AV.cells,AV.boxable,AV.one,AV.strip1,fillA,fillS,Nat.reduceEqDiff,reduceCtorEq,↓reduceIte,Nat.reduceAdd,Int.reduceNeg,Nat.reduceLeDiff,Int.reduceToNat,Int.reduceEq,Int.reduceLT,Int.reduceLE,Int.reduceAdd]
  exact hQ _ _ _ _ nofun rfl (by simp[tupOf,envOf,AV.strip,AV.strip1,zM,h1,h2,h3,h4])
def zaj (n:Nat) (m:Int):Nat→List Tok
 | 0=>[]
 | j+1=>zaJ n m j++zaj n m j
theorem zcm (n:Nat) (m:Int):∀ j,zaf n m j=zaj n m (j+1)
 | 0=>by simp[zaf,zaj]
 | j+1=>by rw[zaf,zcm n m j];rfl
theorem and1 {x:Int} (h0:0≤x) (h1:x<64):IntKind.wrap .i64 ((BitVec.ofInt IntKind.i64.bits x &&& BitVec.ofInt IntKind.i64.bits 1).toNat:Int)=x % 2:=by
 have:∀ y:Fin 64,IntKind.wrap .i64 ((BitVec.ofInt IntKind.i64.bits (y.val:Int) &&& BitVec.ofInt IntKind.i64.bits 1).toNat:Int)=(y.val:Int) % 2:=by decide +kernel
 have:=this ⟨x.toNat,by omega⟩
 simp only[Int.toNat_of_nonneg h0] at this
 exact this
abbrev pl (v:Val):Prop:=zal zq v=true
inductive Shape:Val→Prop
 | null:Shape (.mk 0 0 [] [] [])
 | bool (n:Int) (h:n=0∨n=1):Shape (.mk 1 n [] [] [])
 | int (n:Int):Shape (.mk 2 n [] [] [])
 | num (s:List UInt8) (h:zd0 s=true):Shape (.mk 3 0 s [] [])
 | text (s:List UInt8):Shape (.mk 4 0 s [] [])
 | word (s:List UInt8) (h:zhb s=false):Shape (.mk 5 0 s [] [])
 | var (s:List UInt8):Shape (.mk 8 0 s [] [])
 | list (l:List Val) (h:zat zq l=true):Shape (.mk 6 0 [] l [])
 | obj (m:List Mem) (h:zaq zq m=true):Shape (.mk 7 0 [] [] m)
theorem zb9 {n:Int} {s:List UInt8} {l:List Val} {m:List Mem}:zaM n s l m=true↔n=0∧s=[]∧l=[]∧m=[]:=by
 simp[zaM]
theorem shape:∀ v,pl v→Shape v
 | .mk k n s l m,h=>by
  simp only[pl,zal] at h
  split at h
  ·rename_i k6
   subst k6
   simp only[Al0,zb9] at h
   obtain⟨h1,rfl,rfl,_,rfl⟩:=h
   exact .list l h1
  ·split at h
   ·rename_i k7
    subst k7
    simp only[Al0,zb9] at h
    obtain⟨h1,rfl,rfl,rfl,_⟩:=h
    exact .obj m h1
   ·simp only[zX,Al0,zb9] at h
    obtain⟨⟨_,_,rfl,rfl⟩,h⟩:=h
    split at h
    ·rename_i k0
     subst k0
     simp only[Al0,zn] at h
     obtain⟨rfl,rfl⟩:=h
     exact .null
    split at h
    ·rename_i k0
     subst k0
     simp only[Al0,YU,zn] at h
     obtain⟨h,rfl⟩:=h
     exact .bool n h
    split at h
    ·rename_i k0
     subst k0
     simp only[zn] at h
     subst h
     exact .int n
    split at h
    ·rename_i k0
     subst k0
     simp only[Al0,zn] at h
     obtain⟨rfl,h⟩:=h
     exact .num s h
    split at h
    ·rename_i k0
     subst k0
     simp only[Al0,zn] at h
     obtain⟨rfl,h⟩:=h
     exact .text s
    split at h
    ·rename_i k0
     subst k0
     simp only[Al0,zn,Bool.not_eq_true'] at h
     obtain⟨rfl,_,h⟩:=h
     exact .word s h
    split at h
    ·rename_i k0
     subst k0
     simp only[Al0,zn] at h
     obtain⟨rfl,_⟩:=h
     exact .var s
    ·cases h
theorem zjz (n s l m):zF (.mk 0 n s l m)=[⟨2,[110,117,108,108]⟩]:=by simp[zF]
theorem zjk (n s l m):zF (.mk 1 n s l m)=[⟨2,boolT (decide (n=1))⟩]:=by simp[zF]
theorem zld (n s l m):zF (.mk 2 n s l m)=[⟨3,Lib.itoa n⟩]:=by simp[zF]
theorem zlh (n s l m):zF (.mk 3 n s l m)=[⟨ZR s,s⟩]:=by simp[zF]
theorem t_text (n s l m):zF (.mk 4 n s l m)=[⟨5,s⟩]:=by simp[zF]
theorem zjf (n s l m):zF (.mk 5 n s l m)=[⟨2,s⟩]:=by simp[zF]
theorem zln (n s l m):zF (.mk 8 n s l m)=[⟨1,[36]⟩,⟨2,s⟩]:=by simp[zF]
theorem ziZ (n s l m):zF (.mk 6 n s l m)=⟨1,[91]⟩::(Zl l++[⟨1,[93]⟩]):=by simp[zF]
theorem zk7 (n s l m):zF (.mk 7 n s l m)=⟨1,[123]⟩::(yh m++[⟨1,[125]⟩]):=by simp[zF]
theorem zel {s:List UInt8} (h:zd0 s=true):(ZR s=4∨ZR s=3)∧∀ n,inR n→ZR s=3→Lib.itoa n≠s:=by
 simp only[zd0,YU,zn,Al0,Bool.not_eq_true'] at h
 refine⟨h.imp id (·.1),fun n hn h3 e=>?_⟩
 rcases h with h|⟨_,h⟩
 ·omega
 ·rw[Zd,← e,zdL n hn.1 hn.2,e,h3] at h
  simp[okI] at h
theorem zjy (v:Val) (h:pl v):∃ t r,zF v=t::r∧t≠⟨1,[93]⟩∧t≠⟨1,[125]⟩:=by
 cases shape v h with
 | null=>exact⟨_,_,zjz ..,by simp,by simp⟩
 | bool n h=>exact⟨_,_,zjk ..,by simp,by simp⟩
 | int n=>exact⟨_,_,zld ..,by simp,by simp⟩
 | num s h =>
  have:=(zel h).1
  refine⟨_,_,zlh ..,fun e=>?_,fun e=>?_⟩<;>(injection e with e _;omega)
 | text s=>exact⟨_,_,t_text ..,by simp,by simp⟩
 | word s h=>exact⟨_,_,zjf ..,by simp,by simp⟩
 | var s=>exact⟨_,_,zln ..,by simp,by simp⟩
 | list l h=>exact⟨_,_,ziZ ..,by simp,by simp⟩
 | obj m h=>exact⟨_,_,zk7 ..,by simp,by simp⟩
theorem yR (x:Tok) (t:TS):hdT (x::t)=x:=rfl
theorem ZO (m:List UInt8) (x:Tok) (t:TS):isP m (x::t)=(decide (x.k=1)&&decide (x.s=m)):=rfl
theorem zf5 (m:List UInt8) (x:Tok) (t:TS):isW m (x::t)=(decide (x.k=2)&&decide (x.s=m)):=rfl
theorem yd (m n:List UInt8) (t:TS):isP m (pk n::t)=decide (n=m):=by simp[ZO,pk]
theorem zco (m n:List UInt8) (t:TS):isP m (wk n::t)=false:=by simp[ZO,wk]
theorem zbx (m n:List UInt8) (t:TS):isW m (wk n::t)=decide (n=m):=by simp[zf5,wk]
theorem zlu (m n:List UInt8) (t:TS):isW m (pk n::t)=false:=by simp[zf5,pk]
theorem yH (m:List UInt8) (t:TS):yt m (pk m::t)=.ok ((),t):=by simp[yt,yd]
theorem yf (s:List UInt8) (t:TS):z7 (wk s::t)=.ok (s,t):=by simp[z7,yR,wk]
theorem zad {α:Type} {tk:α→List Tok} {m:List UInt8} {f:TS→PR α} {F:TS→Prop} (hF2:∀ t,F (pk m::t)):∀(l:List α),(∀ x∈l,∀ t,F (tk x++t))→(∀ x∈l,∀ t,isP m (tk x++t)=false)→(∀ x∈l,∀ t,F t→f (tk x++t)=.ok (x,t)) →
  ∀(n:Nat) (acc:List α) (t:TS),l.length<n→zJ m f n acc (l.flatMap tk++pk m::t)=.ok (acc++l,t)
 | [],_,_,_,n+1,acc,t,_=>by simp[zJ,yd]
 | x::l,h1,h2,h3,n+1,acc,t,hn=>by
  have e:(x::l).flatMap tk++pk m::t=tk x++(l.flatMap tk++pk m::t):=by simp
  have hF:F (l.flatMap tk++pk m::t):=by
   cases l with
   | nil=>exact hF2 t
   | cons y l=>simp only[List.flatMap_cons,Yj];exact h1 y (by simp) _
  rw[e,zJ,h2 x (by simp),h3 x (by simp) _ hF]
  simp only[Al7,if_false,pb]
  rw[zad hF2 l (fun y hy=>h1 y (by simp[hy])) (fun y hy=>h2 y (by simp[hy])) (fun y hy=>h3 y (by simp[hy])) n _ t (by simpa using hn)]
  simp
theorem ZF {α:Type} {tk:α→List Tok}:∀(l:List α),(∀ x∈l,tk x≠[])→l.length≤(l.flatMap tk).length
 | [],_=>by simp
 | x::l,h=>by
  have h1:=List.length_pos_iff.2 (h x (by simp))
  have h2:=ZF l fun y hy=>h y (by simp[hy])
  simp only[List.flatMap_cons,Al5,Al2];omega
theorem YI {α:Type} {tk:α→List Tok} {m:List UInt8} {f:TS→PR α} {F:TS→Prop} (hF2:∀ t,F (pk m::t)) (l:List α) (hl:l≠[]) (h1:∀ x∈l,∀ t,F (tk x++t)) (h2:∀ x∈l,∀ t,isP m (tk x++t)=false) (h3:∀ x∈l,∀ t,F t→f (tk x++t)=.ok (x,t))
  (t:TS):yx m f (l.flatMap tk++pk m::t)=.ok (l,t):=by
 cases l with
 | nil=>exact absurd rfl hl
 | cons x l =>
  have e:(x::l).flatMap tk++pk m::t=tk x++(l.flatMap tk++pk m::t):=by simp
  have hF:F (l.flatMap tk++pk m::t):=by
   cases l with
   | nil=>exact hF2 t
   | cons y l=>simp only[List.flatMap_cons,Yj];exact h1 y (by simp) _
  have hne:∀ y∈l,tk y≠[]:=fun y hy h=>by have:=h2 y (by simp[hy]) (pk m::t);rw[h] at this;simp[yd] at this
  have:=ZF l hne
  rw[e,yx,h3 x (by simp) _ hF]
  simp only[pb]
  rw[zad hF2 l (fun y hy=>h1 y (by simp[hy])) (fun y hy=>h2 y (by simp[hy])) (fun y hy=>h3 y (by simp[hy])) _ _ t (by simp only[Al5];omega)]
  simp
theorem zcy {α:Type} {tk:α→List Tok} {m:List UInt8} {f:TS→PR α} {F:TS→Prop} (hF1:∀ t,F (pk m::t)):∀(l:List α),(∀ x∈l,∀ t,F t→f (tk x++t)=.ok (x,t)) →
  ∀(n:Nat) (acc:List α) (t:TS),F t→isP m t=false→l.length<n→yq m f n acc (l.flatMap (fun x=>pk m::tk x)++t)=.ok (acc++l,t)
 | [],_,n+1,acc,t,_,ht,_=>by simp[yq,ht]
 | x::l,h3,n+1,acc,t,hFt,ht,hn=>by
  have e:(x::l).flatMap (fun x=>pk m::tk x)++t=pk m::(tk x++(l.flatMap (fun x=>pk m::tk x)++t)):=by simp
  have hF:F (l.flatMap (fun x=>pk m::tk x)++t):=by
   cases l with
   | nil=>exact hFt
   | cons y l=>simp only[List.flatMap_cons,Al6];exact hF1 _
  rw[e,yq,yd]
  simp only[decide_true,if_true,List.tail_cons]
  rw[h3 x (by simp) _ hF]
  simp only[pb]
  rw[zcy hF1 l (fun y hy=>h3 y (by simp[hy])) n _ t hFt ht (by simpa using hn)]
  simp
theorem zeH (n:Nat) (m:Int) (i:Nat):zaJ (n+1) m (i+1)=zaJ n (m / 2) i:=by
 have e:zam m (i+1)=zam (m / 2) i:=by
  unfold zam
  rw[Int.pow_succ,Int.mul_comm,← Int.ediv_ediv_of_nonneg (by decide)]
 unfold zaJ
 rw[e]
 simp
theorem zeC (n:Nat) (m:Int):∀ i,zaf (n+1) m (i+1)=zaf n (m / 2) i++zaJ (n+1) m 0
 | 0=>by rw[zaf,zaf,zaf,zeH]
 | i+1=>by rw[zaf,zeC n m i,zeH];simp[zaf]
theorem zfN (s:List UInt8):∀(n k:Nat) (m:Int) (t:TS),n≤k→0≤m→m<2 ^ (n+1)→isP [33] t=false→Y4 k (List.replicate n (pk [91])++(wk s::zaf n m n)++t)=.ok (⟨s,n,m⟩,t)
 | 0,k,m,t,_,h0,h1,ht=>by
  have hm:m=0∨m=1:=by omega
  rw[Z2,zcF.eq_def]
  rcases hm with rfl|rfl
  ·simp[zco,yf,pb,zaf,zaJ,zam,zaC,ht]
  ·simp[zco,yf,pb,zaf,zaJ,zam,zaC,yd]
 | n+1,0,_,_,h,_,_,_=>by omega
 | n+1,k+1,m,t,hk,h0,h1,ht=>by
  have e:List.replicate (n+1) (pk [91])++(wk s::zaf (n+1) m (n+1))++t=pk [91]::(List.replicate n (pk [91])++(wk s::zaf n (m / 2) n)++(zaJ (n+1) m 0++t)):=by
   rw[zeC];simp[List.replicate_succ]
  have e2:zaJ (n+1) m 0++t=pk [93]::((if zam m 0 then [pk [33]] else [])++t):=by simp[zaJ]
  rw[e,Z2,zcF.eq_def,yd,zfm]
  simp only[decide_true,if_true,List.tail_cons]
  rw[zfN s n k (m / 2) _ (by omega) (by omega) (by rw[Int.pow_succ] at h1;omega) (by rw[e2,yd];decide),e2]
  simp only[pb,yH]
  unfold zaC
  have hb:zam m 0=decide (m % 2=1):=by simp[zam]
  rw[hb]
  by_cases h2:m % 2=1
  ·simp[h2,yd];omega
  ·simp[h2,ht];omega
theorem zdV:∀ l,Zl l=l.flatMap zF
 | []=>rfl
 | v::r=>by rw[Zl,zdV r];rfl
theorem zbl:∀ l,yh l=l.flatMap Yq
 | []=>rfl
 | v::r=>by rw[yh,zbl r];rfl
theorem zaQ {may:List UInt8→Bool}:∀ {l:List Val},zat may l=true→∀ v∈l,zal may v=true
 | _::_,h,v,hv=>by
  simp only[zat,Al0] at h
  exact(List.mem_cons.1 hv).elim (fun e=>e▸h.1) (zaQ h.2 v)
theorem zd6 {may:List UInt8→Bool}:∀ {l:List Mem},zaq may l=true→∀ v∈l,ziu may v=true
 | _::_,h,v,hv=>by
  simp only[zaq,Al0] at h
  exact(List.mem_cons.1 hv).elim (fun e=>e▸h.1) (zd6 h.2 v)
theorem zau:∀ {l:List Val} {n:Int},n≤yG l n∧∀ v∈l,zO v≤yG l n
 | [],n=>⟨Int.le_refl _,fun v hv=>by cases hv⟩
 | x::l,n=>by
  have h1:=zau (l:=l) (n:=mm2 true n (zO x))
  have h2:=zeU n (zO x)
  have h3:zO x≤mm2 true n (zO x):=by simp only[mm2,if_true];split<;>omega
  simp only[yG]
  refine⟨by omega,fun v hv=>?_⟩
  rcases List.mem_cons.1 hv with rfl|h
  ·omega
  ·exact h1.2 v h
theorem zaD:∀ {l:List Mem} {n:Int},n≤yE l n∧∀ v∈l,y5 v≤yE l n
 | [],n=>⟨Int.le_refl _,fun v hv=>by cases hv⟩
 | x::l,n=>by
  have h1:=zaD (l:=l) (n:=mm2 true n (y5 x))
  have h2:=zeU n (y5 x)
  have h3:y5 x≤mm2 true n (y5 x):=by simp only[mm2,if_true];split<;>omega
  simp only[yE]
  refine⟨by omega,fun v hv=>?_⟩
  rcases List.mem_cons.1 hv with rfl|h
  ·omega
  ·exact h1.2 v h
mutual
theorem zbv:∀ v acc,acc.length≤(zR v acc).length∧(zR v acc=acc∨acc.length<(zR v acc).length)
 | .mk k n s l m,acc=>by
  have h1:=zap l acc
  have h2:=zao m acc
  simp only[zR]
  split
  ·split
   ·exact⟨Al4 _,.inl rfl⟩
   ·simp
  ·split
   ·exact h1
   ·split
    ·exact h2
    ·exact⟨Al4 _,.inl rfl⟩
theorem zap:∀ l acc,acc.length≤(y0 l acc).length∧(y0 l acc=acc∨acc.length<(y0 l acc).length)
 | [],acc=>⟨Al4 _,.inl rfl⟩
 | v::r,acc=>by
  have h1:=zbv v acc
  have h2:=zap r (zR v acc)
  simp only[y0]
  refine⟨by omega,?_⟩
  rcases h1.2 with e|h
  ·rw[e] at h2 ⊢;exact h2.2
  ·exact .inr (by omega)
theorem zdW:∀ x acc,acc.length≤(YB x acc).length∧(YB x acc=acc∨acc.length<(YB x acc).length)
 | .mk s v,acc=>by simpa only[YB] using zbv v acc
theorem zao:∀ l acc,acc.length≤(y6 l acc).length∧(y6 l acc=acc∨acc.length<(y6 l acc).length)
 | [],acc=>⟨Al4 _,.inl rfl⟩
 | v::r,acc=>by
  have h1:=zdW v acc
  have h2:=zao r (YB v acc)
  simp only[y6]
  refine⟨by omega,?_⟩
  rcases h1.2 with e|h
  ·rw[e] at h2 ⊢;exact h2.2
  ·exact .inr (by omega)
end
theorem zdT:∀ {l:List Val},y0 l []=[]→∀ v∈l,zR v []=[]
 | x::l,h,v,hv=>by
  simp only[y0] at h
  have h1:=zbv x []
  have h2:=zap l (zR x [])
  rw[h] at h2
  have e:zR x []=[]:=by
   rcases h1.2 with e|e
   ·exact e
   ·simp at h2 e;omega
  rcases List.mem_cons.1 hv with rfl|hm
  ·exact e
  ·rw[e] at h;exact zdT h v hm
theorem zdz:∀ {l:List Mem},y6 l []=[]→∀ v∈l,YB v []=[]
 | x::l,h,v,hv=>by
  simp only[y6] at h
  have h1:=zdW x []
  have h2:=zao l (YB x [])
  rw[h] at h2
  have e:YB x []=[]:=by
   rcases h1.2 with e|e
   ·exact e
   ·simp at h2 e;omega
  rcases List.mem_cons.1 hv with rfl|hm
  ·exact e
  ·rw[e] at h;exact zdz h v hm
theorem zga (v:Val) (h:pl v) (t:TS):isP [93] (zF v++t)=false:=by
 obtain⟨x,r,e,h1,_⟩:=zjy v h
 rw[e,Al6,ZO]
 cases hx:decide (x.k=1)&&decide (x.s=[93]) with
 | false=>rfl
 | true =>
  simp only[Al0,zn] at hx
  exact absurd (by cases x;simp_all) h1
theorem zcw {f:TS→PR Val} {s:List UInt8} {v:Val} (hf:∀ t,f (zF v++t)=.ok (v,t)) (t:TS):zP f (Yq (.mk s v)++t)=.ok (.mk s v,t):=by
 have e:Yq (.mk s v)++t=wk s::pk [58]::(zF v++t):=by simp[Yq,wk,pk]
 rw[e,zP,yf]
 simp only[pb,yH,hf]
theorem zi1 (fixed:Bool):∀ v,pl v→wfV v→∀(k:Nat) (t:TS),zO v≤k→(fixed=true→zR v []=[])→yA fixed k (zF v++t)=.ok (v,t):=by
 refine Val.ind fun k n s l m ihl ihm hp hw d t hd hv=>?_
 cases shape _ hp with
 | null=>rw[zjz,zY,Z3.eq_def];simp[yR,YA,zV]
 | bool n h =>
  rw[zjk,zY,Z3.eq_def]
  rcases h with rfl|rfl<;>simp[yR,YA,boolT]
 | int n =>
  have h:=zdE hw.1
  rw[zld,zY,Z3.eq_def];simp[yR,zdD,h.1,h.2]
 | num s h =>
  have h1:=(zel h).1
  have h2:Zd s=false:=by
   simp only[zd0,YU,zn,Al0,Bool.not_eq_true'] at h
   rcases h with h|h
   ·simp[Zd,h]
   ·exact h.2
  have h3:¬ (ZR s=2):=by omega
  have h4:ZR s=3∨ZR s=4:=by omega
  rw[zlh,zY,Z3.eq_def];simp[yR,zdD,h2,h3,h4]
 | text s=>rw[t_text,zY,Z3.eq_def];simp[yR]
 | word s h =>
  rw[zjf,zY,Z3.eq_def]
  have h1:s≠[110,117,108,108]∧s≠[116,114,117,101]∧s≠[102,97,108,115,101]:=by
   simp only[zhb,Bool.or_eq_false_iff,decide_eq_false_iff_not] at h
   exact⟨h.2.2,h.1,h.2.1⟩
  simp[yR,YA,h1.1,h1.2.1,h1.2.2]
 | var s =>
  cases fixed with
  | true=>have:=hv rfl;simp[zR,zf1] at this
  | false =>
   rw[zln,zY,Z3.eq_def]
   have e:=yH [36] (⟨2,s⟩::t)
   have e2:=yf s t
   simp only[pk,wk] at e e2
   simp[yR,ZO,e,e2,pb]
 | list l h =>
  have hd':yG l 0+1≤d:=by simpa[zO] using hd
  have h0:=(zau (l:=l) (n:=0)).1
  obtain⟨d,rfl⟩:∃ e,d=e+1:=⟨d-1,by omega⟩
  have hv':fixed=true→y0 l []=[]:=fun e=>by simpa[zR] using hv e
  rw[ziZ,zY,Z3.eq_def]
  have hm:=zad (tk:=zF) (m:=[93]) (f:=yA fixed d) (F:=fun _=>True) (fun _=>trivial) l (fun _ _ _=>trivial) (fun x hx t=>zga x (zaQ h x hx) t)
   (fun x hx t _=>ihl x hx (zaQ h x hx) (zdn hw.2.1 x hx) d t (by have:=(zau (l:=l) (n:=0)).2 x hx;omega) fun e=>zdT (hv' e) x hx)
  have e2:zJ [93] (yA fixed d) ((Zl l).length+(t.length+1)+1) [] (Zl l++⟨1,[93]⟩::t)=.ok (l,t):=by
   have e4:=ZF (tk:=zF) l fun x hx e=>by have:=zga x (zaQ h x hx) (pk [93]::[]);rw[e] at this;simp[yd] at this
   rw[zdV]
   have e5:=hm ((l.flatMap zF).length+(t.length+1)+1) [] t (by omega)
   rw[Zh] at e5
   exact e5
  simp[yR,ZO,e2,pb,zfJ]
 | obj m h =>
  have hd':yE m 0+1≤d:=by simpa[zO] using hd
  have h0:=(zaD (l:=m) (n:=0)).1
  obtain⟨d,rfl⟩:∃ e,d=e+1:=⟨d-1,by omega⟩
  have hv':fixed=true→y6 m []=[]:=fun e=>by simpa[zR] using hv e
  have hst:∀(x:Mem) (t:TS),isP [125] (Yq x++t)=false:=fun x t=>by cases x;simp[Yq,ZO]
  rw[zk7,zY,Z3.eq_def]
  have hm:=zad (tk:=Yq) (m:=[125]) (f:=zP (yA fixed d)) (F:=fun _=>True) (fun _=>trivial) m (fun _ _ _=>trivial) (fun x hx t=>hst x t)
   (fun x hx t _=>by
    obtain⟨s,v⟩:=x
    have h1:=zd6 h _ hx
    simp only[ziu,Al0] at h1
    exact zcw (fun t=>ihm s v hx h1.2 (zav hw.2.2 s v hx) d t (by have:=(zaD (l:=m) (n:=0)).2 _ hx;simp only[y5] at this;omega) fun e=>by simpa[YB] using zdz (hv' e) _ hx) t)
  have e2:zJ [125] (zP (yA fixed d)) ((yh m).length+(t.length+1)+1) [] (yh m++⟨1,[125]⟩::t)=.ok (m,t):=by
   have e4:=ZF (tk:=Yq) m fun x hx e=>by have:=hst x (pk [125]::[]);rw[e] at this;simp[yd] at this
   rw[zbl]
   have e5:=hm ((m.flatMap Yq).length+(t.length+1)+1) [] t (by omega)
   rw[Zh] at e5
   exact e5
  simp[yR,ZO,e2,pb,zfJ]
theorem zgx {dp:Int} {fixed:Bool} {v:Val} (h:zI dp fixed v=true):pl v∧dp+zO v≤16∧(fixed=true→zR v []=[]):=by
 simp only[zI,ZQ,Al0,YU,Bool.not_eq_true',zn] at h
 refine⟨h.1.1,h.2.1,fun e=>?_⟩
 rcases h.2.2 with h|h
 ·rw[h] at e;cases e
 ·exact Ze.1 h
theorem zde {dp:Int} {k:Nat} {fixed:Bool} {v:Val} (hk:dp+k=16) (h:zI dp fixed v=true) (hw:wfV v) (t:TS):yA fixed k (zF v++t)=.ok (v,t):=by
 obtain⟨h1,h2,h3⟩:=zgx h
 exact zi1 fixed v h1 hw k t (by omega) h3
theorem ziS {dp:Int} {k:Nat} {fixed:Bool} (hk:dp+k=16) (l:List Mem) (h:Yw dp fixed l=true) (hw:zaF l) (t:TS) (ht:isP [40] t=false):YH fixed k (Yy l++t)=.ok (l,t):=by
 unfold YH Yy
 by_cases hl:l.length=0
 ·rw[if_pos hl]
  rw[Ze] at hl
  subst hl
  simp[ht]
 ·rw[if_neg hl]
  have hne:l≠[]:=fun e=>hl (by rw[e];rfl)
  have hh:∀(x:Mem) (t:TS),isP [41] (Yq x++t)=false:=fun x t=>by cases x;simp[Yq,ZO]
  have e:pk [40]::(yh l++[pk [41]])++t=pk [40]::(l.flatMap Yq++pk [41]::t):=by rw[zbl];simp
  rw[e,yd]
  simp only[decide_true,if_true,List.tail_cons]
  refine YI (F:=fun _=>True) (fun _=>trivial) l hne (fun _ _ _=>trivial) (fun x _ t=>hh x t) (fun x hx t _=>?_) t
  obtain⟨s,v⟩:=x
  have h1:=yD.1 h _ hx
  simp only[zcG,Al0] at h1
  exact zcw (fun t=>zde hk h1.2 (zav hw s v hx) t) t
theorem zkh {dp:Int} {k:Nat} {fixed:Bool} (hk:dp+k=16) (d:DirD) (h:zaN dp fixed d=true) (hw:wfD d) (t:TS) (ht:isP [40] t=false):zcB fixed k (wk d.nm::Yy d.args++t)=.ok (d,t):=by
 simp only[zaN,Al0] at h
 rw[Al6,zcB,yf]
 simp only[pb,ziS hk d.args h.2 hw t ht]
theorem zf6 (l:List DirD):tDs l=l.flatMap fun d=>pk [64]::(wk d.nm::Yy d.args):=rfl
theorem ziz {dp:Int} {k:Nat} {fixed:Bool} (hk:dp+k=16) (l:List DirD) (h:Yr dp fixed l=true) (hw:zg9 l) (t:TS) (h1:isP [40] t=false) (h2:isP [64] t=false):zaK fixed k (tDs l++t)=.ok (l,t):=by
 unfold zaK
 rw[zf6]
 have hlen:=ZF (tk:=fun d:DirD=>pk [64]::(wk d.nm::Yy d.args)) l fun x _=>by simp
 have:=zcy (tk:=fun d:DirD=>wk d.nm::Yy d.args) (m:=[64]) (f:=zcB fixed k) (F:=fun t=>isP [40] t=false) (fun t=>by rw[yd];decide) l (fun d hd t ht=>zkh hk d (yD.1 h d hd) (hw d hd) t ht) ((l.flatMap fun d=>pk [64]::(wk d.nm::Yy d.args)).length+t.length+1) [] t h1 h2 (by omega)
 simpa using this
theorem zi6 (m:List UInt8) (hm:m≠[64]) (l:List DirD) (t:TS) (ht:isP m t=false):isP m (tDs l++t)=false:=by
 cases l with
 | nil=>exact ht
 | cons d l=>simp only[zf6,List.flatMap_cons,Al6,yd];exact decide_eq_false (Ne.symm hm)
theorem zbt (ty:TyD) (h:zM ty=true) (t:TS) (ht:isP [33] t=false):Y4 4 (tTy ty++t)=.ok (ty,t):=by
 simp only[zM,Al0,zn] at h
 obtain⟨_,h1,h2,h3,h4⟩:=h
 have:=zfN ty.nm ty.lists.toNat 4 ty.musts t (by omega) h3 h4 ht
 rw[Int.toNat_of_nonneg h1] at this
 exact this
theorem zmp {v:Val} (h:eqd v zV=true):v=zV:=by
 by_cases e:v=zV
 ·exact e
 ·rw[zl e] at h;cases h
theorem zfr (dp:Int) (fixed:Bool) (l:List DirD) (x:DirD):Yr dp fixed (l++[x])=(Yr dp fixed l&&zaN dp fixed x):=by simp[Yr]
theorem zkj (l:List DirD) (x:DirD):tDs (l++[x])=tDs l++tD x:=by simp[tDs]
theorem zgk (l:List DirD) (x:DirD):bDs (l++[x])=bDs l+bD x:=by simp[bDs]
theorem zgh (l:List VarD) (x:VarD):bWs (l++[x])=bWs l+bW x:=by simp[bWs]
noncomputable def zhM (dp:Int) (x:VarD):Bool:=zq x.nm&&(zM x.t&&(if x.has then zI dp true x.d else eqd x.d zV))
theorem ze1:bV zV=1∧wfV zV:=⟨rfl,zfa,trivial,trivial⟩
theorem ziV (s:List UInt8):bV (YA s)≤1+s.length∧wfV (YA s):=by
 unfold YA
 split
 ·exact⟨by rw[ze1.1];omega,ze1.2⟩
 split
 ·exact⟨by simp only[bV,bVs,bMs,Al3];omega,by simp[inR],trivial,trivial⟩
 split
 ·exact⟨by simp only[bV,bVs,bMs,Al3];omega,zfa,trivial,trivial⟩
 ·exact⟨by simp only[bV,bVs,bMs];omega,zfa,trivial,trivial⟩
theorem yQ {f:TS→PR Val} (hf:GP bV wfV 1 f):GP bM wfM 1 (zP f):=fun t x t' h=>by
 obtain⟨s,t1,h1,h2⟩:=zm h
 obtain⟨_,t2,h3,h4⟩:=zm h2
 obtain⟨v,t3,h5,h6⟩:=zm h4
 cases h6
 have g1:=zD _ _ _ h1
 have g2:=yb _ _ _ _ h3
 have g3:=hf _ _ _ h5
 have w1:=g1.w
 have w2:=g2.w
 have w3:=g3.w
 simp only[b0] at w2
 exact⟨(g3.suf.trans g2.suf).trans g1.suf,by simp only[bM];omega,g3.ok⟩
theorem zi7:∀ l:List Val,bVs l+l.length=sm bV l
 | []=>rfl
 | v::r=>by have:=zi7 r;simp only[sm,bVs,Al2,List.map_cons,List.sum_cons] at *;omega
theorem zhp:∀ l:List Mem,bMs l+l.length=sm bM l
 | []=>rfl
 | v::r=>by have:=zhp r;simp only[sm,bMs,Al2,List.map_cons,List.sum_cons] at *;omega
theorem zh3:∀ {l:List Val},(∀ v∈l,wfV v)→zfn l
 | [],_=>trivial
 | v::r,h=>⟨h v (.head _),zh3 fun x hx=>h x (.tail _ hx)⟩
theorem zff:∀ {l:List Mem},(∀ v∈l,wfM v)→zaF l
 | [],_=>trivial
 | v::r,h=>⟨h v (.head _),zff fun x hx=>h x (.tail _ hx)⟩
theorem zer (fixed:Bool) (k:Nat) (ih:∀ n,k=n+1→GP bV wfV 1 (yA fixed n)):GP bV wfV 1 (yA fixed k):=fun t v t' h=>by
 rw[zY,Z3.eq_def] at h
 split at h
 ·rename_i hk
  cases h
  have h0:=zbu (t:=t) (by omega)
  have h1:=ziV (hdT t).s
  exact⟨h0.1,by omega,h1.2⟩
 split at h
 ·rename_i hk
  cases h
  have h0:=zbu (t:=t) (by omega)
  have h1:=zjU (hdT t).s
  exact⟨h0.1,by omega,h1.2⟩
 split at h
 ·rename_i hk
  cases h
  have h0:=zbu (t:=t) (by omega)
  exact⟨h0.1,by simp only[bV,bVs,bMs];omega,zfa,trivial,trivial⟩
 split at h
 ·rename_i hp
  have h0:=Ya hp
  cases k with
  | zero=>cases h
  | succ n =>
   obtain⟨l,t1,h1,h2⟩:=zm h
   cases h2
   have g:=zaP (ih n rfl) _ [] _ _ _ (fun x hx=>by cases hx) h1
   have e:=zi7 l
   have e0:sm bV []=0:=rfl
   exact⟨g.1.trans h0.1,by simp only[bV,bMs,Al3];omega,zfa,zh3 g.2.2,trivial⟩
 split at h
 ·rename_i hp
  have h0:=Ya hp
  cases k with
  | zero=>cases h
  | succ n =>
   obtain⟨l,t1,h1,h2⟩:=zm h
   cases h2
   have g:=zaP (yQ (ih n rfl)) _ [] _ _ _ (fun x hx=>by cases hx) h1
   have e:=zhp l
   have e0:sm bM []=0:=rfl
   exact⟨g.1.trans h0.1,by simp only[bV,bVs,Al3];omega,zfa,trivial,zff g.2.2⟩
 split at h
 ·cases h
 ·obtain⟨_,t1,h1,h2⟩:=zm h
  obtain⟨s,t2,h3,h4⟩:=zm h2
  cases h4
  have g1:=yb _ _ _ _ h1
  have g2:=zD _ _ _ h3
  have w1:=g1.w
  have w2:=g2.w
  simp only[b0] at w1
  exact⟨g2.suf.trans g1.suf,by simp only[bV,bVs,bMs];omega,zfa,trivial,trivial⟩
theorem Zn (fixed:Bool):∀ k,GP bV wfV 1 (yA fixed k)
 | 0=>zer fixed 0 fun n h=>by cases h
 | k+1=>zer fixed (k+1) fun n h=>by cases h;exact Zn fixed k
theorem zh6 (fixed:Bool) (k:Nat):GP bMs zaF 0 (YH fixed k):=fun t a t' h=>by
 unfold YH at h
 split at h
 ·rename_i hp
  have h0:=Ya hp
  have g:=Yh (yQ (Zn fixed k)) _ _ _ h
  have e:=zhp a
  have w:=g.w
  exact⟨g.suf.trans h0.1,by omega,zff g.ok⟩
 ·cases h
  exact⟨List.suffix_refl t,by simp[bMs],trivial⟩
theorem zdG (fixed:Bool) (k:Nat):GP bD wfD 1 (zcB fixed k):=fun t a t' h=>by
 obtain⟨s,t1,h1,h2⟩:=zm h
 obtain⟨l,t2,h3,h4⟩:=zm h2
 cases h4
 have g1:=zD _ _ _ h1
 have g2:=zh6 fixed k _ _ _ h3
 have w1:=g1.w
 have w2:=g2.w
 exact⟨g2.suf.trans g1.suf,by simp only[bD];omega,g2.ok⟩
theorem zlt (l:List DirD):bDs l+l.length=sm bD l:=rfl
theorem ziC (fixed:Bool) (k:Nat):GP bDs zg9 0 (zaK fixed k):=fun t a t' h=>by
 have g:=zbi (zdG fixed k) _ [] _ _ _ (fun x hx=>by cases hx) h
 have e:=zlt a
 have e0:sm bD []=0:=rfl
 exact⟨g.1,by omega,g.2.2⟩
theorem zeu {n:Int} (h0:0≤n) (h1:n<64):inR n:=by simp only[inR];omega
theorem zhB {ty:TyD} (h:zgv 4 ty):inR ty.lists∧inR ty.musts:=by
 obtain⟨h1,h2,h3,h4⟩:=h
 refine⟨zeu h1 (by omega),zeu h3 ?_⟩
 have:ty.lists.toNat+1≤5:=by omega
 have h5:(2:Int) ^ (ty.lists.toNat+1)≤2 ^ 5:=by exact_mod_cast Nat.pow_le_pow_right (by decide) this
 omega
theorem zju (l:List VarD):bWs l+l.length=sm bW l:=rfl
structure FldD where
 nm:List UInt8
 ps:List VarD
 t:TyD
 dirs:List DirD
structure DefD where
 k:Int
 nm:List UInt8
 faces:List (List UInt8)
 flds:List FldD
 parts:List (List UInt8)
 ps:List VarD
structure SchD where
 defs:List DefD
 q:List UInt8
 m:List UInt8
def cL (x:FldD):List AV:=[.str x.nm,.sl .no 10 (cWs x.ps),.str x.t.nm,.int .i64 x.t.lists,.int .i64 x.t.musts,.sl .no 2 (cDs x.dirs)]
def cLs (l:List FldD):List (List AV):=l.map cL
def cE (x:DefD):List AV:=[.int .i64 x.k,.str x.nm,.sl .no 1 (cT x.faces),.sl .no 6 (cLs x.flds),.sl .no 1 (cT x.parts),.sl .no 10 (cWs x.ps)]
def cEs (l:List DefD):List (List AV):=l.map cE
def YN (s:SchD):List AV:=[.sl .no 6 (cEs s.defs),.str s.q,.str s.m]
theorem YE (l:List FldD):(cLs l).length=l.length:=by simp[cLs]
theorem zaU (l:List DefD):(cEs l).length=l.length:=by simp[cEs]
theorem zft {l a:List FldD} {x:FldD} {b:List FldD} (h:l=a++x::b):(cLs l).getD a.length []=cL x:=getD_mid' h
theorem za0 {l a:List DefD} {x:DefD} {b:List DefD} (h:l=a++x::b):(cEs l).getD a.length []=cE x:=getD_mid' h
theorem zaI (x:FldD):(cL x).map AV.strip1=cL x:=rfl
theorem y7 (x:DefD):(cE x).map AV.strip1=cE x:=rfl
theorem zey (l:List FldD):(cLs l).map (·.map AV.strip1)=cLs l:=by rw[cLs,List.map_map];exact List.map_congr_left fun v _=>zaI v
theorem zjX (nm:List UInt8) (ps:List VarD) (tn:List UInt8) (tl tm:Int) (dirs:List DirD):cL ⟨nm,ps,⟨tn,tl,tm⟩,dirs⟩=[.str nm,.sl .no 10 (cWs ps),.str tn,.int .i64 tl,.int .i64 tm,.sl .no 2 (cDs dirs)]:=rfl
theorem zbF (k:Int) (nm:List UInt8) (faces:List (List UInt8)) (flds:List FldD) (parts:List (List UInt8)) (ps:List VarD):cE ⟨k,nm,faces,flds,parts,ps⟩=[.int .i64 k,.str nm,.sl .no 1 (cT faces),.sl .no 6 (cLs flds),.sl .no 1 (cT parts),.sl .no 10 (cWs ps)]:=rfl
def bT (l:List (List UInt8)):Nat:=(l.map fun s=>1+s.length).sum
def bL (x:FldD):Nat:=1+x.nm.length+bWs x.ps+x.t.nm.length+bDs x.dirs
def bLs (l:List FldD):Nat:=(l.map bL).sum
def bE (x:DefD):Nat:=1+x.nm.length+bT x.faces+bLs x.flds+bT x.parts+bWs x.ps
def bEs (l:List DefD):Nat:=(l.map bE).sum
def Yp (s:SchD):Nat:=bEs s.defs+s.q.length+s.m.length
theorem YP (l:List (List UInt8)):l.length≤bT l:=zaT (fun x=>by omega) l
theorem zaV (l:List FldD):l.length≤bLs l:=zaT (fun x=>by simp only[bL];omega) l
theorem zcL (l:List DefD):l.length≤bEs l:=zaT (fun x=>by simp only[bE];omega) l
theorem zds (a:List (List UInt8)) (x:List UInt8) (b:List (List UInt8)):bT (a++x::b)=bT a+(1+x.length)+bT b:=zbT ..
theorem zfo (a:List FldD) (x:FldD) (b:List FldD):bLs (a++x::b)=bLs a+bL x+bLs b:=zbT ..
theorem zcS (a:List DefD) (x:DefD) (b:List DefD):bEs (a++x::b)=bEs a+bE x+bEs b:=zbT ..
def wfL (x:FldD):Prop:=(∀ y∈x.ps,wfW y)∧inR x.t.lists∧inR x.t.musts∧zg9 x.dirs
def wfE (x:DefD):Prop:=(∀ y∈x.flds,wfL y)∧∀ y∈x.ps,wfW y
def zbW (s:SchD):Prop:=∀ x∈s.defs,wfE x
def zA (t:TS):TS:=if (hdT t).k=5 then t.tail else t
def yp (t:TS):PR VarD:=pb (z7 (zA t)) fun s t=>pb (yt [58] t) fun _ t=>pb (Y4 4 t) fun ty t =>
 if isP [61] t then pb (yA true 16 t.tail) fun v t=>.ok (⟨s,ty,true,v⟩,t) else .ok (⟨s,ty,false,zV⟩,t)
def yZ (t:TS):PR FldD:=pb (z7 (zA t)) fun s t=>pb (if isP [40] t then yx [41] yp t.tail else .ok ([],t)) fun ps t=>pb (yt [58] t) fun _ t=>pb (Y4 4 t) fun ty t =>
 pb (zaK true 16 t) fun d t=>.ok (⟨s,ps,ty,d⟩,t)
def ZU (m:List UInt8) (t:TS):PR (List (List UInt8)):=pb (z7 (if isP m t then t.tail else t)) fun s t=>yq m z7 (t.length+1) [s] t
def ZV (t:TS):PR (List UInt8):=if isW [116,114,117,101] (zA t)∨isW [102,97,108,115,101] (zA t)∨isW [110,117,108,108] (zA t) then .error 2 else z7 (zA t)
def za8 (k:Int) (t:TS):PR DefD:=pb (z7 t) fun s t=>pb (if isW [105,109,112,108,101,109,101,110,116,115] t then ZU [38] t.tail else .ok ([],t)) fun fs t=>pb (yt [123] t) fun _ t=>pb (yx [125] yZ t) fun l t=>.ok (⟨k,s,fs,l,[],[]⟩,t)
def zak (t:TS):PR DefD:=pb (z7 t) fun s t=>pb (yt [123] t) fun _ t=>pb (yx [125] ZV t) fun l t=>.ok (⟨4,s,[],[],l,[]⟩,t)
def ZT (t:TS):PR DefD:=pb (z7 t) fun s t=>pb (yt [61] t) fun _ t=>pb (ZU [124] t) fun l t=>.ok (⟨3,s,[],[],l,[]⟩,t)
def ZP (t:TS):PR DefD:=pb (z7 t) fun s t=>pb (yt [123] t) fun _ t=>pb (yx [125] yp t) fun l t=>.ok (⟨5,s,[],[],[],l⟩,t)
structure SR where
 defs:List DefD
 q:List UInt8
 m:List UInt8
 told:Bool
def zbd (d:SR) (t:TS):PR SR:=pb (yt [123] t) fun _ t=>pb (if isW [113,117,101,114,121] t then .ok ((),t.tail) else .error 2) fun _ t=>pb (yt [58] t) fun _ t=>pb (z7 t) fun q t =>
 pb (if isW [109,117,116,97,116,105,111,110] t then pb (yt [58] t.tail) fun _ t=>z7 t else .ok ([],t)) fun m t=>pb (yt [125] t) fun _ t=>.ok (⟨d.defs,q,m,true⟩,t)
def Zw (d:SR) (x:DefD):SR:=⟨d.defs++[x],d.q,d.m,d.told⟩
def Yo (d:SR) (t:TS):PR SR :=
 if d.told=false∧isW [115,99,104,101,109,97] t then zbd d t.tail
 else if isW [116,121,112,101] t then pb (za8 1 t.tail) fun x t=>.ok (Zw d x,t)
 else if isW [105,110,116,101,114,102,97,99,101] t then pb (za8 2 t.tail) fun x t=>.ok (Zw d x,t)
 else if isW [117,110,105,111,110] t then pb (ZT t.tail) fun x t=>.ok (Zw d x,t)
 else if isW [101,110,117,109] t then pb (zak t.tail) fun x t=>.ok (Zw d x,t)
 else if isW [105,110,112,117,116] t then pb (ZP t.tail) fun x t=>.ok (Zw d x,t)
 else .error 2
def zC (d:SR) (t:TS):PR SR:=Yo d (zA t)
def YO:Nat→SR→TS→PR SR
 | 0,_,_=>.error 0
 | n+1,d,t=>if t=[] then .ok (d,t) else pb (zC d t) fun d t=>YO n d t
def sr0:SR:=⟨[],[],[],false⟩
def zfe (t:TS):PR SR:=pb (zC sr0 t) fun d t=>YO (t.length+1) d t
def zgu (d:SR):SchD:=if d.told then ⟨d.defs,d.q,d.m⟩ else ⟨d.defs,[81,117,101,114,121],if d.defs.any fun x=>decide (x.nm=[77,117,116,97,116,105,111,110]) then [77,117,116,97,116,105,111,110] else []⟩
def tPa (x:VarD):List Tok:=wk x.nm::pk [58]::(tTy x.t++tDf x.has x.d)
def tPb (l:List VarD):List Tok:=if l.length=0 then [] else pk [40]::(l.flatMap tPa++[pk [41]])
def tL (x:FldD):List Tok:=wk x.nm::(tPb x.ps++pk [58]::(tTy x.t++tDs x.dirs))
def tNs (m:List UInt8):List (List UInt8)→List Tok
 | []=>[]
 | s::r=>wk s::r.flatMap fun s=>[pk m,wk s]
def tE (x:DefD):List Tok :=
 if x.k=1∨x.k=2 then wk (if x.k=1 then [116,121,112,101] else [105,110,116,101,114,102,97,99,101])::wk x.nm::((if x.faces.length=0 then [] else wk [105,109,112,108,101,109,101,110,116,115]::tNs [38] x.faces)++(pk [123]::(x.flds.flatMap tL++[pk [125]])))
 else if x.k=3 then wk [117,110,105,111,110]::wk x.nm::pk [61]::tNs [124] x.parts
 else if x.k=4 then wk [101,110,117,109]::wk x.nm::pk [123]::(x.parts.map wk++[pk [125]])
 else wk [105,110,112,117,116]::wk x.nm::pk [123]::(x.ps.flatMap tPa++[pk [125]])
def tRt (q m:List UInt8):List Tok:=wk [115,99,104,101,109,97]::pk [123]::wk [113,117,101,114,121]::pk [58]::wk q::((if m=[] then [] else [wk [109,117,116,97,116,105,111,110],pk [58],wk m])++[pk [125]])
def YT (s:SchD):List Tok:=tRt s.q s.m++s.defs.flatMap tE
noncomputable def ZB (x:FldD):Bool:=zq x.nm&&(x.ps.all Zy&&(zM x.t&&Yr 0 true x.dirs))
def yP (s:List UInt8):Bool:=decide (s≠[116,114,117,101])&&(decide (s≠[102,97,108,115,101])&&decide (s≠[110,117,108,108]))
noncomputable def yc (x:DefD):Bool :=
 zq x.nm&&(if x.k=1∨x.k=2 then x.faces.all zq&&(x.flds.all ZB&&(decide (x.flds.length≠0)&&(decide (x.parts.length=0)&&decide (x.ps.length=0))))
 else if x.k=3 then x.parts.all zq&&(decide (x.parts.length≠0)&&(decide (x.faces.length=0)&&(decide (x.flds.length=0)&&decide (x.ps.length=0))))
 else if x.k=4 then (x.parts.all zq&&x.parts.all yP)&&(decide (x.parts.length≠0)&&(decide (x.faces.length=0)&&(decide (x.flds.length=0)&&decide (x.ps.length=0))))
 else if x.k=5 then x.ps.all Zy&&(decide (x.ps.length≠0)&&(decide (x.faces.length=0)&&(decide (x.flds.length=0)&&decide (x.parts.length=0))))
 else false)
noncomputable def yz (s:SchD):Bool:=s.defs.all yc&&(zq s.q&&(decide (s.m=[])||zq s.m))
section
variable {KP:AV→Heap→Prop} {Q:AExit→Env→Heap→Prop} {st:List Fr} {ρ:Env} {H:Heap} {all items:List AItem} {d:Option Nat} {R:List Chk}
end
theorem zx (l:List (List UInt8)) (x:List UInt8):bT (l++[x])=bT l+(1+x.length):=by simp[bT]
theorem zbB (l:List FldD) (x:FldD):bLs (l++[x])=bLs l+bL x:=by simp[bLs]
theorem zki (m:List UInt8) (l:List (List UInt8)) (x:List UInt8):tNs m (l++[x])=tNs m l++if l.length=0 then [wk x] else [pk m,wk x]:=by
 cases l with
 | nil=>rfl
 | cons a r=>simp[tNs]
theorem yL (a b:List Tok):wT (a++b)=wT a+wT b:=by simp[wT]
theorem ZW (s:List UInt8):wK (pk s)=s.length+4:=rfl
theorem Ym (s:List UInt8):wK (wk s)=s.length+4:=rfl
theorem Zz:wT []=0:=rfl
mutual
theorem zhy:∀ v,wfV v→wT (zF v)+16≤64*bV v
 | .mk k n s l m,⟨hn,hl,hm⟩=>by
  have h1:=zjn l hl
  have h2:=zhe m hm
  have h3:(Lib.itoa n).length≤21:=by
   have e:∀ u:Nat,u<18446744073709551616→(Lib.decDigits u).length≤20:=fun u hu=>by
    rw[Lib.decDigits_length];exact Lib.nDigits_le20 u hu
   unfold Lib.itoa;split
   ·have:=e n.natAbs (by have:=hn.1;omega)
    simp;omega
   ·have:=e n.toNat (by have:=hn.2;omega)
    omega
  have h4:(boolT (decide (n=1))).length≤5:=by unfold boolT;split<;>simp
  simp only[zF,bV]
  repeat' split
  all_goals simp only[zw,yL,Zz,wK,Al2,Al3]
  all_goals omega
theorem zjn:∀ l,zfn l→wT (Zl l)≤64*bVs l
 | [],_=>by simp[Zl,wT]
 | v::r,⟨h,hr⟩=>by
  have h1:=zhy v h
  have h2:=zjn r hr
  simp only[Zl,bVs,yL];omega
theorem zmF:∀ x,wfM x→wT (Yq x)≤64*bM x
 | .mk s v,h=>by
  have h1:=zhy v h
  simp only[Yq,bM,zw,wK,Al2,Al3];omega
theorem zhe:∀ l,zaF l→wT (yh l)≤64*bMs l
 | [],_=>by simp[yh,wT]
 | v::r,⟨h,hr⟩=>by
  have h1:=zmF v h
  have h2:=zhe r hr
  simp only[yh,bMs,yL];omega
end
theorem zjp (l:List Mem) (h:zaF l):wT (Yy l)≤74*bMs l:=by
 have h1:=zhe l h
 have h2:=Zc l
 unfold Yy
 split
 ·simp[wT]
 ·simp only[zw,yL,Zz,ZW,Al2,Al3];omega
theorem Y1 {α:Type} {f:α→List Tok} {g:α→Nat} {c:Nat}:∀ l:List α,(∀ x∈l,wT (f x)≤c*g x)→wT (l.flatMap f)≤c*(l.map g).sum
 | [],_=>by simp[wT]
 | x::r,h=>by
  have h1:=h x (by simp)
  have h2:=Y1 r fun y hy=>h y (by simp[hy])
  simp only[List.flatMap_cons,yL,List.map_cons,List.sum_cons,Nat.mul_add];omega
theorem zmw (d:DirD) (h:wfD d):wT (tD d)≤80*bD d:=by
 have h1:=zjp d.args h
 simp only[tD,bD,zw,ZW,Ym,Al2,Al3];omega
theorem zlN (l:List DirD) (h:zg9 l):wT (tDs l)≤80*bDs l:=Y1 l fun x hx=>zmw x (h x hx)
theorem zhY (n:Nat) (m:Int):∀ j,wT (zaj n m j)≤10*j
 | 0=>by simp[zaj,wT]
 | j+1=>by
  have h:=zhY n m j
  have h2:wT (zaJ n m j)≤10:=by
   unfold zaJ
   repeat' split
   all_goals simp[wT,ZW]
  simp only[zaj,yL];omega
theorem zka (t:TyD) (h:zM t=true):wT (tTy t)≤80+t.nm.length:=by
 simp only[zM,Al0,zn] at h
 obtain⟨_,h1,h2,_,_⟩:=h
 have h3:=zhY t.lists.toNat t.musts (t.lists.toNat+1)
 have h4:∀ n,wT (List.replicate n (pk [91]))=5*n:=fun n=>by
  induction n with
  | zero=>rfl
  | succ n ih=>rw[List.replicate_succ,zw,ih,ZW];simp;omega
 simp only[tTy,yL,zw,Ym,h4,zcm]
 omega
theorem zhJ:zq [116,121,112,101]=true:=by decide
theorem zhU:zq [105,110,116,101,114,102,97,99,101]=true:=by decide
theorem zbY:zq [117,110,105,111,110]=true:=by decide
theorem zcU:zq [101,110,117,109]=true:=by decide
theorem zbP:zq [105,110,112,117,116]=true:=by decide
theorem Y5:zq [105,109,112,108,101,109,101,110,116,115]=true:=by decide
theorem zci:zq [115,99,104,101,109,97]=true:=by decide
theorem zdu:zq [113,117,101,114,121]=true:=by decide
theorem zgR:zq [109,117,116,97,116,105,111,110]=true:=by decide
noncomputable def Zp (x:DefD):Bool:=zq x.nm&&(x.faces.all zq&&(x.flds.all ZB&&(decide (x.flds.length≠0)&&(decide (x.parts.length=0)&&decide (x.ps.length=0)))))
def zfg (w:List UInt8) (x:DefD):List Tok:=wk w::wk x.nm::((if x.faces.length=0 then [] else wk [105,109,112,108,101,109,101,110,116,115]::tNs [38] x.faces)++(pk [123]::(x.flds.flatMap tL++[pk [125]])))
noncomputable def ZI (x:DefD):Bool:=decide (x.parts.length≠0)&&(decide (x.faces.length=0)&&(decide (x.flds.length=0)&&decide (x.ps.length=0)))
noncomputable def Zk (x:DefD):Bool:=zq x.nm&&(if x.k=3 then x.parts.all zq&&ZI x else (x.parts.all zq&&x.parts.all yP)&&ZI x)
def ze2 (x:DefD):List Tok:=if x.k=3 then wk [117,110,105,111,110]::wk x.nm::pk [61]::tNs [124] x.parts else wk [101,110,117,109]::wk x.nm::pk [123]::(x.parts.map wk++[pk [125]])
theorem zeY {α:Type} (p q:α→Bool) (l:List α):(l.all fun x=>q x&&p x)=(l.all p&&l.all q):=by
 induction l with
 | nil=>rfl
 | cons a r ih=>simp only[List.all_cons,ih];cases p a<;>cases q a<;>simp
theorem za1 (l:List DefD) (x:DefD):bEs (l++[x])=bEs l+bE x:=by simp[bEs]
def za7 (s:SchD):List UInt8×Bool:=if (Zg (YT s)).2&&decide ((Zg (YT s)).1.length≤8192) then ((Zg (YT s)).1,true) else ([],false)
def Zu (x:Tok):AV:=.agg [.int .i64 x.k,.str x.s]
def ye (n:Int):AV:=.ifc 120 (.agg [.int .i64 n])
def prc (L p:TS) (dp:Nat):AObj:=.cells [.sl .no 2 (cKs L),.int .i64 (p.length:Int),.int .i64 (dp:Int)]
def Pat (H:Heap) (r:Nat) (L t:TS) (dp:Nat) (H':Heap):Prop:=∃ p,p++t=L∧H'=H.upd r (prc L p dp)
def zbb {α:Type} (H:Heap) (r:Nat) (L:TS) (dp:Nat) (x:PR α) (f:α→AV) (v:AV) (H':Heap):Prop:=∃ a t',x=.ok (a,t')∧v=f a∧Pat H r L t' dp H'
def zbp {α:Type} (x:PR α) (v:AV) (_:Heap):Prop:=∃ n,x=.error n∧v=ye n
abbrev zG:Nat:=1000000
abbrev RpE {α:Type} (H:Heap) (r:Nat) (L:TS) (dp:Nat) (x:PR α) (f:α→AV):AEnd→Heap→Prop:=fun e H'=>match e with|.ret v=>zbb H r L dp x f v H'|.pan v=>zbp x v H'
theorem Pat.again {H H1 H2:Heap} {r:Nat} {L t t':TS} {dp dp':Nat} (h:Pat H r L t dp H1) (h':Pat H1 r L t' dp' H2):Pat H r L t' dp' H2:=by
 obtain⟨p,_,rfl⟩:=h
 obtain⟨q,hq,rfl⟩:=h'
 exact⟨q,hq,upd_upd ..⟩
theorem Pat.at {H H1:Heap} {r:Nat} {L t:TS} {dp:Nat} (h:Pat H r L t dp H1):∃ p,p++t=L∧H1 r=some (prc L p dp):=by
 obtain⟨p,hp,rfl⟩:=h
 exact⟨p,hp,upd_same ..⟩
theorem Pat.self {H:Heap} {r:Nat} {L p t:TS} {dp:Nat} (hs:p++t=L) (hr:H r=some (prc L p dp)):Pat H r L t dp H :=
 ⟨p,hs,by funext c;by_cases e:c=r<;>simp[Heap.upd,e,hr]⟩
structure KI (H:Heap) (r:Nat) (L t:TS) (dp:Nat) (H1:Heap):Prop where
 keep:∀ c x,c≠r→H c=some x→H1 c=some x
 here:∃ p,p++t=L∧H1 r=some (prc L p dp)
 hr:∃ x,H r=some x
theorem KI.start {H:Heap} {r:Nat} {L p t:TS} {dp:Nat} (hs:p++t=L) (hr:H r=some (prc L p dp)):KI H r L t dp H:=⟨fun _ _ _ h=>h,⟨p,hs,hr⟩,⟨_,hr⟩⟩
theorem KI.call {H H1 H2:Heap} {r:Nat} {L t t':TS} {dp dp':Nat} (h:KI H r L t dp H1) (ha:Pat H1 r L t' dp' H2):KI H r L t' dp' H2:=by
 obtain⟨q,hq,rfl⟩:=ha
 exact⟨fun c x hc hx=>by rw[upd_ne hc];exact h.keep c x hc hx,⟨q,hq,upd_same ..⟩,h.hr⟩
theorem KI.ne {H H1:Heap} {r b:Nat} {L t:TS} {dp:Nat} (h:KI H r L t dp H1) (hb:H b=none):r≠b:=fun e=>by
 subst e;obtain⟨x,hx⟩:=h.hr;rw[hb] at hx;cases hx
theorem KI.none {H H1:Heap} {r b:Nat} {L t:TS} {dp:Nat} (h:KI H r L t dp H1) (hb:H1 b=.none):H b=.none:=by
 cases hx:H b with
 | none=>rfl
 | some x =>
  by_cases e:b=r
  ·subst e;obtain⟨p,_,h2⟩:=h.here;rw[hb] at h2;cases h2
  ·have:=h.keep b x e hx;rw[hb] at this;cases this
theorem KI.box {H H1:Heap} {r b:Nat} {L t:TS} {dp:Nat} {x:AObj} (h:KI H r L t dp H1) (hb:H b=.none):KI H r L t dp (H1.upd b x):=by
 obtain⟨p,hp,h2⟩:=h.here
 exact⟨fun c y hc hy=>by rw[upd_ne (fun e=>by subst e;rw[hb] at hy;cases hy)];exact h.keep c y hc hy,⟨p,hp,by rw[upd_ne (h.ne hb)];exact h2⟩,h.hr⟩
theorem KI.low {H H1:Heap} {r:Nat} {L t:TS} {dp:Nat} (h:KI H r L t dp H1):∃ H2,Low H2 H1∧Pat H r L t dp H2:=by
 obtain⟨p,hp,h1⟩:=h.here
 refine⟨_,Low.of_sub fun c x hc=>?_,p,hp,rfl⟩
 by_cases e:c=r
 ·subst e;rw[upd_same] at hc;rw[← hc];exact h1
 ·rw[upd_ne e] at hc;exact h.keep c x e hc
structure KO (H:Heap) (r:Nat) (L t:TS) (dp:Nat) (H1:Heap) (o:Own) (n sz:Nat):Prop extends KI H r L t dp H1 where
 own:Owned H1 o n sz
 tip:∀ b d,o=.tip b d→H b=.none
theorem KO.call {H H1 H2:Heap} {r:Nat} {L t t':TS} {dp dp':Nat} {o:Own} {n sz:Nat} (h:KO H r L t dp H1 o n sz) (ha:Pat H1 r L t' dp' H2):KO H r L t' dp' H2 o n sz:=by
 obtain⟨p,hp,h1⟩:=h.here
 refine⟨h.toKI.call ha,?_,h.tip⟩
 obtain⟨q,hq,rfl⟩:=ha
 exact yN h.own h1
theorem KO.box {H H1:Heap} {r b:Nat} {L t:TS} {dp:Nat} {o:Own} {n sz:Nat} {cs cs':List AV} (h:KO H r L t dp H1 o n sz) (hb:H b=.none) (h1:H1 b=some (.cells cs)):KO H r L t dp (H1.upd b (.cells cs')) o n sz :=
 ⟨h.toKI.box hb,yN h.own h1,h.tip⟩
theorem KO.app {H H1 H2:Heap} {r:Nat} {L t:TS} {dp:Nat} {o o':Own} {n n' sz:Nat} (h:KO H r L t dp H1 o n sz) (hs:OwnS H1 o H2 o' n' sz):KO H r L t dp H2 o' n' sz:=by
 obtain⟨p,hp,h1⟩:=h.here
 refine⟨⟨fun c x hc hx=>hs.kept c x (h.keep c x hc hx) fun d e=>?_,⟨p,hp,zL h.own h1 hs.kept⟩,h.hr⟩,hs.own,fun b d e=>?_⟩
 ·have:=h.tip c d e;rw[hx] at this;cases this
 ·rcases hs.new b d e with h2|⟨d0,e2⟩
  ·exact h.toKI.none h2
  ·exact h.tip b d0 e2
theorem KO.stay {H H1 H2:Heap} {r b:Nat} {L t:TS} {dp:Nat} {o o':Own} {n n' sz:Nat} {cs:List AV} (h:KO H r L t dp H1 o n sz) (hs:OwnS H1 o H2 o' n' sz) (hb:H1 b=some (.cells cs)):H2 b=some (.cells cs) :=
 zL h.own hb hs.kept
theorem KI.done {α:Type} {H:Heap} {r:Nat} {L:TS} {dp:Nat} {x:PR α} {f:α→AV} {Q:AExit→Env→Heap→Prop} {res:List ARes}
  (hQ:∀ e ρ H1 H2 vs,(∀ i,e≠.exit i)→resvs ρ H1 res=some vs→Low H2 H1→zbb H r L dp x f (tupOf vs).strip H2→Q e ρ H1)
  (ρ1:Env) (H1:Heap) (vs:List AV) (a:α) (t':TS) (h1:resvs ρ1 H1 res=some vs) (h2:x=.ok (a,t')) (h3:KI H r L t' dp H1) (h4:(tupOf vs).strip=f a):Q .ret ρ1 H1:=by
 obtain⟨H2,hl,ha⟩:=h3.low
 exact hQ .ret ρ1 H1 H2 vs nofun h1 hl ⟨a,t',h2,h4,ha⟩
theorem zdQ:∀ L:TS,L.length≤wT L
 | []=>Al4 _
 | x::L=>by have:=zdQ L;rw[zw];simp only[Al2,wK];omega
theorem zng {p t L:TS} (h:p++t=L):(hdT t).s.length≤wT L:=by
 subst h
 cases t with
 | nil=>simp[hdT]
 | cons x t =>
  have:wT (p++x::t)=wT p+wT (x::t):=by simp[wT]
  rw[this,zw];simp only[hdT,List.headD_cons,wK];omega
theorem Pat.other {H H1:Heap} {r c:Nat} {L t:TS} {dp:Nat} (h:Pat H r L t dp H1) (hc:c≠r):H1 c=H c:=by
 obtain⟨p,_,rfl⟩:=h
 exact upd_ne hc
theorem zax (H:Heap) (r:Nat) (n:Int):ACalls Tryz.prog 75 [.ptr r 0,.int .i64 n] H (fun e H'=>match e with|.ret v=>False|.pan v=>v=ye n):=by
 refine ACalls.goO (R:=fun _ _=>False) (RP:=fun v _=>v=ye n) ir75 ck75 (Al4 _) fun KP Q hQ hP=>?_
 simp(disch:=first|omega|assumption) only[ir75,go_sem]
 exact hP _ _ H (Low.refl _) rfl
section
variable {H:Heap} {r:Nat} {L p t:TS} {dp:Nat}
theorem zja (hs:p++t=L) (hr:H r=some (prc L p dp)):ACalls Tryz.prog 43 [.ptr r 0] H (fun e H'=>∃ v,e=.ret v∧(v=.bool (decide (t≠[]))∧H'=H)):=by
 refine ACalls.go ir43 ck43 (Al4 _) fun KP Q hQ=>?_
 simp only[prc] at hr
 have hcl:=zH L
 have hlen:p.length+t.length=L.length:=by rw[← hs];simp
 simp(disch:=first|omega|assumption) only[ir43,hr,hcl,go_sem]
 cases t with
 | nil =>
  have h1:¬ ((p.length:Int)<(L.length:Int)):=by simp at hlen;omega
  simp(disch:=first|omega|assumption) only[h1,go_sem]
  exact hQ _ _ _ _ [_] nofun rfl (Low.refl _) ⟨(by simp[tupOf,envOf,AV.strip,AV.strip1]),rfl⟩
 | cons c u =>
  have h1:((p.length:Int)<(L.length:Int))=True:=eq_true (by simp at hlen;omega)
  simp(disch:=first|omega|assumption) only[h1,go_sem]
  exact hQ _ _ _ _ [_] nofun rfl (Low.refl _) ⟨(by simp[tupOf,envOf,AV.strip,AV.strip1]),rfl⟩
theorem zgD (hs:p++t=L) (hr:H r=some (prc L p dp)):ACalls Tryz.prog 76 [.ptr r 0] H (fun e H'=>∃ v,e=.ret v∧(v=Zu (hdT t)∧H'=H)):=by
 refine ACalls.go ir76 ck76 (Al4 _) fun KP Q hQ=>?_
 have hcl:=zH L
 have hlen:p.length+t.length=L.length:=by rw[← hs];simp
 simp(disch:=first|omega|assumption) only[ir76,go_sem]
 refine goA_intro fun b hb=>?_
 have hbr:r≠b:=fun e=>by subst e;rw[hb] at hr;cases hr
 have hr2:(H.upd b (.cells [.int .i64 0,.str []])) r=some (prc L p dp):=by rw[upd_ne hbr];exact hr
 simp(disch:=first|omega|assumption) only[go_sem]
 refine goK_ret (zja hs hr2) fun v H1 ⟨hv,hH⟩=>?_
 subst hv;subst hH
 have hlow:∀ x,Low H (H.upd b x):=fun x=>(Low.refl _).upd hb
 cases t with
 | nil =>
  simp(disch:=first|omega|assumption) only[go_sem]
  exact hQ _ _ _ H [.agg [.int .i64 0,.str []]] nofun (by simp(disch:=first|omega|assumption) only[ir76,resvs,resv,go_sem]) (hlow _) ⟨rfl,rfl⟩
 | cons c u =>
  simp only[prc] at hr2
  have h1:((p.length:Int)<(L.length:Int))=True:=eq_true (by simp at hlen;omega)
  have hg:(cKs L).getD p.length []=[.int .i64 c.k,.str c.s]:=by rw[← hs];simp[cKs,cK]
  simp(disch:=first|omega|assumption) only[hr2,hcl,h1,hg,go_sem]
  exact hQ _ _ _ H [.agg [.int .i64 c.k,.str c.s]] nofun (by simp(disch:=first|omega|assumption) only[ir76,resvs,resv,go_sem]) (hlow _) ⟨rfl,rfl⟩
theorem zlQ (hs:p++t=L) (hr:H r=some (prc L p dp)) (m:List UInt8):ACalls Tryz.prog 97 [.ptr r 0,.str m] H (fun e H'=>∃ v,e=.ret v∧(v=.bool (isP m t)∧H'=H)):=by
 refine ACalls.go ir97 ck97 (Al4 _) fun KP Q hQ=>?_
 simp(disch:=first|omega|assumption) only[ir97,go_sem]
 refine goK_ret (zgD hs hr) fun v H1 ⟨hv,hH⟩=>?_
 subst hv;subst hH
 simp(disch:=first|omega|assumption) only[Zu,fitsAll,K1.fits,keqs,AV.keq1,Bool.and_true,go_sem]
 exact hQ _ _ _ _ [_] nofun rfl (Low.refl _) ⟨by simp[tupOf,envOf,AV.strip,AV.strip1,isP],rfl⟩
theorem zmP (hs:p++t=L) (hr:H r=some (prc L p dp)) (m:List UInt8):ACalls Tryz.prog 158 [.ptr r 0,.str m] H (fun e H'=>∃ v,e=.ret v∧(v=.bool (isW m t)∧H'=H)):=by
 refine ACalls.go ir158 ck158 (Al4 _) fun KP Q hQ=>?_
 simp(disch:=first|omega|assumption) only[ir158,go_sem]
 refine goK_ret (zgD hs hr) fun v H1 ⟨hv,hH⟩=>?_
 subst hv;subst hH
 simp(disch:=first|omega|assumption) only[Zu,fitsAll,K1.fits,keqs,AV.keq1,Bool.and_true,go_sem]
 exact hQ _ _ _ _ [_] nofun rfl (Low.refl _) ⟨by simp[tupOf,envOf,AV.strip,AV.strip1,isW],rfl⟩
theorem zh8 (hs:p++t=L) (hk:(hdT t).k≠0):(p++[hdT t])++t.tail=L:=by
 rw[Yj,List.singleton_append,← zcQ hk];exact hs
theorem Yc (hs:p++t=L) (hk:(hdT t).k≠0) (H:Heap):Pat H r L t.tail dp (H.upd r (.cells [.sl .no 2 (cKs L),.int .i64 ((p.length:Int)+1),.int .i64 (dp:Int)])) :=
 ⟨p++[hdT t],zh8 hs hk,by simp[prc]⟩
def y9 (m:List UInt8) (t:TS):TS:=if isP m t then t.tail else t
theorem zbf (hs:p++t=L) (hl:L.length≤zG) (hr:H r=some (prc L p dp)) (m:List UInt8):ACalls Tryz.prog 98 [.ptr r 0,.str m] H (fun e H'=>∃ v,e=.ret v∧(v=.bool (isP m t)∧Pat H r L (y9 m t) dp H')):=by
 refine ACalls.go ir98 ck98 (Al4 _) fun KP Q hQ=>?_
 simp only[zG] at hl
 have hlen:p.length+t.length=L.length:=by rw[← hs];simp
 simp(disch:=first|omega|assumption) only[ir98,go_sem]
 refine goK_ret (zlQ hs hr m) fun v H1 ⟨hv,hH⟩=>?_
 subst hv;subst hH
 have hr':=hr
 simp only[prc] at hr'
 cases hi:isP m t with
 | true =>
  simp(disch:=first|omega|assumption) only[hr',wrap64,go_sem]
  refine hQ _ _ _ _ [_] nofun rfl (Low.refl _) ⟨(by simp[tupOf,envOf,AV.strip,AV.strip1,hi]),?_⟩
  simp only[y9,hi,if_true]
  exact Yc hs (zdK hi) _
 | false =>
  simp(disch:=first|omega|assumption) only[go_sem]
  refine hQ _ _ _ _ [_] nofun rfl (Low.refl _) ⟨(by simp[tupOf,envOf,AV.strip,AV.strip1,hi]),?_⟩
  simp only[y9,hi,Al7,if_false]
  exact Pat.self hs hr
theorem zmn (hs:p++t=L) (hl:L.length≤zG) (hr:H r=some (prc L p dp)) (m:List UInt8):ACalls Tryz.prog 100 [.ptr r 0,.str m] H (fun e H'=>∃ v,e=.ret v∧(v=.bool (isW m t)∧Pat H r L (zN m t) dp H')):=by
 refine ACalls.go ir100 ck100 (Al4 _) fun KP Q hQ=>?_
 simp only[zG] at hl
 have hlen:p.length+t.length=L.length:=by rw[← hs];simp
 simp(disch:=first|omega|assumption) only[ir100,go_sem]
 refine goK_ret (zmP hs hr m) fun v H1 ⟨hv,hH⟩=>?_
 subst hv;subst hH
 have hr':=hr
 simp only[prc] at hr'
 cases hi:isW m t with
 | true =>
  simp(disch:=first|omega|assumption) only[hr',wrap64,go_sem]
  refine hQ _ _ _ _ [_] nofun rfl (Low.refl _) ⟨(by simp[tupOf,envOf,AV.strip,AV.strip1,hi]),?_⟩
  simp only[zN,hi,if_true]
  exact Yc hs (zjY hi) _
 | false =>
  simp(disch:=first|omega|assumption) only[go_sem]
  refine hQ _ _ _ _ [_] nofun rfl (Low.refl _) ⟨(by simp[tupOf,envOf,AV.strip,AV.strip1,hi]),?_⟩
  simp only[zN,hi,Al7,if_false]
  exact Pat.self hs hr
theorem zfu (hs:p++t=L) (hl:L.length≤zG) (hr:H r=some (prc L p dp)) (m:List UInt8):ACalls Tryz.prog 84 [.ptr r 0,.str m] H (RpE H r L dp (yt m t) fun _=>.tup []):=by
 refine ACalls.goO ir84 ck84 (Al4 _) fun KP Q hQ hP=>?_
 simp(disch:=first|omega|assumption) only[ir84,go_sem]
 refine goK_ret (zbf hs hl hr m) fun v H1 ⟨hv,hH⟩=>?_
 subst hv
 cases hi:isP m t with
 | true =>
  rw[y9,hi] at hH
  simp(disch:=first|omega|assumption) only[go_sem]
  exact hQ _ _ _ _ [] nofun rfl (Low.refl _) ⟨(),t.tail,by unfold yt;rw[hi];rfl,rfl,hH⟩
 | false =>
  simp(disch:=first|omega|assumption) only[go_sem]
  exact goK_both (zax H1 r 2) (fun _ _ h=>h.elim) fun v H2 h=>hP v H2 H2 (Low.refl _) ⟨2,by unfold yt;rw[hi];rfl,h⟩
theorem zc3 (hs:p++t=L) (hl:L.length≤zG) (hr:H r=some (prc L p dp)):ACalls Tryz.prog 85 [.ptr r 0] H (RpE H r L dp (z7 t) AV.str):=by
 refine ACalls.goO ir85 ck85 (Al4 _) fun KP Q hQ hP=>?_
 simp only[zG] at hl
 have hlen:p.length+t.length=L.length:=by rw[← hs];simp
 simp(disch:=first|omega|assumption) only[ir85,go_sem]
 refine goK_ret (zgD hs hr) fun v H1 ⟨hv,hH⟩=>?_
 subst hv;subst hH
 simp(disch:=first|omega|assumption) only[go_sem]
 refine goA_intro fun b hb=>?_
 have hbr:r≠b:=fun e=>by subst e;rw[hb] at hr;cases hr
 have hr':=hr
 simp only[prc] at hr'
 by_cases hk:(hdT t).k=2
 ·have hk':((hdT t).k=2)=True:=eq_true hk
  simp(disch:=first|omega|assumption) only[Zu,hk',hr',hbr,Ne.symm hbr,wrap64,go_sem]
  refine hQ _ _ _ (H1.upd r (.cells [.sl .no 2 (cKs L),.int .i64 ((p.length:Int)+1),.int .i64 (dp:Int)])) [_] nofun rfl ?_ ⟨(hdT t).s,t.tail,by unfold z7;rw[if_pos hk],(by simp[tupOf,envOf,AV.strip,AV.strip1]),Yc hs (by rw[hk];decide) _⟩
  refine Low.of_sub fun c x hc=>?_
  by_cases e:c=r
  ·subst e;rw[upd_same] at hc ⊢;exact hc
  ·rw[upd_ne e] at hc ⊢
   rw[upd_ne (fun e2=>by subst e2;rw[hb] at hc;cases hc)];exact hc
 ·simp(disch:=first|omega|assumption) only[Zu,hk,go_sem]
  exact goK_both (zax _ r 2) (fun _ _ h=>h.elim) fun v H2 h=>hP v H2 H2 (Low.refl _) ⟨2,by unfold z7;rw[if_neg hk],h⟩
theorem zjq (hs:p++t=L) (hl:L.length≤zG) (hd:dp≤16) (hr:H r=some (prc L p dp)) (m:List UInt8):ACalls Tryz.prog 81 [.ptr r 0,.str m] H
  (fun e H'=>match e with
   | .ret v=>v=.bool (isP m t)∧(isP m t=true→dp<16∧Pat H r L t.tail (dp+1) H')∧(isP m t=false→Pat H r L t dp H')
   | .pan v=>isP m t=true∧dp=16∧v=ye 4):=by
 refine ACalls.goO (R:=fun v H'=>v=.bool (isP m t)∧(isP m t=true→dp<16∧Pat H r L t.tail (dp+1) H')∧(isP m t=false→Pat H r L t dp H')) (RP:=fun v _=>isP m t=true∧dp=16∧v=ye 4) ir81 ck81 (Al4 _) fun KP Q hQ hP=>?_
 have hlen:p.length+t.length=L.length:=by rw[← hs];simp
 simp(disch:=first|omega|assumption) only[ir81,go_sem]
 refine goK_ret (zlQ hs hr m) fun v H1 ⟨hv,hH⟩=>?_
 subst hv;subst hH
 have hr':=hr
 simp only[prc] at hr'
 cases hi:isP m t with
 | true =>
  by_cases h16:(16:Int)≤(dp:Int)
  ·simp(disch:=first|omega|assumption) only[hr',h16,go_sem]
   exact goK_both (zax _ r 4) (fun _ _ h=>h.elim) fun v H2 h=>hP v H2 H2 (Low.refl _) ⟨hi,by omega,h⟩
  ·simp(disch:=first|omega|assumption) only[hr',h16,go_sem]
   refine goK_ret (zbf hs hl hr m) fun v H2 ⟨hv,hH⟩=>?_
   subst hv
   rw[y9,hi] at hH
   obtain⟨q,hq,h2⟩:=hH.at
   simp only[prc] at h2
   rw[hi]
   simp(disch:=first|omega|assumption) only[h2,wrap64,go_sem]
   exact hQ _ _ _ _ [_] nofun rfl (Low.refl _) ⟨(by simp[tupOf,envOf,AV.strip,AV.strip1,hi]),fun _=>⟨by omega,hH.again ⟨q,hq,by simp[prc]⟩⟩,fun h=>(by rw[hi] at h;cases h)⟩
 | false =>
  simp(disch:=first|omega|assumption) only[go_sem]
  refine goK_ret (zbf hs hl hr m) fun v H2 ⟨hv,hH⟩=>?_
  subst hv
  rw[y9,hi] at hH
  rw[hi]
  simp(disch:=first|omega|assumption) only[go_sem]
  exact hQ _ _ _ _ [_] nofun rfl (Low.refl _) ⟨(by simp[tupOf,envOf,AV.strip,AV.strip1,hi]),fun h=>(by rw[hi] at h;cases h),fun _=>by simpa using hH⟩
theorem zhw (hs:p++t=L) (hl:L.length≤zG) (hd:1≤dp∧dp≤16) (hr:H r=some (prc L p dp)) (m:List UInt8):ACalls Tryz.prog 82 [.ptr r 0,.str m] H
  (fun e H'=>∃ v,e=.ret v∧(v=.bool (isP m t)∧(isP m t=true→Pat H r L t.tail (dp-1) H')∧(isP m t=false→Pat H r L t dp H'))):=by
 refine ACalls.go ir82 ck82 (Al4 _) fun KP Q hQ=>?_
 simp(disch:=first|omega|assumption) only[ir82,go_sem]
 refine goK_ret (zbf hs hl hr m) fun v H2 ⟨hv,hH⟩=>?_
 subst hv
 cases hi:isP m t with
 | true =>
  rw[y9,hi] at hH
  obtain⟨q,hq,h2⟩:=hH.at
  simp only[prc] at h2
  simp(disch:=first|omega|assumption) only[h2,wrap64,go_sem]
  refine hQ _ _ _ _ [_] nofun rfl (Low.refl _) ⟨(by simp[tupOf,envOf,AV.strip,AV.strip1,hi]),fun _=>hH.again ⟨q,hq,?_⟩,fun h=>(by rw[hi] at h;cases h)⟩
  have e:((dp-1:Nat):Int)=(dp:Int)-1:=by omega
  simp only[prc,e]
 | false =>
  rw[y9,hi] at hH
  simp(disch:=first|omega|assumption) only[go_sem]
  exact hQ _ _ _ _ [_] nofun rfl (Low.refl _) ⟨(by simp[tupOf,envOf,AV.strip,AV.strip1,hi]),fun h=>(by rw[hi] at h;cases h),fun _=>by simpa using hH⟩
end
theorem zlV (s:List UInt8):Pure Tryz.prog 77 [.str s] (.agg (cV (YA s))):=by
 refine Pure.go ir77 ck77 (Al4 _) fun KP Q hQ=>?_
 simp(disch:=first|omega|assumption) only[ir77,go_sem]
 refine goA_intro fun b hb=>?_
 by_cases h1:s=[110,117,108,108]
 ·have h1':(s=[110,117,108,108])=True:=eq_true h1
  simp(disch:=first|omega|assumption) only[h1',go_sem]
  exact hQ _ _ _ [.agg [.int .i64 0,.int .i64 0,.str [],.sl .nil 5 [],.sl .nil 6 []]] nofun (by simp(disch:=first|omega|assumption) only[ir77,resvs,resv,go_sem]) (by rw[YA,if_pos h1];rfl)
 by_cases h2:s=[116,114,117,101]
 ·have h2':(s=[116,114,117,101])=True:=eq_true h2
  simp(disch:=first|omega|assumption) only[h1,h2',go_sem]
  exact hQ _ _ _ [.agg [.int .i64 1,.int .i64 1,.str [],.sl .nil 5 [],.sl .nil 6 []]] nofun (by simp(disch:=first|omega|assumption) only[ir77,resvs,resv,go_sem]) (by rw[YA,if_neg h1,if_pos h2];rfl)
 by_cases h3:s=[102,97,108,115,101]
 ·have h3':(s=[102,97,108,115,101])=True:=eq_true h3
  simp(disch:=first|omega|assumption) only[h1,h2,h3',go_sem]
  exact hQ _ _ _ [.agg [.int .i64 1,.int .i64 0,.str [],.sl .nil 5 [],.sl .nil 6 []]] nofun (by simp(disch:=first|omega|assumption) only[ir77,resvs,resv,go_sem]) (by rw[YA,if_neg h1,if_neg h2,if_pos h3];rfl)
 simp(disch:=first|omega|assumption) only[h1,h2,h3,go_sem]
 exact hQ _ _ _ [.agg [.int .i64 5,.int .i64 0,.str s,.sl .nil 5 [],.sl .nil 6 []]] nofun (by simp(disch:=first|omega|assumption) only[ir77,resvs,resv,go_sem]) (by rw[YA,if_neg h1,if_neg h2,if_neg h3];rfl)
def zhN (fixed:Bool) (k:Nat):Prop:=∀(H:Heap) (r:Nat) (L p t:TS),p++t=L→wT L≤zG→H r=some (prc L p (16-k)) →
 ACalls Tryz.prog 33 [.ptr r 0,.bool fixed] H (RpE H r L (16-k) (yA fixed k t) fun v=>.agg (cV v))
theorem zdB {fixed:Bool} {k:Nat} (hv:zhN fixed k) {H:Heap} {r:Nat} {L p t:TS} (hs:p++t=L) (hl:wT L≤zG) (hr:H r=some (prc L p (16-k))) :
  ACalls Tryz.prog 83 [.ptr r 0,.bool fixed] H (RpE H r L (16-k) (zP (yA fixed k) t) fun m=>.agg (cM m)):=by
 refine yn (ACalls.goO (R:=fun v H'=>zbb H r L (16-k) (zP (yA fixed k) t) (fun m=>.agg (cM m)) v.strip H') (RP:=fun v H'=>zbp (zP (yA fixed k) t) v H') ir83 ck83 (Al4 _) fun KP Q hQ hP=>?_)
 have hll:L.length≤zG:=Nat.le_trans (zdQ L) hl
 have pan:∀(v:AV) (H1:Heap) (n:Int),v=ye n→zP (yA fixed k) t=.error n→KP v H1:=fun v H1 n h1 h2=>hP v H1 H1 (Low.refl _) ⟨n,h2,h1⟩
 have fin:=KI.done hQ
 have K0:=KI.start hs hr
 simp(disch:=first|omega|assumption) only[ir83,go_sem]
 refine goA_intro fun b4 hb4=>?_
 have n4:=K0.ne hb4
 have K1:=K0.box (x:=.cells [.str [],.int .i64 0,.int .i64 0,.str [],.sl .nil 5 [],.sl .nil 6 []]) hb4
 simp(disch:=first|omega|assumption) only[go_sem]
 refine goK_both (zc3 (dp:=16-k) hs hll (by rw[upd_ne n4];exact hr)) (fun v H1 ⟨nm,t1,e1,hv1,ha1⟩=>?_) fun v H1 ⟨n,e1,hv1⟩=>pan v H1 n hv1 (by rw[zP,e1];rfl)
 subst hv1
 have K2:=K1.call ha1
 obtain⟨p1,hp1,hr1⟩:=K2.here
 have g1:H1 b4=some (.cells [.str [],.int .i64 0,.int .i64 0,.str [],.sl .nil 5 [],.sl .nil 6 []]):=by rw[ha1.other (Ne.symm n4),upd_same]
 simp(disch:=first|omega|assumption) only[go_sem]
 refine goK_both (zfu (dp:=16-k) hp1 hll hr1 [58]) (fun v H2 ⟨_,t2,e2,hv2,ha2⟩=>?_) fun v H2 ⟨n,e2,hv2⟩=>pan v H2 n hv2 (by rw[zP,e1,zj,e2];rfl)
 subst hv2
 have K3:=K2.call ha2
 obtain⟨p2,hp2,hr2⟩:=K3.here
 have g2:H2 b4=some (.cells [.str [],.int .i64 0,.int .i64 0,.str [],.sl .nil 5 [],.sl .nil 6 []]):=by rw[ha2.other (Ne.symm n4),g1]
 simp(disch:=first|omega|assumption) only[go_sem]
 refine goK_both (hv _ r L p2 t2 hp2 hl hr2) (fun v H3 ⟨x,t3,e3,hv3,ha3⟩=>?_) fun v H3 ⟨n,e3,hv3⟩=>pan v H3 n hv3 (by rw[zP,e1,zj,e2,zj,e3];rfl)
 subst hv3
 have K4:=K3.call ha3
 have g3:H3 b4=some (.cells [.str [],.int .i64 0,.int .i64 0,.str [],.sl .nil 5 [],.sl .nil 6 []]):=by rw[ha3.other (Ne.symm n4),g2]
 simp(disch:=first|omega|assumption) only[zf,zc,za,ze,zd,zb,zh,g3,go_sem]
 refine fin _ _ [.agg (.str nm::cV x)] (.mk nm x) t3 (by simp(disch:=first|omega|assumption) only[zf,zc,za,ze,zd,zb,zh,ir83,resvs,resv,go_sem]) (by rw[zP,e1,zj,e2,zj,e3];rfl) (K4.box hb4) ?_
 simp[tupOf,AV.strip,AV.strip1,zh,ZK]
abbrev zB:List AV:=[.int .i64 0,.int .i64 0,.str [],.sl .nil 5 [],.sl .nil 6 []]
theorem zhE (fixed:Bool) (k:Nat) (hk:k≤16) (ih:∀ n,k=n+1→zhN fixed n):zhN fixed k:=by
 intro H r L p t hs hl hr
 refine yn (ACalls.goO (R:=fun v H'=>zbb H r L (16-k) (yA fixed k t) (fun v=>.agg (cV v)) v.strip H') (RP:=fun v H'=>zbp (yA fixed k t) v H') ir33 ck33 (Al4 _) fun KP Q hQ hP=>?_)
 have hll:L.length≤zG:=Nat.le_trans (zdQ L) hl
 have hsl:(hdT t).s.length≤zG:=Nat.le_trans (zng hs) hl
 have hplen:p.length+t.length=L.length:=by rw[← hs];simp
 have pan:∀(v:AV) (H1:Heap) (n:Int),v=ye n→yA fixed k t=.error n→KP v H1:=fun v H1 n h1 h2=>hP v H1 H1 (Low.refl _) ⟨n,h2,h1⟩
 have fin:=KI.done hQ
 have K0:=KI.start hs hr
 simp(disch:=first|omega|assumption) only[ir33,go_sem]
 refine goA_intro fun b4 hb4=>?_
 have n4:=K0.ne hb4
 simp(disch:=first|omega|assumption) only[go_sem]
 refine goK_ret (zgD (dp:=16-k) hs (by rw[upd_ne n4];exact hr)) fun v H1 ⟨hv,hH⟩=>?_
 subst hv;subst hH
 simp(disch:=first|omega|assumption) only[Zu,go_sem]
 refine goA_intro fun b5 hb5=>?_
 have h54:b5≠b4:=fun e=>by subst e;rw[upd_same] at hb5;cases hb5
 have hb5H:H b5=none:=by rw[upd_ne h54] at hb5;exact hb5
 have n5:=K0.ne hb5H
 simp(disch:=first|omega|assumption) only[go_sem]
 generalize hHa:Heap.upd (Heap.upd H b4 _) b5 _=Ha
 have g5:Ha b5=some (.cells [.int .i64 (hdT t).k,.str (hdT t).s]):=by rw[← hHa,upd_same]
 have g4:Ha b4=some (.cells zB):=by rw[← hHa,upd_ne (Ne.symm h54),upd_same]
 have gr:Ha r=some (prc L p (16-k)):=by rw[← hHa,upd_ne n5,upd_ne n4];exact hr
 have KA:KI H r L t (16-k) Ha:=by rw[← hHa];exact(K0.box hb4).box hb5H
 clear hHa
 have gr':=gr
 simp only[prc] at gr'
 simp only[zB] at g4
 have n5s:=Ne.symm n5
 have n4s:=Ne.symm n4
 simp only[zG] at hsl
 have hll2:=hll
 simp only[zG] at hll2
 by_cases hk2:(hdT t).k=2
 ·have hk2':((hdT t).k=2)=True:=eq_true hk2
  have e1:yA fixed k t=.ok (YA (hdT t).s,t.tail):=by rw[zY,Z3.eq_def,if_pos hk2]
  simp(disch:=first|omega|assumption) only[hk2',g5,gr',wrap64,n5s,n4s,go_sem]
  refine goK_pure (zlV _) ?_
  simp(disch:=first|omega|assumption) only[zf,zc,za,ze,zd,zb,zh,g4,n4s,go_sem]
  exact fin _ _ [.agg (cV (YA (hdT t).s))] _ _ (by simp(disch:=first|omega|assumption) only[zf,zc,za,ze,zd,zb,zh,ir33,resvs,resv,go_sem]) e1 ((KA.call (Yc hs (by rw[hk2];decide) _)).box hb4) (by simp[tupOf,AV.strip,ZK])
 by_cases hk34:(hdT t).k=3∨(hdT t).k=4
 ·have e1:yA fixed k t=.ok (zdD (hdT t).s,t.tail):=by rw[zY,Z3.eq_def,if_neg hk2,if_pos hk34]
  have hk0:(hdT t).k≠0:=by omega
  have hd3:(decide ((hdT t).k=3)||decide ((hdT t).k=4))=true:=by simpa using hk34
  rcases Classical.em ((hdT t).k=3) with hk3|hk3
  ·have hk3':((hdT t).k=3)=True:=eq_true hk3
   simp(disch:=first|omega|assumption) only[hk2,hk3',g5,gr',wrap64,n5s,n4s,go_sem]
   refine goK_pure (zhj _ (by simp only[Lim];omega)) ?_
   cases hw:Zd (hdT t).s with
   | true =>
    simp(disch:=first|omega|assumption) only[go_sem]
    refine goK_pure (zmt _) ?_
    simp(disch:=first|omega|assumption) only[zf,zc,za,ze,zd,zb,zh,g4,n4s,go_sem]
    refine fin _ _ [.agg (cV (.mk 2 (zd5 (hdT t).s) [] [] []))] _ _ (by simp(disch:=first|omega|assumption) only[zf,zc,za,ze,zd,zb,zh,ir33,resvs,resv,go_sem]) e1 ((KA.call (Yc hs hk0 _)).box hb4) ?_
    simp[tupOf,AV.strip,ZK,zdD,hw]
   | false =>
    simp(disch:=first|omega|assumption) only[g5,g4,n5s,n4s,go_sem]
    refine fin _ _ [.agg [.int .i64 3,.int .i64 0,.str (hdT t).s,.sl .nil 5 [],.sl .nil 6 []]] _ _ (by simp(disch:=first|omega|assumption) only[zf,zc,za,ze,zd,zb,zh,ir33,resvs,resv,go_sem]) e1 ((KA.call (Yc hs hk0 _)).box hb4) ?_
    simp[tupOf,AV.strip,AV.strip1,zdD,hw,cV,cVs,cMs]
  ·have hk4':((hdT t).k=4)=True:=eq_true (by omega)
   simp(disch:=first|omega|assumption) only[hk2,hk3,hk4',g5,gr',wrap64,n5s,n4s,go_sem]
   refine goK_pure (zhj _ (by simp only[Lim];omega)) ?_
   cases hw:Zd (hdT t).s with
   | true =>
    simp(disch:=first|omega|assumption) only[go_sem]
    refine goK_pure (zmt _) ?_
    simp(disch:=first|omega|assumption) only[zf,zc,za,ze,zd,zb,zh,g4,n4s,go_sem]
    refine fin _ _ [.agg (cV (.mk 2 (zd5 (hdT t).s) [] [] []))] _ _ (by simp(disch:=first|omega|assumption) only[zf,zc,za,ze,zd,zb,zh,ir33,resvs,resv,go_sem]) e1 ((KA.call (Yc hs hk0 _)).box hb4) ?_
    simp[tupOf,AV.strip,ZK,zdD,hw]
   | false =>
    simp(disch:=first|omega|assumption) only[g5,g4,n5s,n4s,go_sem]
    refine fin _ _ [.agg [.int .i64 3,.int .i64 0,.str (hdT t).s,.sl .nil 5 [],.sl .nil 6 []]] _ _ (by simp(disch:=first|omega|assumption) only[zf,zc,za,ze,zd,zb,zh,ir33,resvs,resv,go_sem]) e1 ((KA.call (Yc hs hk0 _)).box hb4) ?_
    simp[tupOf,AV.strip,AV.strip1,zdD,hw,cV,cVs,cMs]
 by_cases hk5:(hdT t).k=5
 ·have hk5':((hdT t).k=5)=True:=eq_true hk5
  have hk3:¬ ((hdT t).k=3):=by omega
  have hk4:¬ ((hdT t).k=4):=by omega
  have e1:yA fixed k t=.ok (.mk 4 0 (hdT t).s [] [],t.tail):=by rw[zY,Z3.eq_def,if_neg hk2,if_neg hk34,if_pos hk5]
  simp(disch:=first|omega|assumption) only[hk2,hk3,hk4,hk5',g5,gr',wrap64,n5s,n4s,go_sem]
  refine goK_pure (zmy _) ?_
  simp(disch:=first|omega|assumption) only[zf,zc,za,ze,zd,zb,zh,g4,n4s,go_sem]
  exact fin _ _ [.agg (cV (.mk 4 0 (hdT t).s [] []))] _ _ (by simp(disch:=first|omega|assumption) only[zf,zc,za,ze,zd,zb,zh,ir33,resvs,resv,go_sem]) e1 ((KA.call (Yc hs (by rw[hk5];decide) _)).box hb4) (by simp[tupOf,AV.strip,ZK])
 have hk3:¬ ((hdT t).k=3):=fun e=>hk34 (.inl e)
 have hk4:¬ ((hdT t).k=4):=fun e=>hk34 (.inr e)
 have bad1:isP [91] t=true→k=0→yA fixed k t=.error 4:=fun hi h=>by
  subst h
  rw[zY,Z3.eq_def,if_neg hk2,if_neg hk34,if_neg hk5,if_pos hi];rfl
 have bad2:¬ (isP [91] t=true)→isP [123] t=true→k=0→yA fixed k t=.error 4:=fun h0 hi h=>by
  subst h
  rw[zY,Z3.eq_def,if_neg hk2,if_neg hk34,if_neg hk5,if_neg h0,if_pos hi];rfl
 simp(disch:=first|omega|assumption) only[hk2,hk3,hk4,hk5,g5,go_sem]
 refine goK_both (zjq (dp:=16-k) hs hll (by omega) gr [91]) (fun v H1 ⟨hv,hat,haf⟩=>?_) fun v H1 ⟨hi,h16,hv⟩=>pan v H1 4 hv (bad1 hi (by omega))
 subst hv
 cases hi:isP [91] t with
 | true =>
  obtain⟨hd16,ha1⟩:=hat hi
  obtain⟨n,rfl⟩:∃ n,k=n+1:=⟨k-1,by omega⟩
  rw[show 16-(n+1)+1=16-n by omega] at ha1
  have K1:=KA.call ha1
  have g41:H1 b4=some (.cells zB):=by rw[ha1.other n4s,g4]
  have hi0:isP [91] t=true:=hi
  have hi2:isP [91] t=true:=hi
  simp(disch:=first|omega|assumption) only[go_sem]
  refine goA_intro fun b8 hb8=>?_
  have hb8':=hb8
  have hb8H:H b8=none:=K1.none hb8
  have n8:=K1.ne hb8H
  have h84:b8≠b4:=fun e=>by subst e;rw[g41] at hb8;cases hb8
  have K2:KO H r L t.tail (16-n) (H1.upd b8 (.cells [.int .i64 6,.int .i64 0,.str [],.sl .nil 5 [],.sl .nil 6 []])) .nil 0 5:=⟨K1.box hb8H,rfl,nofun⟩
  obtain⟨R,hR⟩:∃ R,zJ [93] (yA fixed n) (t.tail.length+1) [] t.tail=R:=⟨_,rfl⟩
  have hx:yA fixed (n+1) t=pb R fun l t=>.ok (Val.mk 6 0 [] l [],t):=by rw[← hR,zY,Z3.eq_def,if_neg hk2,if_neg hk34,if_neg hk5,if_pos hi2];rfl
  simp(disch:=first|omega|assumption) only[List.map_nil,go_sem]
  refine goL_st (fun x:Own×List Val×TS=>[]) (fun x H'=>KO H r L x.2.2 (16-n) H' x.1 x.2.1.length 5∧H' b8=some (.cells [.int .i64 6,.int .i64 0,.str [],.sl x.1 5 (cVs x.2.1),.sl .nil 6 []])∧H' b4=some (.cells zB)∧(∃ m,x.2.2.length<m∧zJ [93] (yA fixed n) m x.2.1 x.2.2=R)∧x.2.1.length+x.2.2.length≤L.length) (fun x=>x.2.2.length) (.nil,[],t.tail) (by simp(disch:=first|omega|assumption) only[go_sem]) ⟨K2,upd_same ..,by rw[upd_ne (Ne.symm h84)];exact g41,⟨_,Nat.lt_succ_self _,hR⟩,by have:=K1.here;obtain⟨q,hq,_⟩:=this;rw[← hq];simp⟩ ?_
  rintro⟨o,l,u⟩ H3 J ⟨K3,g8,g4,⟨m,hm,hR3⟩,hlen⟩ hJ
  simp only at K3 g8 g4 hm hR3 hlen
  obtain⟨m,rfl⟩:∃ j,m=j+1:=⟨m-1,by omega⟩
  obtain⟨p3,hp3,hr3⟩:=K3.here
  have hcl:=Zm l
  simp(disch:=first|omega|assumption) only[go_sem]
  refine goK_ret (zhw hp3 hll (by omega) hr3 [93]) fun v H4 ⟨hv4,hat,haf⟩=>?_
  subst hv4
  cases hj:isP [93] u with
  | true =>
   have ha4:=hat hj
   have K4:=K3.call ha4
   rw[show 16-n-1=16-(n+1) by omega] at K4
   have g84:H4 b8=some (.cells [.int .i64 6,.int .i64 0,.str [],.sl o 5 (cVs l),.sl .nil 6 []]):=by rw[ha4.other (Ne.symm n8),g8]
   have g44:H4 b4=some (.cells zB):=by rw[ha4.other (Ne.symm n4),g4]
   simp only[zB] at g44
   have e1:R=.ok (l,u.tail):=by rw[← hR3,zJ,hj];rfl
   simp(disch:=first|omega|assumption) only[g84,g44,Ne.symm h84,h84,go_sem]
   refine fin _ _ [.agg [.int .i64 6,.int .i64 0,.str [],.sl o 5 (cVs l),.sl .nil 6 []]] (Val.mk 6 0 [] l []) u.tail (by simp(disch:=first|omega|assumption) only[ir33,resvs,resv,go_sem]) (by rw[hx,e1];rfl) (K4.toKI.box hb4) ?_
   simp[tupOf,AV.strip,AV.strip1,cV,cVs,cMs,ziB]
  | false =>
   have ha4:=haf hj
   have K4:=K3.call ha4
   obtain⟨p4,hp4,hr4⟩:=K4.here
   have g84:H4 b8=some (.cells [.int .i64 6,.int .i64 0,.str [],.sl o 5 (cVs l),.sl .nil 6 []]):=by rw[ha4.other (Ne.symm n8),g8]
   have g44:H4 b4=some (.cells zB):=by rw[ha4.other (Ne.symm n4),g4]
   rw[zJ,hj] at hR3
   simp only[Al7,if_false] at hR3
   simp(disch:=first|omega|assumption) only[g84,go_sem]
   refine goK_both (ih n rfl _ r L p4 u hp4 hl hr4) (fun v H5 ⟨x,t5,e5,hv5,ha5⟩=>?_) fun v H5 ⟨n5,e5,hv5⟩=>pan v H5 n5 hv5 (by rw[hx,← hR3,e5];rfl)
   subst hv5
   rw[e5,zj] at hR3
   have hlt:=(Zn fixed n).lt (by decide) _ _ _ e5
   have K5:=K4.call ha5
   have g85:H5 b8=some (.cells [.int .i64 6,.int .i64 0,.str [],.sl o 5 (cVs l),.sl .nil 6 []]):=by rw[ha5.other (Ne.symm n8),g84]
   have g45:H5 b4=some (.cells zB):=by rw[ha5.other (Ne.symm n4),g44]
   simp(disch:=first|omega|assumption) only[zf,zc,za,ze,zd,zb,zh,g85,go_sem]
   refine goP_ownS (by rw[hcl];exact K5.own) (by simp only[hcl,Al2,Al3];simp only[zG] at hll;omega) (by simp only[hcl,Al2,Al3,maxLen];simp only[zG] at hll;omega) fun o6 H6 hs6=>?_
   have K6:=K5.app (by simpa[hcl] using hs6)
   have g86:=K5.stay hs6 g85
   have g46:=K5.stay hs6 g45
   simp(disch:=first|omega|assumption) only[zf,zc,za,ze,zd,zb,zh,g86,go_sem]
   refine goJ (hJ (o6,l++[x],t5) _ (by simp only;omega) ⟨by simpa using K6.box hb8H g86,by rw[upd_same];simp[zaZ,ZK],by rw[upd_ne (Ne.symm h84)];exact g46,⟨m,by simp only;omega,hR3⟩,by simp only[Al5,Al2,Al3];omega⟩) (by simp(disch:=first|omega|assumption) only[go_sem])
 | false =>
  have ha1:=haf hi
  have K1:=KA.call ha1
  have g41:H1 b4=some (.cells zB):=by rw[ha1.other n4s,g4]
  obtain⟨p1,hp1,hr1⟩:=K1.here
  have hi0:¬ (isP [91] t=true):=by rw[hi];decide
  clear hat haf
  simp(disch:=first|omega|assumption) only[go_sem]
  refine goK_both (zjq (dp:=16-k) hp1 hll (by omega) hr1 [123]) (fun v H2 ⟨hv,hat,haf⟩=>?_) fun v H2 ⟨hi,h16,hv⟩=>pan v H2 4 hv (bad2 hi0 hi (by omega))
  subst hv
  cases hi:isP [123] t with
  | true =>
   obtain⟨hd16,ha2⟩:=hat hi
   obtain⟨n,rfl⟩:∃ n,k=n+1:=⟨k-1,by omega⟩
   rw[show 16-(n+1)+1=16-n by omega] at ha2
   have K1:=K1.call ha2
   have g41:H2 b4=some (.cells zB):=by rw[ha2.other n4s,g41]
   clear hat haf
   have hi2:isP [123] t=true:=hi
   simp(disch:=first|omega|assumption) only[go_sem]
   refine goA_intro fun b8 hb8=>?_
   have hb8':=hb8
   have hb8H:H b8=none:=K1.none hb8
   have n8:=K1.ne hb8H
   have h84:b8≠b4:=fun e=>by subst e;rw[g41] at hb8;cases hb8
   have K2:KO H r L t.tail (16-n) (H2.upd b8 (.cells [.int .i64 7,.int .i64 0,.str [],.sl .nil 5 [],.sl .nil 6 []])) .nil 0 6:=⟨K1.box hb8H,rfl,nofun⟩
   obtain⟨R,hR⟩:∃ R,zJ [125] (zP (yA fixed n)) (t.tail.length+1) [] t.tail=R:=⟨_,rfl⟩
   have hx:yA fixed (n+1) t=pb R fun l t=>.ok (Val.mk 7 0 [] [] l,t):=by rw[← hR,zY,Z3.eq_def,if_neg hk2,if_neg hk34,if_neg hk5,if_neg hi0,if_pos hi2];rfl
   simp(disch:=first|omega|assumption) only[List.map_nil,go_sem]
   refine goL_st (fun x:Own×List Mem×TS=>[]) (fun x H'=>KO H r L x.2.2 (16-n) H' x.1 x.2.1.length 6∧H' b8=some (.cells [.int .i64 7,.int .i64 0,.str [],.sl .nil 5 [],.sl x.1 6 (cMs x.2.1)])∧H' b4=some (.cells zB)∧(∃ m,x.2.2.length<m∧zJ [125] (zP (yA fixed n)) m x.2.1 x.2.2=R)∧x.2.1.length+x.2.2.length≤L.length) (fun x=>x.2.2.length) (.nil,[],t.tail) (by simp(disch:=first|omega|assumption) only[go_sem]) ⟨K2,upd_same ..,by rw[upd_ne (Ne.symm h84)];exact g41,⟨_,Nat.lt_succ_self _,hR⟩,by have:=K1.here;obtain⟨q,hq,_⟩:=this;rw[← hq];simp⟩ ?_
   rintro⟨o,l,u⟩ H3 J ⟨K3,g8,g4,⟨m,hm,hR3⟩,hlen⟩ hJ
   simp only at K3 g8 g4 hm hR3 hlen
   obtain⟨m,rfl⟩:∃ j,m=j+1:=⟨m-1,by omega⟩
   obtain⟨p3,hp3,hr3⟩:=K3.here
   have hcl:=yX l
   simp(disch:=first|omega|assumption) only[go_sem]
   refine goK_ret (zhw hp3 hll (by omega) hr3 [125]) fun v H4 ⟨hv4,hat,haf⟩=>?_
   subst hv4
   cases hj:isP [125] u with
   | true =>
    have ha4:=hat hj
    have K4:=K3.call ha4
    rw[show 16-n-1=16-(n+1) by omega] at K4
    have g84:H4 b8=some (.cells [.int .i64 7,.int .i64 0,.str [],.sl .nil 5 [],.sl o 6 (cMs l)]):=by rw[ha4.other (Ne.symm n8),g8]
    have g44:H4 b4=some (.cells zB):=by rw[ha4.other (Ne.symm n4),g4]
    simp only[zB] at g44
    have e1:R=.ok (l,u.tail):=by rw[← hR3,zJ,hj];rfl
    simp(disch:=first|omega|assumption) only[g84,g44,Ne.symm h84,h84,go_sem]
    refine fin _ _ [.agg [.int .i64 7,.int .i64 0,.str [],.sl .nil 5 [],.sl o 6 (cMs l)]] (Val.mk 7 0 [] [] l) u.tail (by simp(disch:=first|omega|assumption) only[ir33,resvs,resv,go_sem]) (by rw[hx,e1];rfl) (K4.toKI.box hb4) ?_
    simp[tupOf,AV.strip,AV.strip1,cV,cVs,cMs,zee]
   | false =>
    have ha4:=haf hj
    have K4:=K3.call ha4
    obtain⟨p4,hp4,hr4⟩:=K4.here
    have g84:H4 b8=some (.cells [.int .i64 7,.int .i64 0,.str [],.sl .nil 5 [],.sl o 6 (cMs l)]):=by rw[ha4.other (Ne.symm n8),g8]
    have g44:H4 b4=some (.cells zB):=by rw[ha4.other (Ne.symm n4),g4]
    rw[zJ,hj] at hR3
    simp only[Al7,if_false] at hR3
    simp(disch:=first|omega|assumption) only[g84,go_sem]
    refine goK_both (zdB (ih n rfl) hp4 hl hr4) (fun v H5 ⟨x,t5,e5,hv5,ha5⟩=>?_) fun v H5 ⟨n5,e5,hv5⟩=>pan v H5 n5 hv5 (by rw[hx,← hR3,e5];rfl)
    subst hv5
    rw[e5,zj] at hR3
    have hlt:=(yQ (Zn fixed n)).lt (by decide) _ _ _ e5
    have K5:=K4.call ha5
    have g85:H5 b8=some (.cells [.int .i64 7,.int .i64 0,.str [],.sl .nil 5 [],.sl o 6 (cMs l)]):=by rw[ha5.other (Ne.symm n8),g84]
    have g45:H5 b4=some (.cells zB):=by rw[ha5.other (Ne.symm n4),g44]
    simp(disch:=first|omega|assumption) only[zf,zc,za,ze,zd,zb,zh,g85,go_sem]
    refine goP_ownS (by rw[hcl];exact K5.own) (by simp only[hcl,Al2,Al3];simp only[zG] at hll;omega) (by simp only[hcl,Al2,Al3,maxLen];simp only[zG] at hll;omega) fun o6 H6 hs6=>?_
    have K6:=K5.app (by simpa[hcl] using hs6)
    have g86:=K5.stay hs6 g85
    have g46:=K5.stay hs6 g45
    simp(disch:=first|omega|assumption) only[zf,zc,za,ze,zd,zb,zh,g86,go_sem]
    refine goJ (hJ (o6,l++[x],t5) _ (by simp only;omega) ⟨by simpa using K6.box hb8H g86,by rw[upd_same];simp[Y7,zbA],by rw[upd_ne (Ne.symm h84)];exact g46,⟨m,by simp only;omega,hR3⟩,by simp only[Al5,Al2,Al3];omega⟩) (by simp(disch:=first|omega|assumption) only[go_sem])
  | false =>
   have ha2:=haf hi
   have K2:=K1.call ha2
   have g42:H2 b4=some (.cells zB):=by rw[ha2.other n4s,g41]
   obtain⟨p2,hp2,hr2⟩:=K2.here
   have hi1:¬ (isP [123] t=true):=by rw[hi];decide
   cases hfx:fixed with
   | true =>
    subst hfx
    simp(disch:=first|omega|assumption) only[go_sem]
    exact goK_both (zax _ r 2) (fun _ _ h=>h.elim) fun v H3 h=>pan v H3 2 h (by rw[zY,Z3.eq_def,if_neg hk2,if_neg hk34,if_neg hk5,if_neg hi0,if_neg hi1];rfl)
   | false =>
    subst hfx
    have hx:yA false k t=pb (yt [36] t) fun _ t=>pb (z7 t) fun s t=>.ok (.mk 8 0 s [] [],t):=by rw[zY,Z3.eq_def,if_neg hk2,if_neg hk34,if_neg hk5,if_neg hi0,if_neg hi1];rfl
    simp(disch:=first|omega|assumption) only[go_sem]
    refine goK_both (zfu (dp:=16-k) hp2 hll hr2 [36]) (fun v H3 ⟨_,t3,e3,hv3,ha3⟩=>?_) fun v H3 ⟨n,e3,hv3⟩=>pan v H3 n hv3 (by rw[hx,e3];rfl)
    subst hv3
    have K3:=K2.call ha3
    obtain⟨p3,hp3,hr3⟩:=K3.here
    have g43:H3 b4=some (.cells zB):=by rw[ha3.other n4s,g42]
    simp(disch:=first|omega|assumption) only[go_sem]
    refine goK_both (zc3 (dp:=16-k) hp3 hll hr3) (fun v H4 ⟨s,t4,e4,hv4,ha4⟩=>?_) fun v H4 ⟨n,e4,hv4⟩=>pan v H4 n hv4 (by rw[hx,e3,zj,e4];rfl)
    subst hv4
    have K4:=K3.call ha4
    have g44:H4 b4=some (.cells zB):=by rw[ha4.other n4s,g43]
    simp only[zB] at g44
    simp(disch:=first|omega|assumption) only[g44,go_sem]
    exact fin _ _ [.agg [.int .i64 8,.int .i64 0,.str s,.sl .nil 5 [],.sl .nil 6 []]] (.mk 8 0 s [] []) t4 (by simp(disch:=first|omega|assumption) only[ir33,resvs,resv,go_sem]) (by rw[hx,e3,zj,e4];rfl) (K4.box hb4) rfl
theorem zct (fixed:Bool):∀ k,k≤16→zhN fixed k
 | 0,h=>zhE fixed 0 h fun n e=>by cases e
 | k+1,h=>zhE fixed (k+1) h fun n e=>by cases e;exact zct fixed k (by omega)
theorem Y9 {p t L:TS} (h:p++t=L):t.length≤L.length:=by rw[← h];simp
theorem zho (l:List DirD):cDs l=l.map cD:=rfl
theorem zlB {fixed:Bool} {k:Nat} (hk:k≤16) {H:Heap} {r:Nat} {L p t:TS} (hs:p++t=L) (hl:wT L≤zG) (hr:H r=some (prc L p (16-k))) :
  ACalls Tryz.prog 233 [.ptr r 0,.bool fixed] H (RpE H r L (16-k) (YH fixed k t) (fun l=>.sl .no 6 (cMs l))):=by
 refine yn (ACalls.goO (R:=fun v H'=>zbb H r L (16-k) (YH fixed k t) (fun l=>.sl .no 6 (cMs l)) v.strip H') (RP:=fun v H'=>zbp (YH fixed k t) v H') ir233 ck233 (Al4 _) fun KP Q hQ hP=>?_)
 have hll:L.length≤zG:=Nat.le_trans (zdQ L) hl
 have hll2:=hll
 simp only[zG] at hll2
 have pan:∀(v:AV) (H1:Heap) (n:Int),v=ye n→(YH fixed k t)=.error n→KP v H1:=fun v H1 n h1 h2=>hP v H1 H1 (Low.refl _) ⟨n,h2,h1⟩
 have fin:=KI.done hQ
 have K0:=KI.start hs hr
 have hv:=zct fixed k hk
 simp(disch:=first|omega|assumption) only[ir233,go_sem]
 refine goK_ret (zbf (dp:=16-k) hs hll hr [40]) fun v H1 ⟨hv1,ha1⟩=>?_
 subst hv1
 cases hi:isP [40] t with
 | false =>
  rw[y9,hi] at ha1
  simp(disch:=first|omega|assumption) only[go_sem]
  exact fin _ _ [.sl .nil 6 []] [] t (by simp(disch:=first|omega|assumption) only[ir233,resvs,resv,go_sem]) (by unfold YH;rw[hi];rfl) (K0.call (by simpa using ha1)) (by simp[tupOf,AV.strip,AV.strip1,cMs])
 | true =>
  rw[y9,hi,if_pos rfl] at ha1
  have K1:=K0.call ha1
  obtain⟨p1,hp1,hr1⟩:=K1.here
  have hx:YH fixed k t=pb (zP (yA fixed k) t.tail) fun x t=>zJ [41] (zP (yA fixed k)) (t.length+1) [x] t:=by
   unfold YH;rw[hi]
   rfl
  simp(disch:=first|omega|assumption) only[go_sem]
  refine goK_both (zdB hv hp1 hl hr1) (fun v H2 ⟨x1,t2,e2,hv2,ha2⟩=>?_) fun v H2 ⟨n,e2,hv2⟩=>pan v H2 n hv2 (by rw[hx,e2];rfl)
  subst hv2
  have K2:=K1.call ha2
  have hlt1:=(yQ (Zn fixed k)).lt (by decide) _ _ _ e2
  have hsl:=Y9 hp1
  rw[e2,zj] at hx
  obtain⟨R,hR⟩:∃ R,zJ [41] (zP (yA fixed k)) (t2.length+1) [x1] t2=R:=⟨_,rfl⟩
  rw[hR] at hx
  simp(disch:=first|omega|assumption) only[zf,zc,za,ze,zd,zb,zh,go_sem]
  refine goL_st (fun x:Own×List Mem×TS=>[(5,.sl x.1 6 (cMs x.2.1))]) (fun x H'=>KO H r L x.2.2 (16-k) H' x.1 x.2.1.length 6∧(∃ m,x.2.2.length<m∧zJ [41] (zP (yA fixed k)) m x.2.1 x.2.2=R)∧x.2.1.length+x.2.2.length≤L.length) (fun x=>x.2.2.length) (.full,[x1],t2) (by simp(disch:=first|omega|assumption) only[zf,zc,za,ze,zd,zb,zh,cMs,zbA,go_sem]) ⟨⟨K2,Owned.full _ _ _,nofun⟩,⟨_,Nat.lt_succ_self _,hR⟩,by simp only[List.length_singleton];omega⟩ ?_
  rintro⟨o,l,u⟩ H3 J ⟨K3,⟨m,hm,hR3⟩,hlen⟩ hJ
  simp only at K3 hm hR3 hlen
  obtain⟨m,rfl⟩:∃ j,m=j+1:=⟨m-1,by omega⟩
  obtain⟨p3,hp3,hr3⟩:=K3.here
  have hcl:=yX l
  simp(disch:=first|omega|assumption) only[go_sem]
  refine goK_ret (zbf (dp:=16-k) hp3 hll hr3 [41]) fun v H4 ⟨hv4,ha4⟩=>?_
  subst hv4
  cases hj:isP [41] u with
  | true =>
   rw[y9,hj,if_pos rfl] at ha4
   have e1:R=.ok (l,u.tail):=by rw[← hR3,zJ,hj];rfl
   simp(disch:=first|omega|assumption) only[go_sem]
   refine fin _ _ [.sl o 6 (cMs l)] l u.tail (by simp(disch:=first|omega|assumption) only[ir233,resvs,resv,go_sem]) (by rw[hx,e1]) (K3.toKI.call ha4) ?_
   simp[tupOf,AV.strip,AV.strip1,zee]
  | false =>
   rw[y9,hj] at ha4
   have K4:=K3.call (by simpa using ha4)
   obtain⟨p4,hp4,hr4⟩:=K4.here
   rw[zJ,hj] at hR3
   simp only[Al7,if_false] at hR3
   simp(disch:=first|omega|assumption) only[go_sem]
   refine goK_both (zdB hv hp4 hl hr4) (fun v H5 ⟨x,t5,e5,hv5,ha5⟩=>?_) fun v H5 ⟨n5,e5,hv5⟩=>pan v H5 n5 hv5 (by rw[hx,← hR3,e5];rfl)
   subst hv5
   rw[e5,zj] at hR3
   have hlt:=(yQ (Zn fixed k)).lt (by decide) _ _ _ e5
   have K5:=K4.call ha5
   simp(disch:=first|omega|assumption) only[zf,zc,za,ze,zd,zb,zh,go_sem]
   refine goP_ownS (by rw[hcl];exact K5.own) (by simp only[hcl,Al2,Al3];omega) (by simp only[hcl,Al2,Al3,maxLen];omega) fun o6 H6 hs6=>?_
   have K6:=K5.app (by simpa[hcl] using hs6)
   simp(disch:=first|omega|assumption) only[zf,zc,za,ze,zd,zb,zh,go_sem]
   refine goJ (hJ (o6,l++[x],t5) _ (by simp only;omega) ⟨by simpa using K6,⟨m,by simp only;omega,hR3⟩,by simp only[Al5,Al2,Al3];omega⟩) (by simp(disch:=first|omega|assumption) only[Y7,List.map_append,List.map_cons,List.map_nil,zbA,go_sem])
theorem zlT {fixed:Bool} {k:Nat} (hk:k≤16) {H:Heap} {r:Nat} {L p t:TS} (hs:p++t=L) (hl:wT L≤zG) (hr:H r=some (prc L p (16-k))) :
  ACalls Tryz.prog 196 [.ptr r 0,.bool fixed] H (RpE H r L (16-k) (zaK fixed k t) (fun l=>.sl .no 2 (cDs l))):=by
 refine yn (ACalls.goO (R:=fun v H'=>zbb H r L (16-k) (zaK fixed k t) (fun l=>.sl .no 2 (cDs l)) v.strip H') (RP:=fun v H'=>zbp (zaK fixed k t) v H') ir196 ck196 (Al4 _) fun KP Q hQ hP=>?_)
 have hll:L.length≤zG:=Nat.le_trans (zdQ L) hl
 have hll2:=hll
 simp only[zG] at hll2
 have pan:∀(v:AV) (H1:Heap) (n:Int),v=ye n→(zaK fixed k t)=.error n→KP v H1:=fun v H1 n h1 h2=>hP v H1 H1 (Low.refl _) ⟨n,h2,h1⟩
 have fin:=KI.done hQ
 have K0:=KI.start hs hr
 obtain⟨R,hR⟩:∃ R,yq [64] (zcB fixed k) (t.length+1) [] t=R:=⟨_,rfl⟩
 have hx:zaK fixed k t=R:=hR
 have hsl:=Y9 hs
 simp(disch:=first|omega|assumption) only[ir196,go_sem]
 refine goL_st (fun x:Own×List DirD×TS=>[(5,.sl x.1 2 (cDs x.2.1))]) (fun x H'=>KO H r L x.2.2 (16-k) H' x.1 x.2.1.length 2∧(∃ m,x.2.2.length<m∧yq [64] (zcB fixed k) m x.2.1 x.2.2=R)∧x.2.1.length+x.2.2.length≤L.length) (fun x=>x.2.2.length) (.nil,[],t) (by simp(disch:=first|omega|assumption) only[zho,List.map_nil,go_sem]) ⟨⟨K0,rfl,nofun⟩,⟨_,Nat.lt_succ_self _,hR⟩,by simp only[Al3];omega⟩ ?_
 rintro⟨o,l,u⟩ H3 J ⟨K3,⟨m,hm,hR3⟩,hlen⟩ hJ
 simp only at K3 hm hR3 hlen
 obtain⟨m,rfl⟩:∃ j,m=j+1:=⟨m-1,by omega⟩
 obtain⟨p3,hp3,hr3⟩:=K3.here
 have hcl:=zbO l
 simp(disch:=first|omega|assumption) only[go_sem]
 refine goK_ret (zbf (dp:=16-k) hp3 hll hr3 [64]) fun v H4 ⟨hv4,ha4⟩=>?_
 subst hv4
 cases hj:isP [64] u with
 | false =>
  rw[y9,hj] at ha4
  have e1:R=.ok (l,u):=by rw[← hR3,yq,hj];rfl
  simp(disch:=first|omega|assumption) only[go_sem]
  refine fin _ _ [.sl o 2 (cDs l)] l u (by simp(disch:=first|omega|assumption) only[ir196,resvs,resv,go_sem]) (by rw[hx,e1]) (K3.toKI.call (by simpa using ha4)) ?_
  simp[tupOf,AV.strip,AV.strip1,zho,ziX]
 | true =>
  rw[y9,hj,if_pos rfl] at ha4
  have hlt0:=zcK hj
  have K4:=K3.call ha4
  obtain⟨p4,hp4,hr4⟩:=K4.here
  rw[yq,hj,if_pos rfl] at hR3
  simp(disch:=first|omega|assumption) only[go_sem]
  refine goK_both (zc3 (dp:=16-k) hp4 hll hr4) (fun v H5 ⟨nm,t5,e5,hv5,ha5⟩=>?_) fun v H5 ⟨n5,e5,hv5⟩=>pan v H5 n5 hv5 (by rw[hx,← hR3,zcB,e5];rfl)
  subst hv5
  have K5:=K4.call ha5
  obtain⟨p5,hp5,hr5⟩:=K5.here
  simp(disch:=first|omega|assumption) only[go_sem]
  refine goK_both (zlB hk hp5 hl hr5) (fun v H6 ⟨a,t6,e6,hv6,ha6⟩=>?_) fun v H6 ⟨n6,e6,hv6⟩=>pan v H6 n6 hv6 (by rw[hx,← hR3,zcB,e5,zj,e6];rfl)
  subst hv6
  have K6:=K5.call ha6
  have e7:zcB fixed k u.tail=.ok (⟨nm,a⟩,t6):=by rw[zcB,e5,zj,e6];rfl
  rw[e7,zj] at hR3
  have hlt:=(zdG fixed k).lt (by decide) _ _ _ e7
  simp(disch:=first|omega|assumption) only[zf,zc,za,ze,zd,zb,zh,go_sem]
  refine goP_ownS (by rw[hcl];exact K6.own) (by simp only[hcl,Al2,Al3];omega) (by simp only[hcl,Al2,Al3,maxLen];omega) fun o7 H7 hs7=>?_
  have K7:=K6.app (by simpa[hcl] using hs7)
  simp(disch:=first|omega|assumption) only[zf,zc,za,ze,zd,zb,zh,go_sem]
  refine goJ (hJ (o7,l++[⟨nm,a⟩],t6) _ (by simp only;omega) ⟨by simpa using K7,⟨m,by simp only;omega,hR3⟩,by simp only[Al5,Al2,Al3];omega⟩) (by simp(disch:=first|omega|assumption) only[zho,cD,List.map_append,List.map_cons,List.map_nil,go_sem])
end Go.Proofs.YtaielcdfcgpbiaaGreatDoor
