import Derived.Lib.ValidLaws
import Derived.Lib.ItoaLen
import Derived.Lib.Join
import Derived.Lib.DecodeN
import Derived.Lib.TrimUEq
import Derived.Shelf.Strings.OnBuilder
import Derived.Test.YtaielcdfcgpbiaaGreatDoorM1
import Derived.Test.YtaielcdfcgpbiaaGreatDoorM2
import Derived.Test.YtaielcdfcgpbiaaGreatDoorM3
import Derived.Test.YtaielcdfcgpbiaaGreatDoorM4
import Derived.Test.YtaielcdfcgpbiaaGreatDoorM5
set_option maxRecDepth 100000
set_option linter.all false
namespace Go.Proofs.YtaielcdfcgpbiaaGreatDoor
open Go.Ab Go.Lib
theorem zit (c:UInt8):isD c=true→nch c=true:=zcM (P:=fun c=>isD c=true→nch c=true) (by decide +kernel) c
theorem znX (c:UInt8):isE c=true→nch c=true:=zcM (P:=fun c=>isE c=true→nch c=true) (by decide +kernel) c
theorem znR (c:UInt8):isD c=true→nst c=true:=zcM (P:=fun c=>isD c=true→nst c=true) (by decide +kernel) c
theorem zbb:∀(l:List UInt8) (c:UInt8),c∈l.take (zv l)→isD c=true
 | [],c,h=>by simp at h
 | x::l,c,h=>by
  rw[zv] at h
  split at h
  ·rename_i hx
   rw[Y4] at h
   rcases List.mem_cons.1 h with e|e
   ·rw[e];exact hx
   ·exact zbb l c e
  ·simp at h
theorem ziX {l:List UInt8} {a b:Nat} (h:a≤b) {c:UInt8} (hc:c∈l.take a):c∈l.take b :=
 (List.take_prefix_take_left h).subset hc
theorem zkx (s:List UInt8):Zf s≤zv s:=by unfold Zf;split<;>(try split)<;>omega
theorem zeD {l:List UInt8} {c:UInt8} (h:c∈l.take (Zf l)):isD c=true:=zbb l c (ziX (zkx l) h)
theorem zg3 {s:List UInt8} {c:UInt8} (h:c∈s.take (zp s)):nch c=true:=by
 by_cases h45:s.head?=some 45
 ·cases s with
  | nil=>simp at h
  | cons x t =>
   have hx:x=45:=by simpa using h45
   subst hx
   rw[ZO] at h
   by_cases h0:zv t=0
   ·rw[if_pos h0] at h;simp at h
   ·rw[if_neg h0,Nat.add_comm,Y4] at h
    rcases List.mem_cons.1 h with e|e
    ·rw[e];decide
    ·exact zit c (zeD e)
 ·rw[y5 h45] at h
  exact zit c (zeD h)
theorem zhT {s:List UInt8} {c:UInt8} (h:c∈s.take (yn s)):nch c=true:=by
 unfold yn at h
 split at h
 ·rename_i h46
  cases s with
  | nil=>simp at h
  | cons x t =>
   have hx:x=46:=by simpa using h46.1
   subst hx
   simp only[List.tail_cons] at h
   rw[Nat.add_comm,Y4] at h
   rcases List.mem_cons.1 h with e|e
   ·rw[e];decide
   ·exact zit c (zbb _ c e)
 ·simp at h
theorem zhg {s:List UInt8} (h:zp s≠0):∃ c t,s=c::t∧nst c=true:=by
 cases s with
 | nil=>exact absurd (by decide) h
 | cons c t =>
  refine⟨c,t,rfl,?_⟩
  by_cases hc:c=45
  ·rw[hc];decide
  ·rw[y5 (by simpa using hc)] at h
   apply znR
   cases hd:isD c with
   | true=>rfl
   | false=>exact absurd (by simp[Zf,zv,hd]) h
theorem zjY {r:List UInt8} {c:UInt8} (h:c∈r.take (sgN r)):nch c=true:=by
 unfold sgN at h
 split at h
 ·rename_i hs
  cases r with
  | nil=>simp at h
  | cons x t =>
   simp only[List.head?_cons,Al1] at hs
   simp at h
   subst h
   rcases hs with rfl|rfl<;>decide
 ·simp at h
theorem zi8:∀(s:List UInt8) (c:UInt8),c∈s.take (ZM s)→nch c=true
 | [],c,h=>by simp at h
 | x::r,c,h=>by
  rw[ZM] at h
  split at h
  ·rename_i hx
   split at h
   ·simp at h
   ·rw[Nat.add_assoc,Nat.add_comm,Y4] at h
    rcases List.mem_cons.1 h with e|e
    ·rw[e];exact znX x hx
    ·rw[List.take_add] at e
     rcases List.mem_append.1 e with e|e
     ·exact zjY e
     ·exact zit c (zbb _ c e)
  ·simp at h
theorem zkg {s:List UInt8} (h:Zl s≠0):(∀ c∈s,nch c=true)∧∃ c t,s=c::t∧nst c=true:=by
 unfold Zl at h
 split at h
 ·rename_i hl
  unfold zH at h hl
  split at h
  ·exact absurd rfl h
  ·rename_i hw
   rw[if_neg hw] at hl
   simp only at hl
   refine⟨fun c hc=>?_,zhg hw⟩
   have e:s=s.take (zp s+yn (s.drop (zp s))+ZM (s.drop (zp s+yn (s.drop (zp s))))):=by rw[hl,List.take_length]
   rw[e,List.take_add,List.take_add] at hc
   rcases List.mem_append.1 hc with hc|hc
   ·rcases List.mem_append.1 hc with hc|hc
    ·exact zg3 hc
    ·exact zhT hc
   ·exact zi8 _ _ hc
 ·exact absurd rfl h
theorem zlZ {u:Nat} {c:UInt8} (h:c∈decDigits u):isD c=true:=by
 have:=YT u c h
 simp[isD,this]
theorem zge:∀ l:List UInt8,(∀ c∈l,isD c=true)→zv l=l.length
 | [],_=>rfl
 | c::l,h=>by
  rw[zv,if_pos (h c (.head _)),zge l fun x hx=>h x (.tail _ hx)];rfl
theorem zgg (u:Nat):∃ c t,decDigits u=c::t∧(c=48→t=[]):=by
 induction u using Nat.strongRecOn with
 | _ u ih =>
  rw[decDigits]
  split
  ·exact⟨_,[],rfl,fun _=>rfl⟩
  ·rename_i h
   obtain⟨c,t,h1,h2⟩:=ih (u / 10) (by omega)
   refine⟨c,t++[UInt8.ofNat (48+u % 10)],by rw[h1];rfl,fun e=>?_⟩
   have ht:=h2 e
   subst e;subst ht
   rw[decDigits] at h1
   split at h1
   ·rename_i h3
    have h4:=congrArg UInt8.toNat (List.cons.inj h1).1
    rw[zha h3] at h4
    have:(48:UInt8).toNat=48:=rfl
    omega
   ·have:=congrArg List.length h1
    have h5:=Ye (u / 10 / 10)
    cases hd:decDigits (u / 10 / 10) with
    | nil=>exact absurd hd h5
    | cons a b=>rw[hd] at this;simp at this
theorem zdv (u:Nat):Zf (decDigits u)=(decDigits u).length∧zv (decDigits u)≠0:=by
 have h1:=zge (decDigits u) fun c hc=>zlZ hc
 obtain⟨c,t,h2,h3⟩:=zgg u
 have h4:zv (decDigits u)≠0:=by rw[h1,h2];simp
 refine⟨?_,h4⟩
 unfold Zf
 rw[if_neg h4]
 split
 ·rename_i h5
  rw[h2] at h5 ⊢
  rw[h3 (by simpa using h5)];rfl
 ·exact h1
theorem zi4 (n:Int):Zl (itoa n)=3:=by
 have key:∀ s:List UInt8,zp s=s.length→s≠[]→Zl s=3:=fun s h h0=>by
  have hl:s.length≠0:=fun e=>h0 (Zi.1 e)
  have e1:yn ([]:List UInt8)=0:=by decide
  have hn:zH s=(s.length,3):=by
   unfold zH
   rw[if_neg (by omega)]
   simp[h,e1,ZM]
  unfold Zl;rw[hn];simp
 unfold itoa
 split
 ·refine key _ ?_ (by simp)
  rw[ZO,if_neg (zdv _).2,(zdv _).1];simp;omega
 ·refine key _ ?_ (Ye _)
  obtain⟨c,t,h2,h3⟩:=zgg n.toNat
  have h5:¬ (decDigits n.toNat).head?=some 45:=by
   rw[h2];simp
   intro e;subst e
   have:=YT n.toNat 45 (by rw[h2];simp)
   have e:(45:UInt8).toNat=45:=rfl
   omega
  rw[y5 h5,(zdv _).1]
theorem zdx {n:Int} (h:inR n):Zd (itoa n)=true∧zer (itoa n)=n:=by
 have h1:=zd6 n h.1 h.2
 exact⟨by simp[Zd,h1,okI,zi4],by simp[zer,h1]⟩
theorem zcy {s:List UInt8} (h:∀ c∈s,c.toNat<128):validD s=true:=by
 have:=validD_ascii s.length s (fun b hb=>h b (List.mem_of_mem_take hb))
 rw[this,List.drop_length];rfl
theorem zk8 (c:UInt8):hexD c≠none→c.toNat<128:=zcM (P:=fun c=>hexD c≠none→c.toNat<128) (by decide +kernel) c
theorem zlW (c:UInt8):¬ Lib.indexByte zbr c<0→c.toNat<128∧(zkW.getD (Lib.indexByte zbr c).toNat 0).toNat<128 :=
 zcM (P:=fun c=>¬ Lib.indexByte zbr c<0→c.toNat<128∧(zkW.getD (Lib.indexByte zbr c).toNat 0).toNat<128) (by decide +kernel) c
theorem zeE:∀(n:Nat) (t:List UInt8) (u v:Nat),ZJ n t u=some v→∀ b∈t.take n,b.toNat<128
 | 0,_,_,_,_,b,hb=>by simp at hb
 | n+1,[],_,_,h,_,_=>by cases h
 | n+1,c::t,u,v,h,b,hb=>by
  simp only[ZJ] at h
  split at h
  ·cases h
  ·rename_i k hk
   rw[Y4] at hb
   rcases List.mem_cons.1 hb with e|e
   ·rw[e];exact zk8 c (by rw[hk];simp)
   ·exact zeE n t _ v h b e
structure SInv' (q:Sd) (t:List UInt8):Prop where
 none:q.u=[]→validD (q.b++t)=true
 some:q.u≠[]→validD q.b=true∧validD t=true
theorem zfs {q:Sd} (h:validD q.b=true):validD (z7 q).b=true:=by
 unfold z7
 cases hj:zt q.u with
 | none=>simpa using h
 | some s=>exact YN h (zbM _ _ hj)
theorem zjd {q:Sd} (h:q.u=[]):(z7 q).b=q.b:=by unfold z7;rw[h];simp[zt]
theorem SInv'.low {q:Sd} {c:UInt8} {t:List UInt8} (h:SInv' q (c::t)) (hc:c.toNat<128):validD q.b=true∧validD t=true:=by
 by_cases hu:q.u=[]
 ·exact zaO hc (h.none hu)
 ·obtain⟨h1,h2⟩:=h.some hu
  rw[validD_cons c t hc] at h2
  exact⟨h1,h2⟩
theorem SInv'.put {q:Sd} {c:UInt8} {t:List UInt8} (h:SInv' q (c::t)):SInv' (q.put c) t:=by
 refine⟨fun _=>?_,fun e=>absurd rfl e⟩
 show validD (((z7 q).b++[c])++t)=true
 rw[ZF]
 by_cases hu:q.u=[]
 ·rw[zjd hu];exact h.none hu
 ·obtain⟨h1,h2⟩:=h.some hu
  exact YN (zfs h1) h2
theorem ziV {q q':Sd} {t t':List UInt8} (h:Z7 q t=some (q',t')) (hb:validD q.b=true) (ht:validD t=true):SInv' q' t':=by
 cases t with
 | nil=>cases h
 | cons c t =>
  simp only[Z7] at h
  split at h
  ·rename_i hc
   cases hu:Ya t with
   | none=>simp[hu] at h
   | some u =>
    simp only[hu,z6,Al1,Al8] at h
    obtain⟨rfl,rfl⟩:=h
    rw[validD_cons c t (by rw[hc];decide)] at ht
    have:=validD_ascii 4 t (zeE 4 t 0 u hu)
    exact⟨fun e=>by simp at e,fun _=>⟨hb,by rw[← this];exact ht⟩⟩
  ·split at h
   ·cases h
   ·rename_i hk
    simp only[Al1,Al8] at h
    obtain⟨rfl,rfl⟩:=h
    have h1:=zlW c hk
    rw[validD_cons c t h1.1] at ht
    refine⟨fun _=>?_,fun e=>absurd rfl e⟩
    show validD (((z7 q).b++[_])++t)=true
    rw[ZF]
    refine YN (zfs hb) ?_
    rw[List.singleton_append,validD_cons _ _ h1.2];exact ht
theorem zbv {may:UInt8→Bool}:∀(n:Nat) (t:List UInt8) (q q':Sd) (t':List UInt8),Yw may n t q=some (q',t')→SInv' q t→validD q'.b=true∧validD t'=true
 | 0,_,_,_,_,h,_=>by cases h
 | _+1,[],_,_,_,h,_=>by cases h
 | n+1,c::t,q,q',t',h,hi=>by
  simp only[Yw] at h
  split at h
  ·rename_i hc
   simp only[Al1,Al8] at h
   obtain⟨rfl,rfl⟩:=h
   obtain⟨h1,h2⟩:=hi.low (by rw[hc];decide)
   exact⟨zfs h1,h2⟩
  ·split at h
   ·rename_i hc
    cases he:Z7 q t with
    | none=>simp[he] at h
    | some x =>
     obtain⟨q1,t1⟩:=x
     simp only[he] at h
     obtain⟨h1,h2⟩:=hi.low (by rw[hc];decide)
     exact zbv n t1 q1 q' t' h (ziV he h1 h2)
   ·split at h
    ·exact zbv n t _ q' t' h hi.put
    ·cases h
theorem zhr {may:UInt8→Bool} {t t' b:List UInt8} (h:Z5 may t=some (b,t')) (hv:validD t=true):validD b=true∧validD t'=true:=by
 unfold Z5 at h
 split at h
 ·rename_i q t1 hq
  split at h
  ·cases h;exact zbv _ _ _ _ _ hq ⟨fun _=>hv,fun e=>absurd rfl e⟩
  ·cases h
 ·cases h
end Go.Proofs.YtaielcdfcgpbiaaGreatDoor
namespace Go.Proofs.YtaielcdfcgpbiaaGreatDoor
open Go.Ab
def zl (l:List UInt8):Nat×Nat:=if l=[] then (0,0) else if Lib.decodeL l=(65533,1) then (0,0) else Lib.decodeL l
def cv (v0:Nat) (b:Nat→Nat):Nat→Nat
 | 0=>v0
 | j+1=>cv v0 b j*64+b (j+1) % 64
theorem zee {l:List UInt8} (hne:l≠[]) (h:(zl l).2≠0):Lib.validD l=Lib.validD (l.drop (zl l).2)∧(zl l).2≤l.length:=by
 unfold zl at h ⊢
 rw[if_neg hne] at h ⊢
 split at h
 ·simp at h
 ·rename_i e
  rw[if_neg e]
  refine⟨?_,Lib.decodeL_le l hne⟩
  rw[Lib.validD_step l hne,if_neg]
  rintro⟨a,b⟩
  exact e (Prod.ext a b)
open Go.Lib
end Go.Proofs.YtaielcdfcgpbiaaGreatDoor
namespace Go.Proofs.YtaielcdfcgpbiaaGreatDoor
open Go.Ab
open Go.Lib
structure DecOk (l:List UInt8) (c k:Nat):Prop where
 enc:yJ c=l.take k
 le:c≤1114111
 pos:1≤k
 len:k≤l.length
 one:k=1→c=(l.getD 0 0).toNat∧(l.getD 0 0).toNat<128
 high:k≠1→∀ x∈l.take k,128≤x.toNat
theorem YR {n:Nat} {b:UInt8} (h:n=b.toNat):UInt8.ofNat n=b:=UInt8.toNat_inj.1 (by rw[UInt8.toNat_ofNat',h];have:=b.toNat_lt;omega)
theorem zlO {b0 b1:UInt8} {t:List UInt8} (h0:b0.toNat / 32=6) (h1:b1.toNat / 64=2) (hc:128≤b0.toNat % 32*64+b1.toNat % 64):DecOk (b0::b1::t) (b0.toNat % 32*64+b1.toNat % 64) 2:=by
 refine⟨?_,by omega,by omega,by simp,fun h=>by omega,fun _ x hx=>?_⟩
 ·unfold yJ
  rw[if_neg (by omega),if_pos (by omega)]
  simp only[Y4,List.take_zero,List.cons.injEq,and_true]
  exact⟨YR (by omega),YR (by omega)⟩
 ·simp only[Y4,List.take_zero,List.mem_cons,List.not_mem_nil,or_false] at hx
  rcases hx with rfl|rfl<;>omega
theorem zjB {b0 b1 b2:UInt8} {t:List UInt8} (h0:b0.toNat / 16=14) (h1:b1.toNat / 64=2) (h2:b2.toNat / 64=2) (hc:2048≤b0.toNat % 16*4096+b1.toNat % 64*64+b2.toNat % 64) :
  DecOk (b0::b1::b2::t) (b0.toNat % 16*4096+b1.toNat % 64*64+b2.toNat % 64) 3:=by
 refine⟨?_,by omega,by omega,by simp,fun h=>by omega,fun _ x hx=>?_⟩
 ·unfold yJ
  rw[if_neg (by omega),if_neg (by omega),if_pos (by omega)]
  simp only[Y4,List.take_zero,List.cons.injEq,and_true]
  exact⟨YR (by omega),YR (by omega),YR (by omega)⟩
 ·simp only[Y4,List.take_zero,List.mem_cons,List.not_mem_nil,or_false] at hx
  rcases hx with rfl|rfl|rfl<;>omega
theorem zkA {b0 b1 b2 b3:UInt8} {t:List UInt8} (h0:b0.toNat / 8=30) (h1:b1.toNat / 64=2) (h2:b2.toNat / 64=2) (h3:b3.toNat / 64=2)
  (hc:65536≤b0.toNat % 8*262144+b1.toNat % 64*4096+b2.toNat % 64*64+b3.toNat % 64) (hd:b0.toNat % 8*262144+b1.toNat % 64*4096+b2.toNat % 64*64+b3.toNat % 64≤1114111) :
  DecOk (b0::b1::b2::b3::t) (b0.toNat % 8*262144+b1.toNat % 64*4096+b2.toNat % 64*64+b3.toNat % 64) 4:=by
 refine⟨?_,by omega,by omega,by simp,fun h=>by omega,fun _ x hx=>?_⟩
 ·unfold yJ
  rw[if_neg (by omega),if_neg (by omega),if_neg (by omega)]
  simp only[Y4,List.take_zero,List.cons.injEq,and_true]
  exact⟨YR (by omega),YR (by omega),YR (by omega),YR (by omega)⟩
 ·simp only[Y4,List.take_zero,List.mem_cons,List.not_mem_nil,or_false] at hx
  rcases hx with rfl|rfl|rfl|rfl<;>omega
theorem zhn {l:List UInt8} (hne:l≠[]) (h:decodeL l≠(65533,1)):DecOk l (decodeL l).1 (decodeL l).2:=by
 rw[decodeL_N] at h ⊢
 obtain⟨b0,t,rfl⟩:∃ b0 t,l=b0::t:=by cases l with|nil=>exact absurd rfl hne|cons a b=>exact⟨a,b,rfl⟩
 simp only[List.getD_cons_zero,List.getD_cons_succ] at h ⊢
 unfold decodeN at h ⊢
 split at h
 ·rename_i h0
  rw[if_pos h0]
  refine⟨?_,by simp only;omega,by simp,by simp,fun _=>⟨by simp,by simpa using h0⟩,fun h=>absurd rfl h⟩
  simp only
  unfold yJ
  rw[if_pos (by omega)]
  simp only[Y4,List.take_zero,List.cons.injEq,and_true]
  exact YR rfl
 ·rename_i h0
  rw[if_neg h0]
  split at h
  ·rename_i h1
   rw[if_pos h1]
   split at h
   ·rename_i h2
    rw[if_pos h2]
    obtain⟨b1,t,rfl⟩:∃ b1 r,t=b1::r:=by cases t with|nil=>simp at h1|cons a b=>exact⟨a,b,rfl⟩
    exact zlO h1.1 (by simpa using h1.2.2) (by simpa using h2)
   ·exact absurd rfl h
  ·rename_i h1
   rw[if_neg h1]
   split at h
   ·rename_i h2
    rw[if_pos h2]
    split at h
    ·rename_i h3
     rw[if_pos h3]
     obtain⟨b1,t,rfl⟩:∃ b1 r,t=b1::r:=by cases t with|nil=>simp at h2|cons a b=>exact⟨a,b,rfl⟩
     obtain⟨b2,t,rfl⟩:∃ b2 r,t=b2::r:=by cases t with|nil=>simp at h2|cons a b=>exact⟨a,b,rfl⟩
     exact zjB h2.1 (by simpa using h2.2.1.2) (by simpa using h2.2.2.2) (by simpa using h3.1)
    ·exact absurd rfl h
   ·rename_i h2
    rw[if_neg h2]
    split at h
    ·rename_i h3
     rw[if_pos h3]
     split at h
     ·rename_i h4
      rw[if_pos h4]
      obtain⟨b1,t,rfl⟩:∃ b1 r,t=b1::r:=by cases t with|nil=>simp at h3|cons a b=>exact⟨a,b,rfl⟩
      obtain⟨b2,t,rfl⟩:∃ b2 r,t=b2::r:=by cases t with|nil=>simp at h3|cons a b=>exact⟨a,b,rfl⟩
      obtain⟨b3,t,rfl⟩:∃ b3 r,t=b3::r:=by cases t with|nil=>simp at h3|cons a b=>exact⟨a,b,rfl⟩
      exact zkA h3.1 (by simpa using h3.2.1.2) (by simpa using h3.2.2.1.2) (by simpa using h3.2.2.2.2) (by simpa using h4.1) (by have:=h4.2;simp at this ⊢;omega)
     ·exact absurd rfl h
    ·exact absurd rfl h
theorem Z0 {l:List UInt8} (hne:l≠[]) (hv:validD l=true):DecOk l (zl l).1 (zl l).2∧validD (l.drop (zl l).2)=true:=by
 rw[validD_step l hne] at hv
 split at hv
 ·cases hv
 ·rename_i h
  have h':decodeL l≠(65533,1):=fun e=>h ⟨by rw[e],by rw[e]⟩
  have e:zl l=decodeL l:=by unfold zl;rw[if_neg hne,if_neg h']
  rw[e]
  exact⟨zhn hne h',hv⟩
theorem zcg {may:UInt8→Bool}:∀(n m:Nat) (t:List UInt8) (q:Sd),t.length<n→t.length<m→Yw may n t q=Yw may m t q
 | 0,_,_,_,h,_=>by omega
 | _,0,_,_,_,h=>by omega
 | _+1,_+1,[],_,_,_=>rfl
 | n+1,m+1,c::t,q,h1,h2=>by
  simp only[Al2] at h1 h2
  simp only[Yw]
  split
  ·rfl
  ·split
   ·cases he:Z7 q t with
    | none=>rfl
    | some x =>
     have:=(zb4 (q':=x.1) (t':=x.2) he).2
     exact zcg n m x.2 x.1 (by omega) (by omega)
   ·split
    ·exact zcg n m t _ (by omega) (by omega)
    ·rfl
def zao (may:UInt8→Bool) (t:List UInt8) (q:Sd):Option (Sd×List UInt8):=Yw may (t.length+1) t q
theorem zir (may:UInt8→Bool) (t:List UInt8) (q:Sd):zao may (34::t) q=some (z7 q,t):=by simp[zao,Yw]
theorem zin (may:UInt8→Bool) (t:List UInt8) (q:Sd):zao may (92::t) q=match Z7 q t with|none=>none|some (q',t')=>zao may t' q':=by
 unfold zao
 simp only[Al2,Yw]
 rw[if_neg (by decide),if_pos trivial]
 cases he:Z7 q t with
 | none=>rfl
 | some x =>
  have:=(zb4 (q':=x.1) (t':=x.2) he).2
  exact zcg _ _ x.2 x.1 (by omega) (by omega)
theorem zk5 (may:UInt8→Bool) {c:UInt8} (t:List UInt8) (q:Sd) (h1:c≠34) (h2:c≠92):zao may (c::t) q=if may c then zao may t (q.put c) else none:=by
 unfold zao
 simp only[Al2,Yw]
 rw[if_neg h1,if_neg h2]
def znJ (x:Option (Sd×List UInt8)):Option (List UInt8×List UInt8):=match x with
 | some (q,t')=>if q.ok then some (q.b,t') else none
 | none=>none
theorem zmR (may:UInt8→Bool) (t:List UInt8):Z5 may t=znJ (zao may t ⟨[],[],true⟩):=rfl
def ym (c:UInt8):Bool:=decide (c≠10)&&decide (c≠13)
theorem zeG:∀(bs t out:List UInt8),(∀ x∈bs,128≤x.toNat)→zao ym (bs++t) ⟨out,[],true⟩=zao ym t ⟨out++bs,[],true⟩
 | [],t,out,_=>by simp
 | b::bs,t,out,h=>by
  have hb:=h b (.head _)
  have h0:∀ n:UInt8,n.toNat<128→b≠n:=fun n hn e=>by subst e;omega
  rw[Al6,zk5 ym _ _ (h0 34 (by decide)) (h0 92 (by decide)),if_pos (by simp[ym,h0 10 (by decide),h0 13 (by decide)])]
  have e:Sd.put ⟨out,[],true⟩ b=⟨out++[b],[],true⟩:=by simp[Sd.put,z7,zt]
  rw[e,zeG bs t (out++[b]) fun x hx=>h x (.tail _ hx)]
  simp
theorem zi2 {l out:List UInt8} {us:List Nat} {tt:List UInt8} (hj:zt us=some tt) {c k:Nat} (h:DecOk l c k) (hne:l≠[]) (h1:l.getD 0 0≠34) (h2:l.getD 0 0≠92) (h3:ym (l.getD 0 0)=true) :
  zao ym l ⟨out,us,true⟩=zao ym (l.drop k) ⟨out++tt++l.take k,[],true⟩:=by
 obtain⟨b,t,rfl⟩:∃ b t,l=b::t:=by cases l with|nil=>exact absurd rfl hne|cons a b=>exact⟨a,b,rfl⟩
 simp only[List.getD_cons_zero] at h1 h2 h3
 obtain⟨m,rfl⟩:∃ m,k=m+1:=⟨k-1,by have:=h.pos;omega⟩
 rw[zk5 ym t _ h1 h2,if_pos h3]
 have e:Sd.put ⟨out,us,true⟩ b=⟨out++tt++[b],[],true⟩:=by simp[Sd.put,z7,hj]
 rw[e,List.drop_succ_cons,Y4]
 by_cases hm:m=0
 ·subst hm;simp
 ·have hh:=h.high (by omega)
  rw[Y4] at hh
  have:=zeG (t.take m) (t.drop m) (out++tt++[b]) fun x hx=>hh x (.tail _ hx)
  rw[List.take_append_drop] at this
  rw[this];simp
def yS:List UInt8:=[46,46,46]
def zap:List UInt8:=[33,36,38,40,41,58,61,64,91,93,123,124,125]
def zcG:List UInt8→Bool
 | [c]=>decide (0≤Lib.indexByte zap c)
 | _=>false
def zi (t:Tok):Bool:=if t.k=1 then decide (t.s=yS)||zcG t.s else if t.k=2 then zm t.s else if t.k=3∨t.k=4 then decide (Zl t.s=t.k) else if t.k=5 then validD t.s else false
def yx (u:Nat):List UInt8:=[92,117,hexL.getD (u / 4096 % 16) 0,hexL.getD (u / 256 % 16) 0,hexL.getD (u / 16 % 16) 0,hexL.getD (u % 16) 0]
def yH (c:Nat) (bs:List UInt8):List UInt8 :=
 if c=34∨c=92 then [92,UInt8.ofNat c] else if c=10 then [92,110] else if c<32 then yx c
 else if 65536≤c then yx (55296+(c-65536) / 1024)++yx (56320+(c-65536) % 1024) else bs
def yB:Nat→List UInt8→List UInt8
 | 0,_=>[]
 | n+1,l=>if l=[] then [] else yH (zl l).1 (l.take (zl l).2)++yB n (l.drop (zl l).2)
def zfk (s:List UInt8):List UInt8:=34::(yB s.length s++[34])
def Z4 (t:Tok):List UInt8:=if t.k=5 then zfk t.s else t.s
def yZ (l:List Tok):List UInt8:=Lib.join (l.map Z4) [32]
def ZV (l:List Tok):List UInt8×Bool:=if l.all zi then (yZ l,true) else ([],false)
def zP:List UInt8→List UInt8→List (List UInt8)
 | cur,[]=>[cur]
 | cur,[c]=>if c=10∨c=13 then [cur,[]] else [cur++[c]]
 | cur,c::d::r=>if c=10 then cur::zP [] (d::r) else if c=13 then (if d=10 then cur::zP [] r else cur::zP [] (d::r)) else zP (cur++[c]) (d::r)
def zw (s:List UInt8):List (List UInt8):=zP [] s
def zcV (c:UInt8):Bool:=decide (c=9)||decide (c=32)
def Zp (s:List UInt8):Nat:=(s.takeWhile zcV).length
def z1 (s:List UInt8):Bool:=s.all zcV
def zbl:List (List UInt8)→Int→Int
 | [],a=>a
 | s::r,a=>zbl r (if z1 s then a else if a<0∨(Zp s:Int)<a then Zp s else a)
def indM (l:List (List UInt8)):Int:=zbl l.tail (-1)
def zaz (l:List (List UInt8)):List (List UInt8):=match l with
 | []=>[]
 | x::r=>x::r.map fun s=>s.drop (indM l).toNat
def zaG (l:List (List UInt8)):List (List UInt8):=(l.reverse.dropWhile z1).reverse
def yt (raw:List UInt8):List UInt8:=Lib.join (zaG ((zaz (zw raw)).dropWhile z1)) [10]
def zC:List UInt8:=[34,34,34]
def zf1:List UInt8:=[92,34,34,34]
def zeh:List UInt8:=[239,187,191]
def yU:Nat→List UInt8→List UInt8→Option (List UInt8×List UInt8)
 | 0,_,_=>none
 | n+1,raw,t=>match t with
  | []=>none
  | c::r=>if zC.isPrefixOf (c::r) then some (raw,r.drop 2) else if zf1.isPrefixOf (c::r) then yU n (raw++zC) (r.drop 3) else yU n (raw++[c]) r
def yb (c:UInt8):Bool:=!(decide (c=10)||decide (c=13))
def Ze:List UInt8→Nat
 | []=>0
 | c::r=>if c=9∨c=10∨c=13∨c=32∨c=44 then 1 else if zeh.isPrefixOf (c::r) then 3 else if c=35 then 1+(r.takeWhile yb).length else 0
def yc (s:List UInt8):Nat:=(s.takeWhile fun c=>isL c||isD c).length
def yC:List UInt8→Option (Tok×List UInt8)
 | []=>none
 | c::r=>if zC.isPrefixOf (c::r) then (yU (r.length+1) [] (r.drop 2)).map fun x=>(⟨5,yt x.1⟩,x.2)
  else if c=34 then (Z5 ym r).map fun x=>(⟨5,x.1⟩,x.2)
  else if yS.isPrefixOf (c::r) then some (⟨1,yS⟩,r.drop 2)
  else if 0≤Lib.indexByte zap c then some (⟨1,[c]⟩,r)
  else if isL c then some (⟨2,(c::r).take (yc (c::r))⟩,(c::r).drop (yc (c::r)))
  else if (zH (c::r)).1=0 then none
  else if ((c::r).drop (zH (c::r)).1).head?.any fun d=>isL d||isD d||decide (d=46) then none
  else some (⟨(zH (c::r)).2,(c::r).take (zH (c::r)).1⟩,(c::r).drop (zH (c::r)).1)
def yY:Nat→List Tok→List UInt8→Except Int (List Tok)
 | 0,_,_=>.error 0
 | n+1,l,t=>if t=[] then .ok l else if Ze t≠0 then yY n l (t.drop (Ze t)) else match yC t with
  | none=>.error 2
  | some (x,t')=>yY n (l++[x]) t'
def YM (c:Nat):Bool:=decide (c=9)||(decide (c=10)||(decide (c=13)||(decide (32≤c)&&decide (c≤65535))))
def zhc:Nat→List UInt8→Bool
 | 0,_=>true
 | n+1,l=>if l=[] then true else decide (0<(zl l).2)&&(YM (zl l).1&&zhc n (l.drop (zl l).2))
def zb1 (s:List UInt8):Bool:=zhc s.length s
def Za (s:List UInt8):Except Int (List Tok):=if 8192<s.length then .error 3 else if zb1 s then yY (s.length+1) [] s else .error 2
theorem zn0 (s:List UInt8):decodeGo ⟨s.toArray⟩=if s=[] then (65533,0) else decodeL s:=by
 unfold decodeGo
 cases s with
 | nil=>rfl
 | cons c r=>rw[if_neg (by simp[ByteArray.size]),if_neg (by simp)];rfl
theorem zll (s:List UInt8):Pure Tryz.prog 169 [.str s] (.tup [.int .i32 ((if s=[] then (65533,0) else decodeL s:Nat×Nat).1),.int .i64 ((if s=[] then (65533,0) else decodeL s:Nat×Nat).2)]):=by
 refine Pure.of_below fun γ w vs ht hv=>?_
 rw[zid hv]
 have h:=Tryz.utf8_DecodeRuneInString ⟨s.toArray⟩ w (zgY ht)
 rw[zn0] at h
 exact Calls.mono h fun e w' ⟨he,hb⟩=>⟨hb,_,he,zc5 (.int _ _) (.int _ _)⟩
theorem ziG:Go.Proofs.Builder.Extra Tryz.prog Tryz.lays156_ren where
 sizeBuilder:=by kernel_rfl
 liesBuilder:=by kernel_rfl
 t5:=Tryz.underlying5
 a5:=Tryz.isAgg5
 z5:=Tryz.sizeOf5
 v5:=Tryz.zeroValue5
 infoByte:=by kernel_rfl
 cellsByte:=by kernel_rfl
 sizeByte:=by kernel_rfl
 neB5:=by decide
theorem Yu (l:List (List UInt8)) (sep:List UInt8) (hl:(Lib.join l sep).length≤140737488355328) (hn:l.length≤140737488355328):Pure Tryz.prog 63 [.sl .no 1 (cT l),.str sep] (.str (Lib.join l sep)):=by
 refine Pure.of_below fun γ w vs ht hv=>?_
 obtain⟨hlv,hr⟩:=hv
 match vs,hlv with
 | [v,u],_ =>
  have h0:=hr 0 _ _ rfl rfl
  cases hr 1 _ _ rfl rfl
  generalize hx:cT l=xs at h0
  cases h0 with
  | slnil _ _ ho =>
   have:l=[]:=by cases l with|nil=>rfl|cons a b=>simp[cT] at hx
   subst this
   exact(Any.strings_Join_none Tryz.lays156 ziG none 0 ⟨sep.toArray⟩ w).mono fun e w' ⟨he,hw⟩=>⟨by rw[hw];exact RowKit.Below.refl _ _,_,he,.str _⟩
  | sl0 _ _ a ho =>
   have:l=[]:=by cases l with|nil=>rfl|cons a b=>simp[cT] at hx
   subst this
   exact(Any.strings_Join_none Tryz.lays156 ziG (some a) 0 ⟨sep.toArray⟩ w).mono fun e w' ⟨he,hw⟩=>⟨by rw[hw];exact RowKit.Below.refl _ _,_,he,.str _⟩
  | sl _ _ _ b off cap cv hc hm hu hcell hrr ho =>
   subst hx
   have hcl:=yq l
   cases hl0:l with
   | nil =>
    subst hl0
    exact(Any.strings_Join_none Tryz.lays156 ziG (some ⟨b,off,none⟩) cap ⟨sep.toArray⟩ w).mono fun e w' ⟨he,hw⟩=>⟨by rw[hw];exact RowKit.Below.refl _ _,_,he,.str _⟩
   | cons x0 r0 =>
    have hcells:∀(j:Nat) x,(l.map fun s=>(⟨s.toArray⟩:ByteArray))[j]?=some x→w.cell? ⟨b,off+j,none⟩=some (.string x):=fun j x hj=>by
     rw[yV,YB] at hj
     obtain⟨s,h1,rfl⟩:=hj
     have g1:(cT l)[j]?=some [.str s]:=by simp[cT,h1]
     have h2:=hcell j _ g1 0 (by decide)
     have h3:=hrr j _ g1 0 (.str s) rfl
     have e:off+(j*1+0)=off+j:=by omega
     rw[e] at h2
     generalize cv j 0=y at h2 h3
     cases h3
     exact h2.1
    have hbk:b<w.heap.size:=by
     have:=hcells 0 ⟨x0.toArray⟩ (by rw[hl0];rfl)
     exact World.block_lt_of_cell? w _ this
    have hmap:(l.map fun s=>(⟨s.toArray⟩:ByteArray)).map (·.data.toList)=l:=by
     rw[List.map_map];exact(List.map_congr_left (g:=id) fun s _=>by simp).trans (List.map_id l)
    have h:=Any.strings_Join Tryz.lays156 ziG b off cap (l.map fun s=>(⟨s.toArray⟩:ByteArray)) ⟨sep.toArray⟩ w hcells hbk (by simpa using hn) (by rw[List.length_map];omega) (by rw[hmap];exact hl)
    rw[List.length_map,hmap] at h
    rw[← hl0,hcl]
    exact h.mono fun e w' ⟨he,hb⟩=>⟨hb,_,he,.str _⟩
theorem zku (s:List UInt8) (i:Nat) (hi:i<s.length) (hs:s.length≤Lim):Pure Tryz.prog 115 [.str s,.int .i64 i] (.tup [.int .i64 (zl (s.drop i)).1,.int .i64 (zl (s.drop i)).2]):=by
 refine Pure.go ir115 ck115 (Al4 _) fun KP Q hQ=>?_
 simp only[Lim] at hs
 have hne:s.drop i≠[]:=fun e=>by have:=congrArg List.length e;simp at this;omega
 have h1:¬ ((i:Int)<0):=by omega
 have h2:¬ ((s.length:Int)≤i):=by omega
 have h3:((i:Int)≤s.length)=True:=eq_true (by omega)
 simp(disch:=first|omega|assumption) only[ir115,h1,h2,h3,go_sem]
 refine goK_pure (zll (s.drop i)) ?_
 have hw:=decodeL_width (s.drop i)
 have hr:=decodeL_rune (s.drop i)
 unfold zl at hQ
 simp only[hne,if_false] at hQ ⊢
 generalize decodeL (s.drop i)=x at *
 obtain⟨c,k⟩:=x
 simp only at hw hr hQ
 have e:IntKind.wrap .i64 (c:Int)=c:=wrap64 (by omega) (by omega)
 by_cases hc:c=65533
 ·have g1:((c:Int)=65533)=True:=eq_true (by omega)
  by_cases hk:k<2
  ·have g2:((k:Int)<2)=True:=eq_true (by omega)
   have e1:(c,k)=(65533,1):=by rw[hc];congr 1;omega
   rw[if_pos e1] at hQ
   simp(disch:=first|omega|assumption) only[g1,g2,go_sem]
   exact hQ _ _ _ _ nofun rfl (by simp[tupOf,envOf,AV.strip,AV.strip1])
  ·have g2:¬ ((k:Int)<2):=by omega
   have e1:¬ ((c,k)=(65533,1)):=fun h=>by cases h;omega
   rw[if_neg e1] at hQ
   simp(disch:=first|omega|assumption) only[g1,g2,e,go_sem]
   exact hQ _ _ _ _ nofun rfl (by simp[tupOf,envOf,AV.strip,AV.strip1])
 ·have g1:¬ ((c:Int)=65533):=by omega
  have e1:¬ ((c,k)=(65533,1)):=fun h=>by cases h;omega
  rw[if_neg e1] at hQ
  simp(disch:=first|omega|assumption) only[g1,e,go_sem]
  exact hQ _ _ _ _ nofun rfl (by simp[tupOf,envOf,AV.strip,AV.strip1])
theorem znO (c:Nat) (h:c≤1114111):Pure Tryz.prog 116 [.int .i64 c] (.bool (YM c)):=by
 refine Pure.go ir116 ck116 (Al4 _) fun KP Q hQ=>?_
 by_cases h1:c=9
 ·have g:((c:Int)=9)=True:=eq_true (by omega)
  simp(disch:=first|omega|assumption) only[ir116,g,go_sem]
  exact hQ _ _ _ _ nofun rfl (by simp[tupOf,envOf,AV.strip,AV.strip1,YM,h1])
 have g1:¬ ((c:Int)=9):=by omega
 by_cases h2:c=10
 ·have g:((c:Int)=10)=True:=eq_true (by omega)
  simp(disch:=first|omega|assumption) only[ir116,g1,g,go_sem]
  exact hQ _ _ _ _ nofun rfl (by simp[tupOf,envOf,AV.strip,AV.strip1,YM,h2])
 have g2:¬ ((c:Int)=10):=by omega
 by_cases h3:c=13
 ·have g:((c:Int)=13)=True:=eq_true (by omega)
  simp(disch:=first|omega|assumption) only[ir116,g1,g2,g,go_sem]
  exact hQ _ _ _ _ nofun rfl (by simp[tupOf,envOf,AV.strip,AV.strip1,YM,h3])
 have g3:¬ ((c:Int)=13):=by omega
 by_cases h4:32≤c
 ·have g4:((32:Int)≤c)=True:=eq_true (by omega)
  by_cases h5:c≤65535
  ·have g5:((c:Int)≤65535)=True:=eq_true (by omega)
   simp(disch:=first|omega|assumption) only[ir116,g1,g2,g3,g4,g5,go_sem]
   exact hQ _ _ _ _ nofun rfl (by simp[tupOf,envOf,AV.strip,AV.strip1,YM,h4,h5])
  ·have g5:¬ ((c:Int)≤65535):=by omega
   simp(disch:=first|omega|assumption) only[ir116,g1,g2,g3,g4,g5,go_sem]
   exact hQ _ _ _ _ nofun rfl (by simp[tupOf,envOf,AV.strip,AV.strip1,YM,h1,h2,h3,h5])
 ·have g4:¬ ((32:Int)≤c):=by omega
  simp(disch:=first|omega|assumption) only[ir116,g1,g2,g3,g4,go_sem]
  exact hQ _ _ _ _ nofun rfl (by simp[tupOf,envOf,AV.strip,AV.strip1,YM,h1,h2,h3,h4])
def Zc:Nat→List UInt8→List Nat
 | 0,_=>[]
 | n+1,l=>if l=[] then [] else (if 65536≤(zl l).1 then [55296+((zl l).1-65536) / 1024,56320+((zl l).1-65536) % 1024] else [(zl l).1])++Zc n (l.drop (zl l).2)
theorem yT (n:Nat):Zc n []=[]:=by cases n<;>simp[Zc]
theorem zcP:∀(n m:Nat) (l:List UInt8),l.length≤n→l.length≤m→validD l=true→Zc n l=Zc m l
 | 0,m,l,h,_,_=>by rw[Zi.1 (by omega:l.length=0),yT,yT]
 | n,0,l,_,h,_=>by rw[Zi.1 (by omega:l.length=0),yT,yT]
 | n+1,m+1,l,h1,h2,hv=>by
  by_cases hne:l=[]
  ·subst hne;rw[yT,yT]
  ·obtain⟨hd,hv2⟩:=Z0 hne hv
   have:=hd.pos
   have:=hd.len
   simp only[Zc,hne,if_false]
   rw[zcP n m _ (by simp;omega) (by simp;omega) hv2]
theorem zkH (n:Nat):((n:Int)).tdiv 1024=((n / 1024:Nat):Int):=by rw[Int.tdiv_eq_ediv_of_nonneg (by omega)];omega
theorem zkq (n:Nat):((n:Int)).tmod 1024=((n % 1024:Nat):Int):=by rw[Int.tmod_eq_emod_of_nonneg (by omega)];omega
theorem zmA (s:List UInt8) (hv:validD s=true) (hs:s.length≤Lim):Pure Tryz.prog 131 [.str s] (.tup [.sl .no 1 (cU (Zc s.length s)),.bool true]):=by
 refine Pure.go ir131 ck131 (Al4 _) fun KP Q hQ=>?_
 have hs':=hs
 simp only[Lim] at hs
 simp(disch:=first|omega|assumption) only[ir131,go_sem]
 refine goL_st (fun x:Own×List Nat×Nat=>[(4,.sl x.1 1 (cU x.2.1)),(5,.int .i64 x.2.2)])
  (fun x H=>x.2.2≤s.length∧x.2.1.length≤2*x.2.2∧Zc s.length s=x.2.1++Zc (s.drop x.2.2).length (s.drop x.2.2)∧validD (s.drop x.2.2)=true∧OwnS Heap.emp .nil H x.1 x.2.1.length 1) (fun x=>s.length-x.2.2) (.nil,[],0) (by simp(disch:=first|omega|assumption) only[cU,go_sem]) ⟨by simp,by simp,by simp,by simpa using hv,OwnS.refl rfl⟩ ?_
 rintro⟨o,acc,i⟩ H J ⟨hi,hai,hc,hv,hs1⟩ hJ
 simp only at hi hai hc hv hs1
 by_cases hlt:i<s.length
 case neg =>
  have hlt':¬ (i:Int)<s.length:=by omega
  rw[List.drop_of_length_le (by omega)] at hc
  rw[yT,List.append_nil] at hc
  simp(disch:=first|omega|assumption) only[hlt',go_sem]
  exact hQ _ _ _ _ nofun rfl (by simp[tupOf,envOf,AV.strip,AV.strip1,hc])
 have hlt':(i:Int)<s.length:=by omega
 have hne:s.drop i≠[]:=fun e=>by have:=congrArg List.length e;simp at this;omega
 have hcl:=zfl acc
 obtain⟨hd,hv2⟩:=Z0 hne hv
 have hp:=hd.pos
 have hle:=hd.len
 have hmax:=hd.le
 have hst:Zc (s.drop i).length (s.drop i)=(if 65536≤(zl (s.drop i)).1 then [55296+((zl (s.drop i)).1-65536) / 1024,56320+((zl (s.drop i)).1-65536) % 1024] else [(zl (s.drop i)).1])++Zc ((s.drop i).drop (zl (s.drop i)).2).length ((s.drop i).drop (zl (s.drop i)).2):=by
  obtain⟨n,hn⟩:∃ n,(s.drop i).length=n+1:=⟨(s.drop i).length-1,by omega⟩
  rw[hn,Zc,if_neg hne,zcP n _ _ (by simp at hn ⊢;omega) (Al4 _) hv2]
 simp(disch:=first|omega|assumption) only[hlt',go_sem]
 refine goK_pure (zku s i hlt hs') ?_
 rw[hst] at hc
 rw[List.drop_drop] at hc hv2
 rw[Zn] at hle
 generalize (zl (s.drop i)).1=c at *
 generalize (zl (s.drop i)).2=k at *
 have h0':¬ ((k:Int)=0):=by omega
 by_cases hc6:65536≤c
 ·have g:((65536:Int)≤c)=True:=eq_true (by omega)
  have w1:IntKind.wrap .i64 ((c:Int)-65536)=((c-65536:Nat):Int):=by rw[wrap64 (by omega) (by omega)];omega
  have w2:IntKind.wrap .i64 (((c-65536) / 1024:Nat):Int)=(((c-65536) / 1024:Nat):Int):=wrap64 (by omega) (by omega)
  have w3:IntKind.wrap .i64 (55296+(((c-65536) / 1024:Nat):Int))=((55296+(c-65536) / 1024:Nat):Int):=by rw[wrap64 (by omega) (by omega)];omega
  have w4:IntKind.wrap .i64 (56320+(((c-65536) % 1024:Nat):Int))=((56320+(c-65536) % 1024:Nat):Int):=by rw[wrap64 (by omega) (by omega)];omega
  rw[if_pos hc6] at hc
  simp(disch:=first|omega|assumption) only[h0',g,w1,zkH,zkq,w2,w3,w4,go_sem]
  refine goP_ownS (by rw[hcl];exact hs1.own) (by simp only[hcl,Al2,Al3];omega) (by simp only[hcl,Al2,Al3,maxLen];omega) fun o' H' hs2=>?_
  simp(disch:=first|omega|assumption) only[wrap64,go_sem]
  exact goJ (hJ (o',acc++[55296+(c-65536) / 1024,56320+(c-65536) % 1024],i+k) H' (by simp only;omega) ⟨by simp only;omega,by simp;omega,by rw[hc];simp,hv2,hs1.trans (by simpa[hcl] using hs2)⟩) (by simp(disch:=first|omega|assumption) only[cU,List.map_append,Int.natCast_add,go_sem])
 ·have g:¬ ((65536:Int)≤c):=by omega
  rw[if_neg hc6] at hc
  simp(disch:=first|omega|assumption) only[h0',g,go_sem]
  refine goP_ownS (by rw[hcl];exact hs1.own) (by simp only[hcl,Al2,Al3];omega) (by simp only[hcl,Al2,Al3,maxLen];omega) fun o' H' hs2=>?_
  simp(disch:=first|omega|assumption) only[wrap64,go_sem]
  exact goJ (hJ (o',acc++[c],i+k) H' (by simp only;omega) ⟨by simp only;omega,by simp;omega,by rw[hc];simp,hv2,hs1.trans (by simpa[hcl] using hs2)⟩) (by simp(disch:=first|omega|assumption) only[cU,List.map_append,Int.natCast_add,go_sem])
theorem zi5 {n n' b0 b1 b2 b3 c1 c2 c3 c k:Nat} (h:decodeN n b0 b1 b2 b3=(c,k)) (hv:(c,k)≠(65533,1)) (hn:k≤n') (h1:1<k→c1=b1) (h2:2<k→c2=b2) (h3:3<k→c3=b3):decodeN n' b0 c1 c2 c3=(c,k):=by
 unfold decodeN at h
 split at h
 ·rename_i h0
  unfold decodeN
  rw[if_pos h0,h]
 rename_i h0
 split at h
 ·rename_i hA
  split at h
  ·rename_i hB
   cases h
   unfold decodeN
   rw[if_neg h0,h1 (by decide),if_pos ⟨hA.1,by omega,hA.2.2⟩,if_pos hB]
  ·exact absurd h.symm hv
 rename_i hA
 split at h
 ·rename_i hB
  split at h
  ·rename_i hC
   cases h
   unfold decodeN
   rw[if_neg h0,h1 (by decide),h2 (by decide),if_neg (by omega),if_pos ⟨hB.1,⟨by omega,hB.2.1.2⟩,by omega,hB.2.2.2⟩,if_pos hC]
  ·exact absurd h.symm hv
 rename_i hB
 split at h
 ·rename_i hC
  split at h
  ·rename_i hD
   cases h
   unfold decodeN
   rw[if_neg h0,h1 (by decide),h2 (by decide),h3 (by decide),if_neg (by omega),if_neg (by omega),if_pos ⟨hC.1,⟨by omega,hC.2.1.2⟩,⟨by omega,hC.2.2.1.2⟩,by omega,hC.2.2.2.2⟩,if_pos hD]
  ·exact absurd h.symm hv
 ·exact absurd h.symm hv
theorem zcF {l:List UInt8} (hne:l≠[]) (h:(zl l).2≠0):zl l=decodeL l∧decodeL l≠(65533,1):=by
 unfold zl at h ⊢
 rw[if_neg hne] at h ⊢
 split at h
 ·exact absurd rfl h
 ·rename_i h2;rw[if_neg h2];exact⟨rfl,h2⟩
theorem zbG {l:List UInt8} (hne:l≠[]) (h:(zl l).2≠0) (t:List UInt8):zl (l.take (zl l).2++t)=zl l:=by
 obtain⟨e,hv⟩:=zcF hne h
 have hk:=decodeL_le l hne
 rw[e]
 generalize hd:decodeL l=x at *
 obtain⟨c,k⟩:=x
 simp only at *
 have h2:decodeL (l.take k++t)=(c,k):=by
  rw[decodeL_N] at hd ⊢
  have hg:∀ j,j<k→(l.take k++t).getD j 0=l.getD j 0:=fun j hj=>by
   simp only[List.getD_eq_getElem?_getD]
   rw[za0 (by simp;omega),List.getElem?_take_of_lt hj]
  have hk1:1≤k:=by rw[← show (decodeL l).2=k by rw[decodeL_N,hd]];exact decodeL_width l
  rw[hg 0 (by omega)]
  exact zi5 hd hv (by simp;omega) (fun hj=>by rw[hg 1 hj]) (fun hj=>by rw[hg 2 hj]) fun hj=>by rw[hg 3 hj]
 have hne2:l.take k++t≠[]:=fun e=>by
  have h3:=congrArg List.length e
  have hk1:1≤k:=by rw[← show (decodeL l).2=k by rw[hd]];exact decodeL_width l
  have hl:0<l.length:=List.length_pos_iff.2 hne
  simp only[Al5,List.length_take,Al3] at h3;omega
 unfold zl
 rw[if_neg hne2,h2,if_neg hv]
theorem zgL (b:UInt8) (t:List UInt8) (h:b.toNat<128):zl (b::t)=(b.toNat,1):=by
 unfold zl
 rw[if_neg (by simp),decodeL_ascii b t h,if_neg (by simp;omega)]
def zcu (r:List UInt8):Prop:=r=[]∨∃ c t,r=c::t∧(c=32∨c=10)
theorem zgO {r:List UInt8} (h:zcu r):zv r=0:=by
 rcases h with rfl|⟨c,t,rfl,rfl|rfl⟩
 ·rfl
 all_goals simp[zv,isD]
theorem za1:∀(a:List UInt8) {r:List UInt8},zcu r→zv (a++r)=zv a
 | [],r,h=>zgO h
 | c::a,r,h=>by simp only[Al6,zv];rw[za1 a h]
theorem zgN (a:List UInt8) {r:List UInt8} (h:zcu r):Zf (a++r)=Zf a:=by
 unfold Zf
 rw[za1 a h]
 cases a with
 | nil=>simp[zv]
 | cons c a=>simp
theorem zhk (a:List UInt8) {r:List UInt8} (h:zcu r):zp (a++r)=zp a:=by
 cases a with
 | nil =>
  have h1:=zgO h
  have h2:zp []=0:=rfl
  rw[yR,h2]
  unfold zp
  rcases h with rfl|⟨c,t,rfl,rfl|rfl⟩
  ·rfl
  all_goals
   rw[if_neg (by simp)];unfold Zf;rw[if_pos h1]
 | cons c a =>
  by_cases hc:c=45
  ·subst hc;rw[Al6,ZO,ZO,za1 a h,zgN a h]
  ·rw[y5 (s:=c::a++r) (by simp[hc]),y5 (s:=c::a) (by simp[hc]),zgN (c::a) h]
theorem zjf (a:List UInt8) {r:List UInt8} (h:zcu r):yn (a++r)=yn a:=by
 cases a with
 | nil=>rcases h with rfl|⟨c,t,rfl,rfl|rfl⟩<;>rfl
 | cons c a=>simp[yn,za1 a h]
theorem zlc (a:List UInt8) {r:List UInt8} (h:zcu r):ZM (a++r)=ZM a:=by
 cases a with
 | nil =>
  rcases h with rfl|⟨c,t,rfl,rfl|rfl⟩
  ·rfl
  all_goals simp[ZM,isE]
 | cons c a =>
  have hs:sgN (a++r)=sgN a:=by
   cases a with
   | nil=>rcases h with rfl|⟨c,t,rfl,rfl|rfl⟩<;>simp[sgN]
   | cons d a=>simp[sgN]
  have hd:(a++r).drop (sgN a)=a.drop (sgN a)++r:=zcx (zhE a)
  simp only[Al6,ZM,hs,hd,za1 _ h]
theorem zf8 {a:List UInt8} {r:List UInt8} (h:zcu r):zH (a++r)=zH a:=by
 have h1:=zci a
 have e1:(a++r).drop (zp a)=a.drop (zp a)++r:=zcx h1
 have h2:=zg5 (a.drop (zp a))
 simp only[Zn] at h2
 have e2:(a++r).drop (zp a+yn (a.drop (zp a)))=a.drop (zp a+yn (a.drop (zp a)))++r:=zcx (by omega)
 unfold zH
 rw[zhk a h,e1,zjf _ h,e2,zlc _ h]
theorem znc:∀ x:Fin 16,hexD (hexL.getD x.val 0)=some x.val:=by decide +kernel
theorem zm6 (n:Nat):hexD (hexL.getD (n % 16) 0)=some (n % 16):=znc ⟨n % 16,Nat.mod_lt _ (by decide)⟩
theorem zhv {u:Nat} (h:u<65536) (t:List UInt8):Ya (hexL.getD (u / 4096 % 16) 0::hexL.getD (u / 256 % 16) 0::hexL.getD (u / 16 % 16) 0::hexL.getD (u % 16) 0::t)=some u:=by
 simp only[Ya,ZJ,zm6]
 congr 1
 omega
theorem zbg:∀(us vs:List Nat) (tt:List UInt8),zt us=some tt→zt (us++vs)=(zt vs).map (tt++·)
 | [],vs,tt,h=>by
  simp only[zt,Al1] at h;subst h
  rw[yR]
  cases hj:zt vs<;>simp
 | [u],vs,tt,h=>by
  unfold zt at h
  rw[List.singleton_append]
  conv=>lhs;unfold zt
  split at h
  ·cases h
  ·rename_i h1
   rw[if_neg h1]
   split at h
   ·cases h
   ·rename_i h2
    rw[if_neg h2]
    simp only[zt,z6,Al1,List.append_nil] at h
    subst h;rfl
 | u::v::r,vs,tt,h=>by
  unfold zt at h
  rw[Al6]
  conv=>lhs;unfold zt
  split at h
  ·cases h
  ·rename_i h1
   rw[if_neg h1]
   split at h
   ·rename_i h2
    rw[if_pos h2]
    simp only[Al6] at h ⊢
    split at h
    ·cases h
    ·rename_i h3
     rw[if_neg h3]
     cases hj:zt r with
     | none=>rw[hj] at h;cases h
     | some x =>
      rw[hj] at h
      simp only[z6,Al1] at h
      rw[zbg r vs x hj]
      subst h
      cases zt vs<;>simp
   ·rename_i h2
    rw[if_neg h2]
    cases hj:zt (v::r) with
    | none=>rw[hj] at h;cases h
    | some x =>
     rw[hj] at h
     simp only[z6,Al1] at h
     rw[zbg (v::r) vs x hj]
     subst h
     cases zt vs<;>simp
theorem zi7 {u:Nat} (h1:u≤65535) (h2:u<55296∨57343<u):zt [u]=some (yJ u):=by
 unfold zt;rw[if_neg (by omega),if_neg (by omega)];simp[zt]
theorem ziU {c:Nat} (h1:65536≤c) (h2:c≤1114111):zt [55296+(c-65536) / 1024,56320+(c-65536) % 1024]=some (yJ c):=by
 have e:65536+1024*(55296+(c-65536) / 1024-55296)+(56320+(c-65536) % 1024-56320)=c:=by omega
 unfold zt;rw[if_neg (by omega),if_pos (by omega)]
 simp only
 rw[if_neg (by omega),e]
 simp[zt]
theorem zcK {u:Nat} (h:u<65536) (t out:List UInt8) (us:List Nat):zao ym (yx u++t) ⟨out,us,true⟩=zao ym t ⟨out,us++[u],true⟩:=by
 simp only[yx,Al6,yR]
 rw[zin]
 simp only[Z7,if_true,zhv h,z6,List.drop_succ_cons,List.drop_zero]
theorem zd4 {k:UInt8} {v:UInt8} (hk:k≠117) (h1:¬ Lib.indexByte zbr k<0) (h2:zkW.getD (Lib.indexByte zbr k).toNat 0=v) {us:List Nat} {tt:List UInt8} (hj:zt us=some tt) (t out:List UInt8) :
  zao ym (92::k::t) ⟨out,us,true⟩=zao ym t ⟨out++tt++[v],[],true⟩:=by
 rw[zin]
 simp only[Z7,if_neg hk,if_neg h1,h2]
 simp[Sd.put,z7,hj]
theorem zdE {l:List UInt8} {c k:Nat} (h:DecOk l c k) (hc:c<128):k=1∧l.take k=[UInt8.ofNat c]∧(l.getD 0 0).toNat=c:=by
 have e:=h.enc
 have hl:(yJ c).length=1:=by unfold yJ;rw[if_pos (by omega)];rfl
 have hk:k=1:=by
  rw[e] at hl
  have:=h.len
  simp at hl;omega
 refine⟨hk,by rw[← e];unfold yJ;rw[if_pos (by omega)],(h.one hk).1.symm⟩
theorem zoh {l:List UInt8} (hne:l≠[]) (h:(zl l).2≠0):(zl l).1<55296∨57343<(zl l).1:=by
 obtain⟨e,hv⟩:=zcF hne h
 rw[e]
 rw[decodeL_N] at hv ⊢
 generalize (l.getD 0 0).toNat=b0 at *
 generalize (l.getD 1 0).toNat=b1 at *
 generalize (l.getD 2 0).toNat=b2 at *
 generalize (l.getD 3 0).toNat=b3 at *
 unfold decodeN at hv ⊢
 repeat' split
 all_goals first|(simp only;omega)|(simp_all;done)|(simp_all;omega)
theorem ze1:∀(n:Nat) (l out:List UInt8) (us:List Nat) (tt rest:List UInt8),l.length≤n→validD l=true→zt us=some tt→zao ym (yB n l++34::rest) ⟨out,us,true⟩=some (⟨out++tt++l,[],true⟩,rest)
 | 0,l,out,us,tt,rest,hn,_,hj=>by
  obtain rfl:l=[]:=Zi.1 (by omega)
  simp only[yB,yR]
  rw[zir];simp[z7,hj]
 | n+1,l,out,us,tt,rest,hn,hv,hj=>by
  rw[yB]
  by_cases hne:l=[]
  ·subst hne
   simp only[if_true,yR]
   rw[zir];simp[z7,hj]
  ·rw[if_neg hne]
   obtain⟨hd,hv2⟩:=Z0 hne hv
   have hpos:=hd.pos
   have hle:=hd.len
   have hsur:=zoh hne (by omega)
   have hmax:=hd.le
   have hen:=hd.enc
   have hpre:=zbG hne (by omega:(zl l).2≠0)
   generalize (zl l).1=c at *
   generalize (zl l).2=k at *
   have hl:(l.drop k).length≤n:=by simp;omega
   have hcat:l.take k++l.drop k=l:=List.take_append_drop k l
   have ih:∀ out us tt,zt us=some tt→zao ym (yB n (l.drop k)++34::rest) ⟨out,us,true⟩=some (⟨out++tt++l.drop k,[],true⟩,rest):=fun out us tt hj=>ze1 n (l.drop k) out us tt rest hl hv2 hj
   have fin:∀ x:List UInt8,x=l.take k→out++tt++x++l.drop k=out++tt++l:=fun x hx=>by rw[hx,ZF,hcat]
   rw[ZF]
   unfold yH
   by_cases h1:c=34∨c=92
   ·rw[if_pos h1]
    obtain⟨rfl,ht,_⟩:=zdE hd (by omega)
    simp only[Al6,yR]
    rcases h1 with rfl|rfl
    ·rw[zd4 (v:=34) (by decide) (by decide) (by decide) hj,ih _ [] [] rfl,List.append_nil]
     exact congrArg some (Prod.ext (by simp only[Sd.mk.injEq,and_self,and_true];exact fin [34] (by rw[ht];rfl)) rfl)
    ·rw[zd4 (v:=92) (by decide) (by decide) (by decide) hj,ih _ [] [] rfl,List.append_nil]
     exact congrArg some (Prod.ext (by simp only[Sd.mk.injEq,and_self,and_true];exact fin [92] (by rw[ht];rfl)) rfl)
   rw[if_neg h1]
   by_cases h2:c=10
   ·rw[if_pos h2]
    subst h2
    obtain⟨rfl,ht,_⟩:=zdE hd (by omega)
    simp only[Al6,yR]
    rw[zd4 (v:=10) (by decide) (by decide) (by decide) hj,ih _ [] [] rfl,List.append_nil]
    exact congrArg some (Prod.ext (by simp only[Sd.mk.injEq,and_self,and_true];exact fin [10] (by rw[ht];rfl)) rfl)
   rw[if_neg h2]
   by_cases h3:c<32
   ·rw[if_pos h3,zcK (by omega),ih out (us++[c]) (tt++yJ c) (by rw[zbg us [c] tt hj,zi7 (by omega) (by omega)];rfl)]
    exact congrArg some (Prod.ext (by simp only[Sd.mk.injEq,and_self,and_true];rw[← ZF];exact fin (yJ c) hen) rfl)
   rw[if_neg h3]
   by_cases h4:65536≤c
   ·rw[if_pos h4,ZF,zcK (by omega),zcK (by omega),ih out (us++[_]++[_]) (tt++yJ c) (by rw[ZF,zbg us _ tt hj,List.singleton_append,ziU h4 (by omega)];rfl)]
    exact congrArg some (Prod.ext (by simp only[Sd.mk.injEq,and_self,and_true];rw[← ZF];exact fin (yJ c) hen) rfl)
   ·rw[if_neg h4]
    obtain⟨b,t,hbt⟩:∃ b t,l=b::t:=by cases l with|nil=>exact absurd rfl hne|cons a b=>exact⟨a,b,rfl⟩
    have hg:(l.take k++(yB n (l.drop k)++34::rest)).getD 0 0=l.getD 0 0:=by
     rw[hbt];obtain⟨m,rfl⟩:∃ m,k=m+1:=⟨k-1,by omega⟩;simp
    have hd2:DecOk (l.take k++(yB n (l.drop k)++34::rest)) c k:=by
     have htk:(l.take k++(yB n (l.drop k)++34::rest)).take k=l.take k:=List.take_left' (by simp;omega)
     exact⟨by rw[htk];exact hen,hmax,hpos,by simp;omega,fun e=>by rw[hg];exact hd.one e,fun e=>by rw[htk];exact hd.high e⟩
    have hb:(l.getD 0 0).toNat=c∨128≤(l.getD 0 0).toNat:=by
     by_cases hk1:k=1
     ·exact .inl (hd.one hk1).1.symm
     ·right
      refine hd.high hk1 _ ?_
      rw[hbt];obtain⟨m,rfl⟩:∃ m,k=m+1:=⟨k-1,by omega⟩;simp
    have hne0:∀ m:UInt8,m.toNat<128→m.toNat≠c→l.getD 0 0≠m:=fun m hm hc e=>by rw[e] at hb;omega
    rw[zi2 hj hd2 (by rw[hbt];obtain⟨m,rfl⟩:∃ m,k=m+1:=⟨k-1,by omega⟩;simp) (by rw[hg];exact hne0 34 (by decide) (by simp;omega)) (by rw[hg];exact hne0 92 (by decide) (by simp;omega))
     (by rw[hg];simp only[ym,Al0,zn];exact⟨hne0 10 (by decide) (by simp;omega),hne0 13 (by decide) (by simp;omega)⟩)]
    rw[List.take_left' (by simp;omega),List.drop_left' (by simp;omega),ih _ [] [] rfl,List.append_nil]
    exact congrArg some (Prod.ext (by simp only[Sd.mk.injEq,and_self,and_true];exact fin _ rfl) rfl)
theorem ziQ (s rest:List UInt8) (hv:validD s=true):Z5 ym (yB s.length s++34::rest)=some (s,rest):=by
 rw[zmR,ze1 s.length s [] [] [] rest (Al4 _) hv rfl]
 simp[znJ]
theorem zbk (u:Nat):(yx u).length=6:=rfl
theorem zdg {l:List UInt8} {c k:Nat} (h:DecOk l c k):(yH c (l.take k)).length≤6*k:=by
 have hp:=h.pos
 have hl:=h.len
 have he:=h.enc
 unfold yH
 split
 ·simp;omega
 split
 ·simp;omega
 split
 ·rw[zbk];omega
 split
 ·have:k=4:=by
   have e:=congrArg List.length he
   unfold yJ at e
   rw[if_neg (by omega),if_neg (by omega),if_neg (by omega)] at e
   simp at e;omega
  simp only[Al5,zbk];omega
 ·simp;omega
theorem Ym (n:Nat):yB n []=[]:=by cases n<;>simp[yB]
theorem zdW:∀(n m:Nat) (l:List UInt8),l.length≤n→l.length≤m→validD l=true→yB n l=yB m l
 | 0,m,l,h,_,_=>by rw[Zi.1 (by omega:l.length=0),Ym,Ym]
 | n,0,l,_,h,_=>by rw[Zi.1 (by omega:l.length=0),Ym,Ym]
 | n+1,m+1,l,h1,h2,hv=>by
  by_cases hne:l=[]
  ·subst hne;rw[Ym,Ym]
  ·obtain⟨hd,hv2⟩:=Z0 hne hv
   have:=hd.pos
   have:=hd.len
   simp only[yB,hne,if_false]
   rw[zdW n m _ (by simp;omega) (by simp;omega) hv2]
theorem zeX:∀(n:Nat) (l:List UInt8),validD l=true→(yB n l).length≤6*l.length
 | 0,l,_=>by simp[yB]
 | n+1,l,hv=>by
  by_cases hne:l=[]
  ·subst hne;simp[yB]
  ·obtain⟨hd,hv2⟩:=Z0 hne hv
   have h1:=zdg hd
   have h2:=zeX n _ hv2
   have h3:=hd.len
   simp only[yB,hne,if_false,Al5]
   simp only[Zn] at h2
   omega
def zfe (l:List UInt8):List UInt8:=yB l.length l
theorem zhp {l:List UInt8} (hne:l≠[]) (hv:validD l=true):zfe l=yH (zl l).1 (l.take (zl l).2)++zfe (l.drop (zl l).2):=by
 obtain⟨hd,hv2⟩:=Z0 hne hv
 have:=hd.pos
 have:=hd.len
 unfold zfe
 obtain⟨n,hn⟩:∃ n,l.length=n+1:=⟨l.length-1,by omega⟩
 rw[hn,yB,if_neg hne,zdW n _ _ (by simp;omega) (Al4 _) hv2]
theorem zkl (s:List UInt8) (hv:validD s=true):(zfk s).length≤6*s.length+2:=by
 have:=zeX s.length s hv
 simp only[zfk,Al2,Al5,Al3];omega
theorem zk2 {t:Tok} (h:zi t=true):(Z4 t).length≤6*t.s.length+2:=by
 unfold Z4
 split
 ·rename_i h5
  unfold zi at h
  rw[h5] at h
  exact zkl _ (by simpa using h)
 ·omega
theorem fdN (u k:Nat) (hk:k≤64):(u:Int).fdiv (2 ^ min k IntKind.i64.bits)=((u / 2 ^ k:Nat):Int):=by
 have e:min k IntKind.i64.bits=k:=by show min k 64=k;omega
 rw[e,Int.fdiv_eq_ediv_of_nonneg _ (by exact_mod_cast Nat.zero_le _)]
 norm_cast
theorem zng (n:Nat):((n:Int)).tmod 16=((n % 16:Nat):Int):=by rw[Int.tmod_eq_emod_of_nonneg (by omega)];omega
theorem zmt (u:Nat) (hu:u<65536) (acc:List UInt8) (H:Heap) (o:Own) (ho:Owned H o acc.length 1) (hb:acc.length≤Lim) :
  zfh Tryz.prog 132 [.sl o 1 (bytesOf acc),.int .i64 u] H o 1 (bytesOf (acc++yx u)):=by
 refine ACalls.goO ir132 ck132 (Al4 _) fun KP Q hQ hP=>?_
 have hal:=zu acc
 simp only[Lim] at hb
 simp(disch:=first|omega|assumption) only[ir132,steps,st2,pev,rev,oev,optr,ibin,sbin,ishf,bound,mmAll,mm2,mk,mkArgs,AV.cells,AV.boxable,AV.one,AV.strip1,fillA,fillS,Nat.reduceEqDiff,reduceCtorEq,↓reduceIte,Nat.reduceAdd,Int.reduceNeg,Nat.reduceLeDiff,Int.reduceToNat,Int.reduceEq,Int.reduceLT,Int.reduceLE,Int.reduceAdd,Io,Im,If,Il,Jt,Jf,AC.rg,Jm,Jl,Ja,Fm,Fl,Fa,Imv,Imb,Iai,Iei,Igi,Isi,Ipf,Ipt,Ilb,Iia,Ilt,Iap,Ink,Iln,Ils,Iad,Iex,Ibx,Ing]
 refine goP_ownS (by rw[hal];exact ho) (by simp[hal];omega) (by simp[hal,maxLen];omega) fun o1 H1 hs1=>?_
 have hs1':OwnS H o H1 o1 (acc++[92,117]).length 1:=by simpa[hal] using hs1
 have e1:bytesOf acc++[[AV.int .u8 92],[AV.int .u8 117]]=bytesOf (acc++[92,117]):=zaN acc 92 117
 simp(disch:=first|omega|assumption) only[e1,steps,st2,pev,rev,oev,optr,ibin,sbin,ishf,bound,mmAll,mm2,mk,mkArgs,AV.cells,AV.boxable,AV.one,AV.strip1,fillA,fillS,Nat.reduceEqDiff,reduceCtorEq,↓reduceIte,Nat.reduceAdd,Int.reduceNeg,Nat.reduceLeDiff,Int.reduceToNat,Int.reduceEq,Int.reduceLT,Int.reduceLE,Int.reduceAdd]
 refine goL_st (fun x:Nat×Own=>[(0,.sl x.2 1 (bytesOf (acc++(yx u).take (6-x.1)))),(5,.int .i64 ((x.1:Int)-1))]) (fun x H'=>x.1≤4∧OwnS H o H' x.2 (acc++(yx u).take (6-x.1)).length 1) (fun x=>x.1) (4,o1) (by simp(disch:=first|omega|assumption) only[yx,Int.reduceSub,steps,st2,pev,rev,oev,optr,ibin,sbin,ishf,bound,mmAll,mm2,mk,mkArgs,AV.cells,AV.boxable,AV.one,AV.strip1,fillA,fillS,Nat.reduceEqDiff,reduceCtorEq,↓reduceIte,Nat.reduceAdd,Int.reduceNeg,Nat.reduceLeDiff,Int.reduceToNat,Int.reduceEq,Int.reduceLT,Int.reduceLE,Int.reduceAdd]) ⟨by simp,by simpa[yx] using hs1'⟩ ?_
 rintro⟨k,o2⟩ H2 J ⟨hk,hs⟩ hJ
 simp only at hk hs
 cases k with
 | zero =>
  have h0:¬ ((0:Int)≤-1):=by omega
  have e:(yx u).take (6-0)=yx u:=rfl
  rw[e] at hs
  simp(disch:=first|omega|assumption) only[h0,e,Int.reduceSub,steps,st2,pev,rev,oev,optr,ibin,sbin,ishf,bound,mmAll,mm2,mk,mkArgs,AV.cells,AV.boxable,AV.one,AV.strip1,fillA,fillS,Nat.reduceEqDiff,reduceCtorEq,↓reduceIte,Nat.reduceAdd,Int.reduceNeg,Nat.reduceLeDiff,Int.reduceToNat,Int.reduceEq,Int.reduceLT,Int.reduceLE,Int.reduceAdd]
  exact hQ _ _ H2 H2 [_] nofun rfl (Low.refl _) ⟨o2,rfl,by rw[zu];exact hs⟩
 | succ j =>
  have e0:((j+1:Nat):Int)-1=(j:Int):=by omega
  have h0:((0:Int)≤j)=True:=eq_true (by omega)
  have w1:IntKind.wrap .i64 (4*(j:Int))=((4*j:Nat):Int):=by rw[wrap64 (by omega) (by omega)];omega
  have w2:=fdN u (4*j) (by omega)
  have hlt:(((u / 2 ^ (4*j) % 16:Nat):Int)<16)=True:=eq_true (by omega)
  have w0:(((4*j:Nat):Int)<0)=False:=eq_false (by omega)
  have hm:((yx u).take (6-(j+1)))++[hexL.getD (u / 2 ^ (4*j) % 16) 0]=(yx u).take (6-j):=by
   have:j=0∨j=1∨j=2∨j=3:=by omega
   rcases this with rfl|rfl|rfl|rfl<;>simp[yx]
  have hl2:=zu (acc++(yx u).take (6-(j+1)))
  have hl3:(acc++(yx u).take (6-(j+1))).length≤acc.length+6:=by simp[zbk];omega
  have e3:=YP (acc++(yx u).take (6-(j+1))) (hexL.getD (u / 2 ^ (4*j) % 16) 0)
  rw[ZF,hm] at e3
  have hg:([48,49,50,51,52,53,54,55,56,57,97,98,99,100,101,102]:List UInt8).getD (u / 2 ^ (4*j) % 16) 0=hexL.getD (u / 2 ^ (4*j) % 16) 0:=rfl
  simp(disch:=first|omega|assumption) only[e0,h0,w1,w2,w0,zng,hlt,hg,steps,st2,pev,rev,oev,optr,ibin,sbin,ishf,bound,mmAll,mm2,mk,mkArgs,AV.cells,AV.boxable,AV.one,AV.strip1,fillA,fillS,Nat.reduceEqDiff,reduceCtorEq,↓reduceIte,Nat.reduceAdd,Int.reduceNeg,Nat.reduceLeDiff,Int.reduceToNat,Int.reduceEq,Int.reduceLT,Int.reduceLE,Int.reduceAdd]
  refine goP_ownS (by rw[hl2];exact hs.own) (by simp only[hl2,Al2,Al3];omega) (by simp only[hl2,Al2,Al3,maxLen];omega) fun o3 H3 hs3=>?_
  have hs4:OwnS H o H3 o3 (acc++(yx u).take (6-j)).length 1:=by
   have e:(acc++(yx u).take (6-j)).length=(bytesOf (acc++(yx u).take (6-(j+1)))).length+1:=by
    rw[hl2,← hm,← ZF];simp only[Al5,Al2,Al3]
   rw[e];exact hs.trans hs3
  simp(disch:=first|omega|assumption) only[e3,wrap64,steps,st2,pev,rev,oev,optr,ibin,sbin,ishf,bound,mmAll,mm2,mk,mkArgs,AV.cells,AV.boxable,AV.one,AV.strip1,fillA,fillS,Nat.reduceEqDiff,reduceCtorEq,↓reduceIte,Nat.reduceAdd,Int.reduceNeg,Nat.reduceLeDiff,Int.reduceToNat,Int.reduceEq,Int.reduceLT,Int.reduceLE,Int.reduceAdd]
  exact goJ (hJ (j,o3) H3 (Nat.lt_succ_self j) ⟨by simp only;omega,hs4⟩) (by simp(disch:=first|omega|assumption) only[steps,st2,pev,rev,oev,optr,ibin,sbin,ishf,bound,mmAll,mm2,mk,mkArgs,AV.cells,AV.boxable,AV.one,AV.strip1,fillA,fillS,Nat.reduceEqDiff,reduceCtorEq,↓reduceIte,Nat.reduceAdd,Int.reduceNeg,Nat.reduceLeDiff,Int.reduceToNat,Int.reduceEq,Int.reduceLT,Int.reduceLE,Int.reduceAdd])
theorem zhM {l:List UInt8} {c k:Nat} (hne:l≠[]) (hv:validD l=true) (hc:(zl l).1=c) (hk:(zl l).2=k) :
  validD (l.take k)=true∧(l.take k).length=k∧Zc (l.take k).length (l.take k)=if 65536≤c then [55296+(c-65536) / 1024,56320+(c-65536) % 1024] else [c]:=by
 obtain⟨hd,hv2⟩:=Z0 hne hv
 subst hc;subst hk
 have hp:=hd.pos
 have hle:=hd.len
 have hlen:(l.take (zl l).2).length=(zl l).2:=by simp;omega
 have hne2:l.take (zl l).2≠[]:=fun e=>by rw[e] at hlen;simp at hlen;omega
 have hcode:=zbG hne (by omega:(zl l).2≠0) []
 rw[List.append_nil] at hcode
 have hdrop:(l.take (zl l).2).drop (zl l).2=[]:=by apply List.drop_eq_nil_of_le;omega
 refine⟨?_,hlen,?_⟩
 ·have:=(zee hne2 (by rw[hcode];omega)).1
  rw[this,hcode,hdrop];rfl
 ·rw[hlen]
  obtain⟨n,hn⟩:∃ n,(zl l).2=n+1:=⟨(zl l).2-1,by omega⟩
  conv=>lhs;rw[show Zc (zl l).2=Zc (n+1) by rw[hn]]
  rw[Zc,if_neg hne2,hcode,hdrop,yT,List.append_nil]
theorem zog {n:Nat} (h:n<256):IntKind.wrap .u8 (n:Int)=((UInt8.ofNat n).toNat:Int):=by
 rw[wr8];simp
set_option maxHeartbeats 1000000 in
theorem zlJ (s:List UInt8) (hv:validD s=true) (hs:6*s.length+2≤Lim):Pure Tryz.prog 62 [.str s] (.str (zfk s)):=by
 refine Pure.go ir62 ck62 (Al4 _) fun KP Q hQ=>?_
 have hs':s.length≤Lim:=by simp only[Lim] at hs ⊢;omega
 simp only[Lim] at hs
 simp(disch:=first|omega|assumption) only[ir62,go_sem]
 have e34:([[AV.int .u8 34]]:List (List AV))=bytesOf [34]:=rfl
 simp(disch:=first|omega|assumption) only[e34,go_sem]
 refine goL_st (fun x:Own×List UInt8×Nat=>[(3,.sl x.1 1 (bytesOf x.2.1)),(4,.int .i64 x.2.2)])
  (fun x H=>x.2.2≤s.length∧x.2.1.length≤6*x.2.2+1∧34::zfe s=x.2.1++zfe (s.drop x.2.2)∧validD (s.drop x.2.2)=true∧Owned H x.1 x.2.1.length 1) (fun x=>s.length-x.2.2) (.full,[34],0) (by simp(disch:=first|omega|assumption) only[go_sem]) ⟨by simp,by simp,by simp,by simpa using hv,Owned.full _ _ _⟩ ?_
 rintro⟨o,acc,i⟩ H J ⟨hi,hai,hc,hv,hs1⟩ hJ
 simp only at hi hai hc hv hs1
 have hal:=zu acc
 by_cases hlt:i<s.length
 case neg =>
  have hlt':¬ (i:Int)<s.length:=by omega
  rw[List.drop_of_length_le (by omega)] at hc
  have e0:zfe []=[]:=rfl
  rw[e0,List.append_nil] at hc
  have e3:bytesOf acc++[[AV.int .u8 34]]=bytesOf (acc++[34]):=YP acc 34
  simp(disch:=first|omega|assumption) only[hlt',go_sem]
  refine goP_ownS (by rw[hal];exact hs1) (by simp only[hal,Al2,Al3];omega) (by simp only[hal,Al2,Al3,maxLen];omega) fun o3 H3 hs3=>?_
  simp(disch:=first|omega|assumption) only[e3,zc2,go_sem]
  have e4:zfk s=acc++[34]:=by rw[← hc];rfl
  exact hQ _ _ _ _ nofun rfl (by simp[tupOf,envOf,AV.strip,AV.strip1,e4])
 have hlt':(i:Int)<s.length:=by omega
 have hne:s.drop i≠[]:=fun e=>by have:=congrArg List.length e;simp at this;omega
 obtain⟨hd,hv2⟩:=Z0 hne hv
 have hst:=zhp hne hv
 have hone:=zhM hne hv rfl rfl
 have hpl:=zdg hd
 have hp:=hd.pos
 have hle:=hd.len
 have hmax:=hd.le
 have h1b:=@zdE _ _ _ hd
 rw[Zn] at hle
 simp(disch:=first|omega|assumption) only[hlt',go_sem]
 refine goK_pure (zku s i hlt hs') ?_
 rw[hst] at hc
 rw[List.drop_drop] at hc hv2
 generalize (zl (s.drop i)).1=c at *
 generalize (zl (s.drop i)).2=k at *
 have hmax1:((1:Int) > (k:Int))=False:=eq_false (by omega)
 have wk:IntKind.wrap .i64 ((i:Int)+(k:Int))=((i+k:Nat):Int):=by rw[wrap64 (by omega) (by omega)];omega
 have hsub:(s.take (i+k)).drop i=(s.drop i).take k:=by rw[List.drop_take];congr 1;omega
 have hle2:(((i+k:Nat):Int)≤s.length)=True:=eq_true (by omega)
 have hle3:((i:Int)≤((i+k:Nat):Int))=True:=eq_true (by omega)
 have step:∀ o3 H3 (bs:List UInt8),bs=yH c ((s.drop i).take k)→Owned H3 o3 (acc++bs).length 1→J ((setAll _ [(3,.sl o3 1 (bytesOf (acc++bs))),(4,.int .i64 ((i+k:Nat):Int))]).keep [0,3,4]) H3:=fun o3 H3 bs hbs ho3 =>
  hJ (o3,acc++bs,i+k) H3 (by simp only;omega) ⟨by simp only;omega,by simp only[Al5,hbs];omega,by rw[hc,hbs];simp,hv2,ho3⟩
 by_cases c1:c=34∨c=92
 ·have g:((c:Int)=34∨(c:Int)=92):=by omega
  have e3:bytesOf acc++[[AV.int .u8 92],[AV.int .u8 (UInt8.ofNat c).toNat]]=bytesOf (acc++[92,UInt8.ofNat c]):=zaN acc 92 _
  have ep:[92,UInt8.ofNat c]=yH c ((s.drop i).take k):=by unfold yH;rw[if_pos c1]
  rcases c1 with c1|c1
  all_goals
   have w8:IntKind.wrap .u8 (c:Int)=((UInt8.ofNat c).toNat:Int):=zog (by omega)
   subst c1
   have gg:=w8
   simp only[Int.cast_ofNat_Int] at w8
   simp(disch:=first|omega|assumption) only[w8,go_sem]
   refine goP_ownS (by rw[hal];exact hs1) (by simp only[hal,Al2,Al3];omega) (by simp only[hal,Al2,Al3,maxLen];omega) fun o3 H3 hs3=>?_
   simp(disch:=first|omega|assumption) only[e3,hmax1,wk,go_sem]
   exact goJ (step o3 H3 _ ep (by simpa[hal] using hs3.own)) (by simp(disch:=first|omega|assumption) only[go_sem])
 have g34:¬ ((c:Int)=34):=by omega
 have g92:¬ ((c:Int)=92):=by omega
 by_cases c2:c=10
 ·subst c2
  have e3:bytesOf acc++[[AV.int .u8 92],[AV.int .u8 110]]=bytesOf (acc++[92,110]):=zaN acc 92 110
  have ep:[92,110]=yH 10 ((s.drop i).take k):=by unfold yH;rw[if_neg (by decide),if_pos rfl]
  simp(disch:=first|omega|assumption) only[go_sem]
  refine goP_ownS (by rw[hal];exact hs1) (by simp only[hal,Al2,Al3];omega) (by simp only[hal,Al2,Al3,maxLen];omega) fun o3 H3 hs3=>?_
  simp(disch:=first|omega|assumption) only[e3,hmax1,wk,go_sem]
  exact goJ (step o3 H3 _ ep (by simpa[hal] using hs3.own)) (by simp(disch:=first|omega|assumption) only[go_sem])
 have g10:¬ ((c:Int)=10):=by omega
 by_cases c3:c<32∨65536≤c
 ·have hus:=hone.2.2
  have hvt:=hone.1
  have htl:=hone.2.1
  have hlim:((s.drop i).take k).length≤Lim:=by rw[htl];simp only[Lim];omega
  have loop:∀(ρ:Env) (us:List Nat),us=(if 65536≤c then [55296+(c-65536) / 1024,56320+(c-65536) % 1024] else [c])→(∀ u∈us,u<65536)∧us.flatMap yx=yH c ((s.drop i).take k):=fun ρ us hu=>by
   subst hu
   by_cases h6:65536≤c
   ·rw[if_pos h6]
    refine⟨fun u hu=>by simp at hu;omega,?_⟩
    unfold yH;rw[if_neg c1,if_neg c2,if_neg (by omega),if_pos h6];simp
   ·rw[if_neg h6]
    refine⟨fun u hu=>by simp at hu;omega,?_⟩
    unfold yH;rw[if_neg c1,if_neg c2,if_pos (by omega)];simp
  obtain⟨us,hus2⟩:∃ us,us=(if 65536≤c then [55296+(c-65536) / 1024,56320+(c-65536) % 1024] else [c]):=⟨_,rfl⟩
  rw[← hus2] at hus
  obtain⟨hu1,hu2⟩:=loop (fun _=>.any) us hus2
  have hul:us.length≤2:=by rw[hus2];split<;>simp
  have hcl:=zfl us
  by_cases c4:c<32
  case' pos =>
   have g32:((c:Int)<32)=True:=eq_true (by omega)
   simp(disch:=first|omega|assumption) only[g34,g92,g10,g32,wk,hle2,hle3,hsub,go_sem]
  case' neg =>
   have g32:¬ ((c:Int)<32):=by omega
   have g6:((65536:Int)≤c)=True:=eq_true (by omega)
   simp(disch:=first|omega|assumption) only[g34,g92,g10,g32,g6,wk,hle2,hle3,hsub,go_sem]
  all_goals
   refine goK_pure (zmA _ hvt hlim) ?_
   rw[hus]
   simp(disch:=first|omega|assumption) only[hcl,go_sem]
   refine goL_range us 67 (fun x:Own×List UInt8=>[(3,.sl x.1 1 (bytesOf x.2))]) (fun done rest x H'=>x.2++rest.flatMap yx=acc++yH c ((s.drop i).take k)∧x.2.length≤acc.length+6*done.length∧Owned H' x.1 x.2.length 1) (o,acc) (by simp(disch:=first|omega|assumption) only[go_sem]) ⟨by simp only;rw[hu2],by simp,hs1⟩ ?_ ?_
   ·rintro⟨o2,a⟩ H2 J2 ⟨hn,hle,hs2⟩ hlt
    simp only[List.flatMap_nil,List.append_nil] at hn hle hs2
    simp(disch:=first|omega|assumption) only[hcl,hlt,hmax1,wk,go_sem]
    subst hn
    exact goJ (step o2 H2 _ rfl hs2) (by simp(disch:=first|omega|assumption) only[go_sem])
   ·rintro done x rest ⟨o2,a⟩ H2 J2 hdn hlt hlt2 ⟨hn,hle,hs2⟩ hJ2
    simp only[List.flatMap_cons] at hn hle hs2
    have hg:(cU us).getD done.length []=[AV.int .i64 (x:Int)]:=getD_mid' hdn
    simp(disch:=first|omega|assumption) only[hcl,hlt,hg,go_sem]
    refine yG (zmt x (hu1 x (by rw[hdn];simp)) a _ o2 hs2 (by simp only[Lim];omega)) fun o3 H3 hs3=>?_
    rw[zu] at hs3
    simp(disch:=first|omega|assumption) only[wrap64,go_sem]
    exact goJ (hJ2 (o3,a++yx x) H3 ⟨by rw[← hn];simp,by simp only[Al5,zbk,Al2,Al3];omega,hs3.own⟩) (by simp(disch:=first|omega|assumption) only[go_sem])
 ·have g32:¬ ((c:Int)<32):=by omega
  have g6:¬ ((65536:Int)≤c):=by omega
  have ep:(s.drop i).take k=yH c ((s.drop i).take k):=by unfold yH;rw[if_neg c1,if_neg c2,if_neg (by omega),if_neg (by omega)]
  have htl:=hone.2.1
  have hbl:=zu ((s.drop i).take k)
  simp(disch:=first|omega|assumption) only[g34,g92,g10,g32,g6,wk,hle2,hle3,hsub,go_sem]
  refine goP_ownS (by rw[hal];exact hs1) (by rw[hal,hbl,htl];omega) (by rw[hal,hbl,htl];simp only[maxLen];omega) fun o3 H3 hs3=>?_
  simp(disch:=first|omega|assumption) only[yL,ya,hmax1,wk,go_sem]
  exact goJ (step o3 H3 _ ep (by have:=hs3.own;rw[hal,hbl] at this;simpa using this)) (by simp(disch:=first|omega|assumption) only[go_sem])
end Go.Proofs.YtaielcdfcgpbiaaGreatDoor
namespace Go.Proofs.YtaielcdfcgpbiaaGreatDoor
open Go.Ab
abbrev TS:=List Tok
def hdT (t:TS):Tok:=t.headD ⟨0,[]⟩
def isP (m:List UInt8) (t:TS):Bool:=decide ((hdT t).k=1)&&decide ((hdT t).s=m)
def isW (w:List UInt8) (t:TS):Bool:=decide ((hdT t).k=2)&&decide ((hdT t).s=w)
abbrev PR (α:Type):=Except Int (α×TS)
def pb {α β:Type} (x:PR α) (f:α→TS→PR β):PR β:=match x with
 | .ok (a,t)=>f a t
 | .error e=>.error e
theorem zk {α β:Type} (a:α) (t:TS) (f:α→TS→PR β):pb (.ok (a,t)) f=f a t:=rfl
def yp (m:List UInt8) (t:TS):PR Unit:=if isP m t then .ok ((),t.tail) else .error 2
def zZ (t:TS):PR (List UInt8):=if (hdT t).k=2 then .ok ((hdT t).s,t.tail) else .error 2
def zR (w:List UInt8) (t:TS):TS:=if isW w t then t.tail else t
def zA {α:Type} (m:List UInt8) (f:TS→PR α):Nat→List α→TS→PR (List α)
 | 0,_,_=>.error 0
 | n+1,l,t=>if isP m t then .ok (l,t.tail) else pb (f t) fun x t=>zA m f n (l++[x]) t
def yA {α:Type} (m:List UInt8) (f:TS→PR α) (t:TS):PR (List α):=pb (f t) fun x t=>zA m f (t.length+1) [x] t
def yd {α:Type} (m:List UInt8) (f:TS→PR α):Nat→List α→TS→PR (List α)
 | 0,_,_=>.error 0
 | n+1,l,t=>if isP m t then pb (f t.tail) fun x t=>yd m f n (l++[x]) t else .ok (l,t)
def YZ (ty:TyD) (t:TS):PR TyD:=if isP [33] t then .ok (⟨ty.nm,ty.lists,ty.musts+1⟩,t.tail) else .ok (ty,t)
def zgJ {α:Type} (f:Nat→α):Nat→Option α
 | 0=>none
 | k+1=>some (f k)
theorem zfQ {α:Type} (f:Nat→α) (k:Nat):zgJ f (k+1)=some (f k):=rfl
def zb7 (sub:Option (TS→PR TyD)) (t:TS):PR TyD:=if isP [91] t then (match sub with
   | none=>.error 4
   | some f=>pb (f t.tail) fun ty t=>pb (yp [93] t) fun _ t=>YZ ⟨ty.nm,ty.lists+1,ty.musts*2⟩ t)
  else pb (zZ t) fun s t=>YZ ⟨s,0,0⟩ t
def YS:Nat→TS→PR TyD
 | 0=>zb7 none
 | k+1=>zb7 (some (YS k))
theorem ZC (k:Nat) (t:TS):YS k t=zb7 (zgJ YS k) t:=by cases k<;>rfl
def Yb (s:List UInt8):Val:=if s=[110,117,108,108] then zV else if s=[116,114,117,101] then .mk 1 1 [] [] [] else if s=[102,97,108,115,101] then .mk 1 0 [] [] [] else .mk 5 0 s [] []
def zX (v:TS→PR Val) (t:TS):PR Mem:=pb (zZ t) fun s t=>pb (yp [58] t) fun _ t=>pb (v t) fun x t=>.ok (.mk s x,t)
def Z8 (fixed:Bool) (sub:Option (TS→PR Val)) (t:TS):PR Val :=
  if (hdT t).k=2 then .ok (Yb (hdT t).s,t.tail)
  else if (hdT t).k=3∨(hdT t).k=4 then .ok (zcq (hdT t).s,t.tail)
  else if (hdT t).k=5 then .ok (.mk 4 0 (hdT t).s [] [],t.tail)
  else if isP [91] t then (match sub with
   | none=>.error 4
   | some f=>pb (zA [93] f (t.tail.length+1) [] t.tail) fun l t=>.ok (.mk 6 0 [] l [],t))
  else if isP [123] t then (match sub with
   | none=>.error 4
   | some f=>pb (zA [125] (zX f) (t.tail.length+1) [] t.tail) fun l t=>.ok (.mk 7 0 [] [] l,t))
  else if fixed then .error 2
  else pb (yp [36] t) fun _ t=>pb (zZ t) fun s t=>.ok (.mk 8 0 s [] [],t)
def yy (fixed:Bool):Nat→TS→PR Val
 | 0=>Z8 fixed none
 | k+1=>Z8 fixed (some (yy fixed k))
theorem zY (fixed:Bool) (k:Nat) (t:TS):yy fixed k t=Z8 fixed (zgJ (yy fixed) k) t:=by cases k<;>rfl
def Z9 (fixed:Bool) (k:Nat) (t:TS):PR (List Mem):=if isP [40] t then yA [41] (zX (yy fixed k)) t.tail else .ok ([],t)
def zcv (fixed:Bool) (k:Nat) (t:TS):PR DirD:=pb (zZ t) fun s t=>pb (Z9 fixed k t) fun a t=>.ok (⟨s,a⟩,t)
def zaA (fixed:Bool) (k:Nat) (t:TS):PR (List DirD):=yd [64] (zcv fixed k) (t.length+1) [] t
def wK (t:Tok):Nat:=t.s.length+4
def wT (l:TS):Nat:=(l.map wK).sum
theorem zI (x:Tok) (l:TS):wT (x::l)=wK x+wT l:=by simp[wT]
theorem zmY {a b:TS} (h:a <:+ b):wT a≤wT b:=by
 obtain⟨p,rfl⟩:=h;simp[wT]
structure Fp {α:Type} (b:α→Nat) (ok:α→Prop) (c:Nat) (t:TS) (a:α) (t':TS):Prop where
 suf:t' <:+ t
 w:b a+c+wT t'≤wT t
 ok:ok a
def GP {α:Type} (b:α→Nat) (ok:α→Prop) (c:Nat) (f:TS→PR α):Prop:=∀ t a t',f t=.ok (a,t')→Fp b ok c t a t'
theorem Fp.lt {α:Type} {b:α→Nat} {ok:α→Prop} {c:Nat} {t t':TS} {a:α} (h:Fp b ok c t a t') (hc:0<c):t'.length<t.length:=by
 obtain⟨p,hp⟩:=h.suf
 have h2:=h.w
 cases p with
 | nil=>simp at hp;subst hp;omega
 | cons x p=>rw[← hp];simp;omega
theorem zcZ {t:TS} (h:(hdT t).k≠0):t=hdT t::t.tail:=by
 cases t with
 | nil=>exact absurd rfl h
 | cons x t=>rfl
theorem zdD {m:List UInt8} {t:TS} (h:isP m t=true):(hdT t).k≠0:=by
 simp only[isP,Al0,zn] at h;rw[h.1];decide
theorem zlg {m:List UInt8} {t:TS} (h:isW m t=true):(hdT t).k≠0:=by
 simp only[isW,Al0,zn] at h;rw[h.1];decide
theorem zbD {t:TS} (h:(hdT t).k≠0):t.tail <:+ t∧(hdT t).s.length+4+wT t.tail=wT t:=by
 refine⟨List.tail_suffix t,?_⟩
 conv=>rhs;rw[zcZ h,zI]
 rfl
theorem YA {m:List UInt8} {t:TS} (h:isP m t=true):t.tail <:+ t∧4+wT t.tail≤wT t:=by
 have:=zbD (zdD h);exact⟨this.1,by omega⟩
theorem zbe {m:List UInt8} {t:TS} (h:isW m t=true):t.tail <:+ t∧4+wT t.tail≤wT t:=by
 have:=zbD (zlg h);exact⟨this.1,by omega⟩
def T1 {α:Type} (_:α):Prop:=True
def b0 {α:Type} (_:α):Nat:=0
theorem yg (m:List UInt8):GP b0 T1 4 (yp m):=fun t a t' h=>by
 unfold yp at h
 split at h
 ·rename_i hp;simp only[Yy,Al8] at h;obtain⟨_,rfl⟩:=h
  have:=YA hp;exact⟨this.1,by simp only[b0];omega,trivial⟩
 ·cases h
theorem zK:GP List.length T1 4 zZ:=fun t a t' h=>by
 unfold zZ at h
 split at h
 ·rename_i hp;simp only[Yy,Al8] at h;obtain⟨rfl,rfl⟩:=h
  have:=zbD (t:=t) (by rw[hp];decide);exact⟨this.1,by omega,trivial⟩
 ·cases h
theorem ze {α β:Type} {x:PR α} {f:α→TS→PR β} {b:β} {t':TS} (h:pb x f=.ok (b,t')):∃ a t,x=.ok (a,t)∧f a t=.ok (b,t'):=by
 rcases x with e|⟨a,t⟩
 ·cases h
 ·exact⟨a,t,rfl,h⟩
def sm {α:Type} (b:α→Nat) (l:List α):Nat:=(l.map b).sum+l.length
theorem ziO {α:Type} (b:α→Nat) (l:List α) (x:α):sm b (l++[x])=sm b l+b x+1:=by simp[sm];omega
theorem zc8 {α:Type} {ok:α→Prop} {l:List α} {x:α} (h:∀ y∈l,ok y) (hx:ok x):∀ y∈l++[x],ok y:=fun y hy=>by
 rcases List.mem_append.1 hy with h1|h1
 ·exact h y h1
 ·simp at h1;subst h1;exact hx
theorem za3 {α:Type} {b:α→Nat} {ok:α→Prop} {m:List UInt8} {f:TS→PR α} (hf:GP b ok 1 f):∀(n:Nat) (l:List α) (t:TS) (l':List α) (t':TS),(∀ x∈l,ok x)→zA m f n l t=.ok (l',t')→t' <:+ t∧sm b l'+4+wT t'≤sm b l+wT t∧∀ x∈l',ok x
 | 0,_,_,_,_,_,h=>by cases h
 | n+1,l,t,l',t',hl,h=>by
  simp only[zA] at h
  split at h
  ·rename_i hp;simp only[Yy,Al8] at h;obtain⟨rfl,rfl⟩:=h
   have:=YA hp;exact⟨this.1,by omega,hl⟩
  ·obtain⟨x,t1,h1,h2⟩:=ze h
   have g1:=hf _ _ _ h1
   have w:=g1.w
   have g2:=za3 hf n _ _ _ _ (zc8 hl g1.ok) h2
   rw[ziO] at g2
   exact⟨g2.1.trans g1.suf,by omega,g2.2.2⟩
theorem zbw {α:Type} {b:α→Nat} {ok:α→Prop} {m:List UInt8} {f:TS→PR α} (hf:GP b ok 1 f):∀(n:Nat) (l:List α) (t:TS) (l':List α) (t':TS),(∀ x∈l,ok x)→yd m f n l t=.ok (l',t')→t' <:+ t∧sm b l'+wT t'≤sm b l+wT t∧∀ x∈l',ok x
 | 0,_,_,_,_,_,h=>by cases h
 | n+1,l,t,l',t',hl,h=>by
  simp only[yd] at h
  split at h
  ·rename_i hp
   have h0:=YA hp
   obtain⟨x,t1,h1,h2⟩:=ze h
   have g1:=hf _ _ _ h1
   have w:=g1.w
   have g2:=zbw hf n _ _ _ _ (zc8 hl g1.ok) h2
   rw[ziO] at g2
   exact⟨(g2.1.trans g1.suf).trans h0.1,by omega,g2.2.2⟩
  ·simp only[Yy,Al8] at h;obtain⟨rfl,rfl⟩:=h
   exact⟨List.suffix_refl t,by omega,hl⟩
theorem Yv {α:Type} {b:α→Nat} {ok:α→Prop} {m:List UInt8} {f:TS→PR α} (hf:GP b ok 1 f):GP (sm b) (fun l=>∀ x∈l,ok x) 4 (yA m f):=fun t l t' h=>by
 obtain⟨x,t1,h1,h2⟩:=ze h
 have g1:=hf _ _ _ h1
 have w:=g1.w
 have g2:=za3 hf _ [x] _ _ _ (fun y hy=>by simp at hy;subst hy;exact g1.ok) h2
 have e:sm b [x]=b x+1:=by simp[sm]
 exact⟨g2.1.trans g1.suf,by omega,g2.2.2⟩
theorem zdb {m:List UInt8} {t:TS} (h:isP m t=true):t.tail.length<t.length:=by
 conv=>rhs;rw[zcZ (zdD h)]
 simp
theorem GP.lt {α:Type} {b:α→Nat} {ok:α→Prop} {c:Nat} {f:TS→PR α} (h:GP b ok c f) (hc:0<c):∀ t a t',f t=.ok (a,t')→t'.length<t.length:=fun t a t' e=>(h t a t' e).lt hc
def zoi (ty:TyD) (n:Nat):Prop:=0≤ty.lists∧ty.lists≤n∧0≤ty.musts∧ty.musts<2 ^ (ty.lists.toNat+1)∧ty.musts % 2=0
def zf9 (n:Nat) (ty:TyD):Prop:=0≤ty.lists∧ty.lists≤n∧0≤ty.musts∧ty.musts<2 ^ (ty.lists.toNat+1)
theorem zeY {ty:TyD} {n:Nat} (h:zoi ty n):∀ t a t',YZ ty t=.ok (a,t')→t' <:+ t∧a.nm=ty.nm∧wT t'≤wT t∧zf9 n a:=fun t a t' e=>by
 obtain⟨h1,h2,h3,h4,h5⟩:=h
 unfold YZ at e
 split at e
 ·rename_i hp;simp only[Yy,Al8] at e;obtain⟨rfl,rfl⟩:=e
  have:=YA hp
  refine⟨this.1,rfl,by omega,h1,h2,by simp only;omega,?_⟩
  have e2:(2:Int) ^ (ty.lists.toNat+1) % 2=0:=by rw[Int.pow_succ];omega
  simp only;omega
 ·simp only[Yy,Al8] at e;obtain⟨rfl,rfl⟩:=e
  exact⟨List.suffix_refl t,rfl,Al4 _,h1,h2,h3,h4⟩
theorem zeQ (n:Nat) (ih:∀ m,n=m+1→GP (fun ty=>ty.nm.length) (zf9 m) 4 (YS m)):GP (fun ty=>ty.nm.length) (zf9 n) 4 (YS n):=fun t a t' h=>by
 rw[ZC,zb7.eq_def] at h
 split at h
 ·rename_i hp
  have h0:=YA hp
  cases n with
  | zero=>cases h
  | succ n =>
   obtain⟨ty,t1,h1,h2⟩:=ze h
   obtain⟨_,t2,h3,h4⟩:=ze h2
   have g1:=ih n rfl _ _ _ h1
   have g3:=yg _ _ _ _ h3
   obtain⟨a1,a2,a3,a4⟩:=g1.ok
   have e1:(ty.lists+1).toNat=ty.lists.toNat+1:=by omega
   have g4:=zeY (n:=n+1) ⟨by simp only;omega,by simp only;omega,by simp only;omega,by simp only;rw[e1,Int.pow_succ];omega,by simp only;omega⟩ _ _ _ h4
   have w1:=g1.w
   have w3:=g3.w
   simp only[b0] at w1 w3
   exact⟨((g4.1.trans g3.suf).trans g1.suf).trans h0.1,by rw[g4.2.1];simp only;omega,g4.2.2.2⟩
 ·obtain⟨s,t1,h1,h2⟩:=ze h
  have g1:=zK _ _ _ h1
  have g4:=zeY (n:=n) ⟨by simp,by simp,by simp,by simp,by simp⟩ _ _ _ h2
  have w1:=g1.w
  exact⟨g4.1.trans g1.suf,by rw[g4.2.1];simp only;omega,g4.2.2.2⟩
theorem zb2:∀ n,GP (fun ty=>ty.nm.length) (zf9 n) 4 (YS n)
 | 0=>zeQ 0 fun m h=>by cases h
 | k+1=>zeQ (k+1) fun m h=>by cases h;exact zb2 k
open Go.Lib
theorem zjD {s:List UInt8} (h:s.length≠1):zcG s=false:=by
 match s,h with
 | [],_=>rfl
 | [_],h=>exact absurd rfl h
 | _::_::_,_=>rfl
theorem zlV (t:Tok) (ht:t.s.length≤Lim):Pure Tryz.prog 61 [.agg (cK t)] (.bool (zi t)):=by
 refine Pure.go ir61 ck61 (Al4 _) fun KP Q hQ=>?_
 obtain⟨k,s⟩:=t
 simp only at ht
 by_cases k1:k=1
 ·subst k1
  by_cases hd:s=[46,46,46]
  ·simp(disch:=first|omega|assumption) only[ir61,cK,hd,go_sem]
   exact hQ _ _ _ _ nofun rfl (by simp[tupOf,envOf,AV.strip,AV.strip1,zi,hd,yS])
  by_cases hl:s.length=1
  ·obtain⟨c,rfl⟩:=List.length_eq_one_iff.1 hl
   simp(disch:=first|omega|assumption) only[ir61,cK,hd,go_sem]
   have e:zi ⟨1,[c]⟩=decide (0≤Lib.indexByte zap c):=by simp[zi,yS,zcG]
   refine goK_pure (zhx _ c) ?_
   simp(disch:=first|omega|assumption) only[go_sem]
   exact hQ _ _ _ [_] nofun rfl (by rw[e];rfl)
  ·have hl':¬ ((s.length:Int)=1):=by omega
   simp(disch:=first|omega|assumption) only[ir61,cK,hd,hl',go_sem]
   exact hQ _ _ _ _ nofun rfl (by simp[tupOf,envOf,AV.strip,AV.strip1,zi,hd,yS,zjD hl])
 by_cases k2:k=2
 ·subst k2
  simp(disch:=first|omega|assumption) only[ir61,cK,go_sem]
  refine goK_pure (zeL s ht) ?_
  simp(disch:=first|omega|assumption) only[go_sem]
  exact hQ _ _ _ _ nofun rfl (by simp[tupOf,envOf,AV.strip,AV.strip1,zi])
 by_cases k3:k=3
 ·subst k3
  simp(disch:=first|omega|assumption) only[ir61,cK,go_sem]
  refine goK_pure (zb5 s ht) ?_
  simp(disch:=first|omega|assumption) only[go_sem]
  exact hQ _ _ _ _ nofun rfl (by simp[tupOf,envOf,AV.strip,AV.strip1,zi])
 by_cases k4:k=4
 ·subst k4
  simp(disch:=first|omega|assumption) only[ir61,cK,go_sem]
  refine goK_pure (zb5 s ht) ?_
  simp(disch:=first|omega|assumption) only[go_sem]
  exact hQ _ _ _ _ nofun rfl (by simp[tupOf,envOf,AV.strip,AV.strip1,zi])
 by_cases k5:k=5
 ·subst k5
  simp(disch:=first|omega|assumption) only[ir61,cK,go_sem]
  refine goK_pure (zml s ht) ?_
  simp(disch:=first|omega|assumption) only[go_sem]
  exact hQ _ _ _ _ nofun rfl (by simp[tupOf,envOf,AV.strip,AV.strip1,zi])
 ·simp(disch:=first|omega|assumption) only[ir61,cK,k1,k2,k3,k4,k5,go_sem]
  exact hQ _ _ _ _ nofun rfl (by simp[tupOf,envOf,AV.strip,AV.strip1,zi,k1,k2,k3,k4,k5])
theorem zlv:∀ l:List (List UInt8),(Lib.join l [32]).length≤(l.map fun s=>s.length+1).sum
 | []=>by simp[Lib.join_nil]
 | x::r=>by
  rw[Lib.join_length]
  have:∀ l:List (List UInt8),lens l+l.length=(l.map fun s=>s.length+1).sum:=fun l=>by
   induction l with
   | nil=>rfl
   | cons y l ih=>simp only[lens,List.map_cons,List.sum_cons,Al2] at ih ⊢;omega
  have h:=this (x::r)
  simp only[Al2,Al3] at h ⊢
  omega
theorem zkY (l:List Tok) (h:l.all zi=true):(yZ l).length≤6*wT l:=by
 refine Nat.le_trans (zlv _) ?_
 induction l with
 | nil=>simp[wT]
 | cons t l ih =>
  simp only[List.all_cons,Al0] at h
  have h1:=zk2 h.1
  have h2:=ih h.2
  rw[zI]
  simp only[List.map_cons,List.sum_cons,wK] at h2 ⊢
  omega
theorem zmP {l:List Tok} {t:Tok} (h:t∈l):t.s.length+4≤wT l:=by
 induction l with
 | nil=>cases h
 | cons y l ih =>
  rw[zI]
  rcases List.mem_cons.1 h with rfl|h
  ·unfold wK;omega
  ·have:=ih h;omega
theorem znb (l:List Tok):4*l.length≤wT l:=by
 induction l with
 | nil=>simp
 | cons y l ih=>rw[zI];simp only[Al2,wK];omega
theorem zlz (L:List Tok) (hb:8*wT L≤Lim):Pure Tryz.prog 25 [.sl .no 2 (cKs L)] (.tup [.str (ZV L).1,.bool (ZV L).2]):=by
 refine Pure.go ir25 ck25 (Al4 _) fun KP Q hQ=>?_
 have hkl:=zQ L
 have hwl:=znb L
 simp only[Lim] at hb
 simp(disch:=first|omega|assumption) only[ir25,hkl,go_sem]
 refine goL_range L 9 (fun x:Own×List (List UInt8)=>[(4,.sl x.1 1 (cT x.2))]) (fun done rest x H=>x.2=done.map Z4∧done.all zi=true∧Owned H x.1 x.2.length 1) (.nil,[]) (by simp(disch:=first|omega|assumption) only[cT,go_sem]) ⟨rfl,rfl,Owned.nil _ _⟩ ?_ ?_
 ·rintro⟨o,l⟩ H J ⟨hl,hr,ho⟩ hlt
  simp only at hl hr ho
  subst hl
  have hj:=zkY L hr
  have hcl:=yq (L.map Z4)
  simp(disch:=first|omega|assumption) only[hkl,hlt,go_sem]
  refine goK_pure (Pure.low (Yu (L.map Z4) [32] (by show (yZ L).length≤_;omega) (by simp;omega))) ?_
  simp(disch:=first|omega|assumption) only[go_sem]
  exact hQ _ _ _ _ nofun rfl (by simp[tupOf,envOf,AV.strip,AV.strip1,ZV,hr,yZ])
 ·rintro done x rest ⟨o,l⟩ H J hd hlt hlt2 ⟨hl,hr,ho⟩ hJ
  simp only at hl hr ho
  have hg:=zlK hd
  have hmem:x∈L:=by rw[hd];simp
  have hx:=zmP hmem
  have hlen:l.length=done.length:=by rw[hl];simp
  have hcl:=yq l
  simp(disch:=first|omega|assumption) only[hkl,hlt,hg,go_sem]
  refine goA_intro fun b hb=>?_
  simp(disch:=first|omega|assumption) only[go_sem]
  refine goK_pure (zlV x (by simp only[Lim];omega)) ?_
  cases hrx:zi x with
  | false =>
   have e:L.all zi=false:=by rw[hd];simp[hrx]
   simp(disch:=first|omega|assumption) only[go_sem]
   exact hQ _ _ _ _ nofun rfl (by simp[tupOf,envOf,AV.strip,AV.strip1,ZV,e])
  | true =>
   by_cases k5:x.k=5
   ·have hv:validD x.s=true:=by unfold zi at hrx;rw[k5] at hrx;simpa using hrx
    simp(disch:=first|omega|assumption) only[k5,go_sem]
    refine goK_pure (zlJ x.s hv (by simp only[Lim];omega)) ?_
    simp(disch:=first|omega|assumption) only[go_sem]
    refine goP_ownS (by rw[hcl];exact ho.upd hb) (by simp only[hcl,Al2,Al3];omega) (by simp only[hcl,Al2,Al3,maxLen];omega) fun o3 H3 hs3=>?_
    have et:Z4 x=zfk x.s:=by unfold Z4;rw[if_pos k5]
    simp(disch:=first|omega|assumption) only[wrap64,go_sem]
    exact goJ (hJ (o3,l++[zfk x.s]) H3 ⟨by rw[hl];simp[et],by simp[hr,hrx],by simpa[hcl] using hs3.own⟩) (by simp(disch:=first|omega|assumption) only[cT,List.map_append,go_sem])
   ·have et:Z4 x=x.s:=by unfold Z4;rw[if_neg k5]
    simp(disch:=first|omega|assumption) only[k5,go_sem]
    refine goP_ownS (by rw[hcl];exact ho.upd hb) (by simp only[hcl,Al2,Al3];omega) (by simp only[hcl,Al2,Al3,maxLen];omega) fun o3 H3 hs3=>?_
    simp(disch:=first|omega|assumption) only[wrap64,go_sem]
    exact goJ (hJ (o3,l++[x.s]) H3 ⟨by rw[hl];simp[et],by simp[hr,hrx],by simpa[hcl] using hs3.own⟩) (by simp(disch:=first|omega|assumption) only[cT,List.map_append,go_sem])
end Go.Proofs.YtaielcdfcgpbiaaGreatDoor
namespace Go.Proofs.YtaielcdfcgpbiaaGreatDoor
open Go.Ab
structure WAt (H:Heap) (w:Nat) (o:Own) (l:List Tok) (ok:Bool) (dp:Int):Prop where
 cell:H w=some (.cells [.sl o 2 (cKs l),.bool ok,.int .i64 dp])
 own:Owned H o l.length 2
structure WStep (H:Heap) (o:Own) (w:Nat) (H':Heap) (o':Own):Prop where
 keep:∀ c x,c≠w→(∀ d,o≠.tip c d)→H c=some x→H' c=some x
 new:∀ b d,o'=.tip b d→H b=none∨∃ d0,o=.tip b d0
theorem WStep.refl (H:Heap) (o:Own) (w:Nat):WStep H o w H o:=⟨fun _ _ _ _ h=>h,fun b d e=>.inr ⟨d,e⟩⟩
theorem WStep.trans {H H1 H2:Heap} {o o1 o2:Own} {w:Nat} {x:AObj} (h:WStep H o w H1 o1) (hw:H1 w=some x) (h':WStep H1 o1 w H2 o2):WStep H o w H2 o2:=by
 refine⟨fun c y hc hn hy=>h'.keep c y hc (fun d e=>?_) (h.keep c y hc hn hy),fun b d e=>?_⟩
 ·rcases h.new c d e with h1|⟨d0,h1⟩
  ·rw[hy] at h1;cases h1
  ·exact hn d0 h1
 ·rcases h'.new b d e with h1|⟨d0,h1⟩
  ·cases hb:H b with
   | none=>exact .inl rfl
   | some y =>
    by_cases e2:∃ d,o=.tip b d
    ·exact .inr e2
    ·have hbw:b≠w:=fun e3=>by subst e3;rw[hw] at h1;cases h1
     have:=h.keep b y hbw (fun d e3=>e2 ⟨d,e3⟩) hb
     rw[h1] at this;cases this
  ·exact h.new b d0 h1
theorem WStep.box {H H':Heap} {o o':Own} {w b n:Nat} {cs:List AV} (h:WStep H o w H' o') (ho:Owned H o n 2) (hb:H b=some (.cells cs)) (hw:b≠w):H' b=some (.cells cs) :=
 h.keep b _ hw (fun d e=>by subst e;exact own_ne ho hb rfl) hb
theorem WStep.upd {H H':Heap} {o o':Own} {w:Nat} {x:AObj} (h:WStep H o w H' o'):WStep H o w (H'.upd w x) o' :=
 ⟨fun c y hc hn hy=>by rw[upd_ne hc];exact h.keep c y hc hn hy,h.new⟩
theorem WStep.alloc {H H':Heap} {o o':Own} {w b:Nat} {x:AObj} (h:WStep H o w H' o') (hb:H' b=none):WStep H o w (H'.upd b x) o' :=
 ⟨fun c y hc hn hy=>by have:=h.keep c y hc hn hy;rw[upd_ne (fun e=>by subst e;rw[hb] at this;cases this)];exact this,h.new⟩
theorem WAt.alloc {H:Heap} {w b:Nat} {o:Own} {l:List Tok} {ok:Bool} {dp:Int} {x:AObj} (h:WAt H w o l ok dp) (hb:H b=none):WAt (H.upd b x) w o l ok dp :=
 ⟨by rw[upd_ne (fun e=>by subst e;rw[h.cell] at hb;cases hb)];exact h.cell,h.own.upd hb⟩
theorem WAt.put {H:Heap} {w:Nat} {o:Own} {l:List Tok} {ok ok':Bool} {dp dp':Int} (h:WAt H w o l ok dp):WAt (H.upd w (.cells [.sl o 2 (cKs l),.bool ok',.int .i64 dp'])) w o l ok' dp' :=
 ⟨upd_same ..,yP h.own h.cell⟩
theorem WAt.app {H H1:Heap} {w:Nat} {o o1:Own} {l ts:List Tok} {ok:Bool} {dp:Int} {n:Nat} (h:WAt H w o l ok dp) (hs:OwnS H o H1 o1 n 2) (hn:n=(l++ts).length) :
  H1 w=some (.cells [.sl o 2 (cKs l),.bool ok,.int .i64 dp])∧WAt (H1.upd w (.cells [.sl o1 2 (cKs (l++ts)),.bool ok,.int .i64 dp])) w o1 (l++ts) ok dp∧WStep H o w (H1.upd w (.cells [.sl o1 2 (cKs (l++ts)),.bool ok,.int .i64 dp])) o1:=by
 subst hn
 have hc:=zS h.own h.cell hs.kept
 exact⟨hc,⟨upd_same ..,yP hs.own hc⟩,fun c y hcw hn hy=>by rw[upd_ne hcw];exact hs.kept c y hy hn,hs.new⟩
abbrev zj6 (R:AV→Heap→Prop):AEnd→Heap→Prop:=fun e H'=>∃ v,e=.ret v∧R v H'
def WC (f:FuncId) (args:List AV) (B:Nat) (lo hi:Int) (r:Int→Bool) (tk:List Tok):Prop :=
 ∀(H:Heap) (w:Nat) (o:Own) (l:List Tok) (ok:Bool) (dp:Int),WAt H w o l ok dp→lo≤dp→dp≤hi→l.length+B≤Lim →
  ACalls Tryz.prog f (.ptr w 0::args) H (zj6 fun v H'=>v=.tup []∧∃ o' l',WAt H' w o' l' (ok&&r dp) dp∧WStep H o w H' o'∧l'.length≤l.length+B∧((ok&&r dp)=true→l'=l++tk))
structure WR (H0:Heap) (o0:Own) (w:Nat) (l0:List Tok) (ok0:Bool) (dp:Int) (B:Nat) (r:Bool) (tk:List Tok) (H:Heap) (o:Own) (l:List Tok):Prop where
 here:WAt H w o l (ok0&&r) dp
 st:WStep H0 o0 w H o
 len:l.length≤l0.length+B
 eq:(ok0&&r)=true→l=l0++tk
theorem WR.refl {H:Heap} {o:Own} {w:Nat} {l:List Tok} {ok:Bool} {dp:Int} (h:WAt H w o l ok dp):WR H o w l ok dp 0 true [] H o l :=
 ⟨by rw[Bool.and_true];exact h,.refl _ _ _,Al4 _,fun _=>by simp⟩
theorem WR.alloc {H0 H:Heap} {o0 o:Own} {w b B:Nat} {l0 l tk:List Tok} {ok0 r:Bool} {dp:Int} {x:AObj} (h:WR H0 o0 w l0 ok0 dp B r tk H o l) (hb:H b=none):WR H0 o0 w l0 ok0 dp B r tk (H.upd b x) o l :=
 ⟨h.here.alloc hb,h.st.alloc hb,h.len,h.eq⟩
theorem WR.fin {H0 H:Heap} {o0 o:Own} {w B B':Nat} {l0 l tk tk':List Tok} {ok0 r r':Bool} {dp:Int} (h:WR H0 o0 w l0 ok0 dp B r tk H o l) (hr:r=r') (ht:r'=true→tk=tk') (hB:B≤B') :
  ∃ o' l',WAt H w o' l' (ok0&&r') dp∧WStep H0 o0 w H o'∧l'.length≤l0.length+B'∧((ok0&&r')=true→l'=l0++tk'):=by
 subst hr
 refine⟨o,l,h.here,h.st,by have:=h.len;omega,fun e=>?_⟩
 rw[h.eq e,ht (by simp only[Al0] at e;exact e.2)]
section
variable {KP:AV→Heap→Prop} {Q:AExit→Env→Heap→Prop} {st:List Fr} {ρ:Env} {H:Heap} {all items:List AItem} {d:Option Nat} {R:List Chk}
theorem zaZ {f:FuncId} {args:List AV} {B:Nat} {lo hi:Int} {r:Int→Bool} {tk:List Tok} (hc:WC f args B lo hi r tk) {w:Nat} {o:Own} {l:List Tok} {ok:Bool} {dp:Int} (h:WAt H w o l ok dp) (h0:lo≤dp) (h1:dp≤hi) (hb:l.length+B≤Lim)
  (k:∀ o' l' H',WAt H' w o' l' (ok&&r dp) dp→WStep H o w H' o'→l'.length≤l.length+B→((ok&&r dp)=true→l'=l++tk)→goR Tryz.prog KP Q all items st R (ρ.set d (.tup [])) H') :
  goK Tryz.prog KP Q all items st d R ρ f (.ptr w 0::args) H:=by
 refine goK_ret (hc H w o l ok dp h h0 h1 hb) fun v H' ⟨hv,o',l',h2,h3,h4,h5⟩=>?_
 subst hv
 exact k o' l' H' h2 h3 h4 h5
theorem zh {f:FuncId} {args:List AV} {B':Nat} {lo hi:Int} {r':Int→Bool} {tk':List Tok} (hc:WC f args B' lo hi r' tk') {H0:Heap} {o0 o:Own} {w B:Nat} {l0 l tk:List Tok} {ok0 r:Bool} {dp:Int} (h:WR H0 o0 w l0 ok0 dp B r tk H o l) (h0:lo≤dp) (h1:dp≤hi)
  (hb:l0.length+(B+B')≤Lim) (k:∀ o' l' H',WR H0 o0 w l0 ok0 dp (B+B') (r&&r' dp) (tk++tk') H' o' l'→WStep H o w H' o'→goR Tryz.prog KP Q all items st R (ρ.set d (.tup [])) H') :
  goK Tryz.prog KP Q all items st d R ρ f (.ptr w 0::args) H:=by
 have hlen:=h.len
 refine zaZ hc h.here h0 h1 (by omega) fun o' l' H' h2 h3 h4 h5=>k o' l' H' ⟨by rw[← yI];exact h2,h.st.trans h.here.cell h3,by omega,fun e=>?_⟩ h3
 rw[← yI] at e
 rw[h5 e,h.eq (by simp only[Al0] at e ⊢;exact e.1),ZF]
end
theorem zn9:ACalls Tryz.prog 111 [] Heap.emp (zj6 fun v H'=>∃ w,v=.ptr w 0∧WAt H' w .nil [] true 0):=by
 refine ACalls.go ir111 ck111 (Al4 _) fun KP Q hQ=>?_
 simp(disch:=first|omega|assumption) only[ir111,go_sem]
 refine goA_intro fun b hb=>?_
 simp(disch:=first|omega|assumption) only[go_sem]
 exact hQ _ _ _ _ [_] nofun rfl (Low.refl _) ⟨b,rfl,upd_same ..,rfl⟩
theorem yo (b:Bool):WC 165 [.bool b] 0 (-1000) 1000 (fun _=>b) []:=by
 intro H w o l ok dp h h0 h1 hb
 refine ACalls.go ir165 ck165 (Al4 _) fun KP Q hQ=>?_
 have hc:=h.cell
 cases ok
 ·simp(disch:=first|omega|assumption) only[ir165,hc,go_sem]
  exact hQ _ _ _ _ [] nofun rfl (Low.refl _) ⟨rfl,o,l,h.put,(WStep.refl ..).upd,by simp,fun _=>by simp⟩
 ·simp(disch:=first|omega|assumption) only[ir165,hc,go_sem]
  exact hQ _ _ _ _ [] nofun rfl (Low.refl _) ⟨rfl,o,l,by rw[Bool.true_and];exact h.put,(WStep.refl ..).upd,by simp,fun _=>by simp⟩
theorem zq (s:List UInt8) (hs:s.length≤Lim):WC 112 [.str s] 1 (-1000) 1000 (fun _=>zm s) [wk s]:=by
 intro H w o l ok dp h h0 h1 hb
 refine ACalls.go ir112 ck112 (Al4 _) fun KP Q hQ=>?_
 have hkl:=zQ l
 simp only[Lim] at hb
 simp(disch:=first|omega|assumption) only[ir112,go_sem]
 refine goK_pure (zeL s hs) ?_
 simp(disch:=first|omega|assumption) only[go_sem]
 refine zaZ (yo _) h h0 h1 (by simp only[Lim];omega) fun o1 l1 H1 h2 h3 h4 h5=>?_
 have hkl1:=zQ l1
 have hc:=h2.cell
 simp(disch:=first|omega|assumption) only[hc,go_sem]
 refine goP_ownS (by rw[hkl1];exact h2.own) (by simp only[hkl1,Al2,Al3];omega) (by simp only[hkl1,Al2,Al3,maxLen];omega) fun o2 H2 hs2=>?_
 obtain⟨g1,g2,g3⟩:=h2.app (ts:=[wk s]) hs2 (by simp[hkl1])
 have ek:cKs l1++[[AV.int .i64 2,AV.str s]]=cKs (l1++[wk s]):=YO l1 (wk s)
 simp(disch:=first|omega|assumption) only[g1,ek,go_sem]
 exact hQ _ _ _ _ [] nofun rfl (Low.refl _) ⟨rfl,o2,l1++[wk s],g2,h3.trans h2.cell g3,by simp;omega,fun e=>by rw[h5 e];simp⟩
theorem zz (m:List UInt8) (o9:Own):WC 113 [.sl o9 1 [[.str m]]] 1 (-1000) 1000 (fun _=>true) [pk m]:=by
 intro H w o l ok dp h h0 h1 hb
 refine ACalls.go ir113 ck113 (Al4 _) fun KP Q hQ=>?_
 simp only[Lim] at hb
 simp(disch:=first|omega|assumption) only[ir113,go_sem]
 refine goL_range [m] 8 (fun x:Own×List Tok=>[]) (fun done rest x H'=>WAt H' w x.1 x.2 ok dp∧WStep H o w H' x.1∧x.2=l++done.map pk) (o,l) (by simp(disch:=first|omega|assumption) only[go_sem]) ⟨h,.refl _ _ _,by simp⟩ ?_ ?_
 ·rintro⟨o1,l1⟩ H1 J ⟨h2,h3,h4⟩ hlt
  simp only at h2 h3 h4
  simp(disch:=first|omega|assumption) only[go_sem]
  refine hQ _ _ H1 H1 [] nofun rfl (Low.refl _) ⟨rfl,o1,l1,by simpa using h2,h3,by rw[h4];simp,fun _=>by rw[h4];simp⟩
 ·rintro done x rest ⟨o1,l1⟩ H1 J hd hlt hlt2 ⟨h2,h3,h4⟩ hJ
  simp only at h2 h3 h4
  have hl1:l1.length≤l.length+1:=by rw[h4];simp only[Al5,List.length_map];have:=congrArg List.length hd;simp at this;omega
  have hg:([[AV.str m]]:List (List AV)).getD done.length []=[.str x]:=by
   have:([m].map fun k=>[AV.str k]).getD done.length []=[.str x]:=getD_mid' hd
   exact this
  have hkl1:=zQ l1
  have hc:=h2.cell
  have hlt1:((done.length:Int)<1)=True:=eq_true (by simpa using hlt)
  have hdl:done.length<1:=by simpa using hlt2
  simp(disch:=first|omega|assumption) only[hlt1,hg,hc,go_sem]
  refine goP_ownS (by rw[hkl1];exact h2.own) (by simp only[hkl1,Al2,Al3];omega) (by simp only[hkl1,Al2,Al3,maxLen];omega) fun o2 H2 hs2=>?_
  obtain⟨g1,g2,g3⟩:=h2.app (ts:=[pk x]) hs2 (by simp[hkl1])
  have ek:cKs l1++[[AV.int .i64 1,AV.str x]]=cKs (l1++[pk x]):=YO l1 (pk x)
  simp(disch:=first|omega|assumption) only[g1,ek,wrap64,go_sem]
  exact goJ (hJ (o2,l1++[pk x]) _ ⟨g2,h3.trans h2.cell g3,by rw[h4];simp⟩) (by simp(disch:=first|omega|assumption) only[go_sem])
theorem ze6 (v:Val):zaC v=if ZQ v then zM v else []:=by unfold zaC;rfl
theorem zii (v:Val) (hw:wfV v) (hv:4*bV v≤Lim) (fixed:Bool):WC 245 [.agg (cV v),.bool fixed] (4*bV v) 0 32 (fun dp=>zF dp fixed v) (zM v):=by
 intro H w o l ok dp h h0 h1 hb
 have hvb:bV v≤Lim:=by simp only[Lim] at hv ⊢;omega
 have htl:(zaC v).length≤4*bV v:=by
  have:=zbQ v
  rw[ze6];split
  ·omega
  ·simp
 have hkt:=zQ (zaC v)
 have hdv:=zcO v
 have hvl:=zb6 v []
 have hcv:=yq (zO v [])
 simp only[Lim] at hb hv
 refine ACalls.go ir245 ck245 (Al4 _) fun KP Q hQ=>?_
 have hc:=h.cell
 have fin:∀(b:Bool),b=zF dp fixed v→∀(H2:Heap) (o2:Own) (l2:List Tok),WAt H2 w o2 l2 (ok&&b) dp→WStep H o w H2 o2→l2.length≤l.length+0→((ok&&b)=true→l2=l++[]) →
   ∀(H3:Heap) (o3:Own),OwnS H2 o2 H3 o3 ((cKs l2).length+(cKs (zaC v)).length) 2 →
   H3 w=some (.cells [.sl o2 2 (cKs l2),.bool (ok&&b),.int .i64 dp])∧∃ o' l',WAt (H3.upd w (.cells [.sl o3 2 (cKs l2++cKs (zaC v)),.bool (ok&&b),.int .i64 dp])) w o' l' (ok&&zF dp fixed v) dp ∧
    WStep H o w (H3.upd w (.cells [.sl o3 2 (cKs l2++cKs (zaC v)),.bool (ok&&b),.int .i64 dp])) o'∧l'.length≤l.length+4*bV v∧((ok&&zF dp fixed v)=true→l'=l++zM v):=by
  intro b hbr H2 o2 l2 h2 h3 h4 h5 H3 o3 hs
  obtain⟨g1,g2,g3⟩:=h2.app (ts:=zaC v) hs (by simp[zQ])
  rw[zhQ] at g2 g3
  refine⟨g1,o3,l2++zaC v,by rw[← hbr];exact g2,h3.trans h2.cell g3,by simp only[Al5];omega,fun e=>?_⟩
  rw[← hbr] at e
  have er:zF dp fixed v=true:=by rw[← hbr];simp only[Al0] at e;exact e.2
  have ep:ZQ v=true:=by simp only[zF,Al0] at er;exact er.1
  rw[h5 e,ze6,ep];simp
 have d1:IntKind.wrap .i64 (dp+zG v)=dp+zG v:=wrap64 (by omega) (by omega)
 cases hp:ZQ v with
 | false =>
  have hbr:false=zF dp fixed v:=by simp[zF,hp]
  simp(disch:=first|omega|assumption) only[zf,zd,za,zg,zc,zb,zj,ir245,go_sem]
  refine goK_pure (zcX v hw hv) ?_
  simp(disch:=first|omega|assumption) only[hp,go_sem]
  refine zaZ (yo _) h (by omega) (by omega) (by simp only[Lim];omega) fun o2 l2 H2 h2 h3 h4 h5=>?_
  have hk2:=zQ l2
  have hc2:=h2.cell
  simp(disch:=first|omega|assumption) only[hc2,go_sem]
  refine goP_ownS (by rw[hk2];exact h2.own) (by rw[hk2,hkt];omega) (by rw[hk2,hkt];simp only[maxLen];omega) fun o3 H3 hs3=>?_
  obtain⟨g1,g2⟩:=fin _ hbr H2 o2 l2 h2 h3 h4 h5 H3 o3 hs3
  simp(disch:=first|omega|assumption) only[g1,Yn,go_sem]
  exact hQ _ _ _ _ [] nofun rfl (Low.refl _) ⟨rfl,g2⟩
 | true =>
  by_cases hd:dp+zG v≤16
  case neg =>
   have hbr:false=zF dp fixed v:=by simp[zF,hd]
   simp(disch:=first|omega|assumption) only[zf,zd,za,zg,zc,zb,zj,ir245,go_sem]
   refine goK_pure (zcX v hw hv) ?_
   simp(disch:=first|omega|assumption) only[zf,zd,za,zg,zc,zb,zj,hp,hc,go_sem]
   refine goK_pure (zfV v hvb) ?_
   simp(disch:=first|omega|assumption) only[zf,zd,za,zg,zc,zb,zj,d1,hd,hc,go_sem]
   refine zaZ (yo _) h (by omega) (by omega) (by simp only[Lim];omega) fun o2 l2 H2 h2 h3 h4 h5=>?_
   have hk2:=zQ l2
   have hc2:=h2.cell
   simp(disch:=first|omega|assumption) only[hc2,go_sem]
   refine goP_ownS (by rw[hk2];exact h2.own) (by rw[hk2,hkt];omega) (by rw[hk2,hkt];simp only[maxLen];omega) fun o3 H3 hs3=>?_
   obtain⟨g1,g2⟩:=fin _ hbr H2 o2 l2 h2 h3 h4 h5 H3 o3 hs3
   simp(disch:=first|omega|assumption) only[g1,Yn,go_sem]
   exact hQ _ _ _ _ [] nofun rfl (Low.refl _) ⟨rfl,g2⟩
  cases fixed with
  | false =>
   have hbr:true=zF dp false v:=by simp[zF,hd,hp]
   simp(disch:=first|omega|assumption) only[zf,zd,za,zg,zc,zb,zj,ir245,go_sem]
   refine goK_pure (zcX v hw hv) ?_
   simp(disch:=first|omega|assumption) only[zf,zd,za,zg,zc,zb,zj,hp,hc,go_sem]
   refine goK_pure (zfV v hvb) ?_
   simp(disch:=first|omega|assumption) only[zf,zd,za,zg,zc,zb,zj,d1,hd,hc,go_sem]
   refine zaZ (yo _) h (by omega) (by omega) (by simp only[Lim];omega) fun o2 l2 H2 h2 h3 h4 h5=>?_
   have hk2:=zQ l2
   have hc2:=h2.cell
   simp(disch:=first|omega|assumption) only[hc2,go_sem]
   refine goP_ownS (by rw[hk2];exact h2.own) (by rw[hk2,hkt];omega) (by rw[hk2,hkt];simp only[maxLen];omega) fun o3 H3 hs3=>?_
   obtain⟨g1,g2⟩:=fin _ hbr H2 o2 l2 h2 h3 h4 h5 H3 o3 hs3
   simp(disch:=first|omega|assumption) only[g1,Yn,go_sem]
   exact hQ _ _ _ _ [] nofun rfl (Low.refl _) ⟨rfl,g2⟩
  | true =>
   simp(disch:=first|omega|assumption) only[zf,zd,za,zg,zc,zb,zj,ir245,go_sem]
   refine goK_pure (zcX v hw hv) ?_
   simp(disch:=first|omega|assumption) only[zf,zd,za,zg,zc,zb,zj,hp,hc,go_sem]
   refine goK_pure (zfV v hvb) ?_
   simp(disch:=first|omega|assumption) only[zf,zd,za,zg,zc,zb,zj,d1,hd,hc,go_sem]
   refine goK_pure (zm5 v hvb) ?_
   by_cases hz:(zO v []).length=0
   ·have hbr:true=zF dp true v:=by simp[zF,hd,hp,hz]
    have hz':¬ ((0:Int)<(zO v []).length):=by omega
    simp(disch:=first|omega|assumption) only[zf,zd,za,zg,zc,zb,zj,hcv,hz',go_sem]
    refine zaZ (yo _) h (by omega) (by omega) (by simp only[Lim];omega) fun o2 l2 H2 h2 h3 h4 h5=>?_
    have hk2:=zQ l2
    have hc2:=h2.cell
    simp(disch:=first|omega|assumption) only[hc2,go_sem]
    refine goP_ownS (by rw[hk2];exact h2.own) (by rw[hk2,hkt];omega) (by rw[hk2,hkt];simp only[maxLen];omega) fun o3 H3 hs3=>?_
    obtain⟨g1,g2⟩:=fin _ hbr H2 o2 l2 h2 h3 h4 h5 H3 o3 hs3
    simp(disch:=first|omega|assumption) only[g1,Yn,go_sem]
    exact hQ _ _ _ _ [] nofun rfl (Low.refl _) ⟨rfl,g2⟩
   ·have hbr:false=zF dp true v:=by simp[zF,hd,hp,hz]
    have hz':((0:Int)<(zO v []).length)=True:=eq_true (by omega)
    simp(disch:=first|omega|assumption) only[zf,zd,za,zg,zc,zb,zj,hcv,hz',go_sem]
    refine zaZ (yo _) h (by omega) (by omega) (by simp only[Lim];omega) fun o2 l2 H2 h2 h3 h4 h5=>?_
    have hk2:=zQ l2
    have hc2:=h2.cell
    simp(disch:=first|omega|assumption) only[hc2,go_sem]
    refine goP_ownS (by rw[hk2];exact h2.own) (by rw[hk2,hkt];omega) (by rw[hk2,hkt];simp only[maxLen];omega) fun o3 H3 hs3=>?_
    obtain⟨g1,g2⟩:=fin _ hbr H2 o2 l2 h2 h3 h4 h5 H3 o3 hs3
    simp(disch:=first|omega|assumption) only[g1,Yn,go_sem]
    exact hQ _ _ _ _ [] nofun rfl (Low.refl _) ⟨rfl,g2⟩
theorem zmi (m:Int) (k:Nat) (hk:k≤64):m.fdiv (2 ^ min k IntKind.i64.bits)=m / 2 ^ k:=by
 have e:min k IntKind.i64.bits=k:=by show min k 64=k;omega
 have hp:(0:Int)≤2 ^ k:=by exact_mod_cast Nat.zero_le _
 rw[e,Int.fdiv_eq_ediv_of_nonneg _ hp]
theorem zlf (t:TyD) (hs:t.nm.length≤Lim):Pure Tryz.prog 243 [.agg (cTy t)] (.bool (zN t)):=by
 refine Pure.go ir243 ck243 (Al4 _) fun KP Q hQ=>?_
 obtain⟨nm,ls,ms⟩:=t
 simp only at hs
 simp(disch:=first|omega|assumption) only[ir243,cTy,steps,st2,pev,rev,oev,optr,ibin,sbin,ishf,bound,mmAll,mm2,mk,mkArgs,AV.cells,AV.boxable,AV.one,AV.strip1,fillA,fillS,Nat.reduceEqDiff,reduceCtorEq,↓reduceIte,Nat.reduceAdd,Int.reduceNeg,Nat.reduceLeDiff,Int.reduceToNat,Int.reduceEq,Int.reduceLT,Int.reduceLE,Int.reduceAdd,Io,Im,If,Il,Jt,Jf,AC.rg,Jm,Jl,Ja,Fm,Fl,Fa,Imv,Imb,Iai,Iei,Igi,Isi,Ipf,Ipt,Ilb,Iia,Ilt,Iap,Ink,Iln,Ils,Iad,Iex,Ibx,Ing]
 refine goK_pure (zeL nm hs) ?_
 cases h1:zm nm with
 | false =>
  simp(disch:=first|omega|assumption) only[steps,st2,pev,rev,oev,optr,ibin,sbin,ishf,bound,mmAll,mm2,mk,mkArgs,AV.cells,AV.boxable,AV.one,AV.strip1,fillA,fillS,Nat.reduceEqDiff,reduceCtorEq,↓reduceIte,Nat.reduceAdd,Int.reduceNeg,Nat.reduceLeDiff,Int.reduceToNat,Int.reduceEq,Int.reduceLT,Int.reduceLE,Int.reduceAdd]
  exact hQ _ _ _ _ nofun rfl (by simp[tupOf,envOf,AV.strip,AV.strip1,zN,h1])
 | true =>
  by_cases h2:0≤ls
  case neg =>
   simp(disch:=first|omega|assumption) only[h2,steps,st2,pev,rev,oev,optr,ibin,sbin,ishf,bound,mmAll,mm2,mk,mkArgs,AV.cells,AV.boxable,AV.one,AV.strip1,fillA,fillS,Nat.reduceEqDiff,reduceCtorEq,↓reduceIte,Nat.reduceAdd,Int.reduceNeg,Nat.reduceLeDiff,Int.reduceToNat,Int.reduceEq,Int.reduceLT,Int.reduceLE,Int.reduceAdd]
   exact hQ _ _ _ _ nofun rfl (by simp[tupOf,envOf,AV.strip,AV.strip1,zN,h1,h2])
  by_cases h3:ls≤4
  case neg =>
   simp(disch:=first|omega|assumption) only[h2,h3,steps,st2,pev,rev,oev,optr,ibin,sbin,ishf,bound,mmAll,mm2,mk,mkArgs,AV.cells,AV.boxable,AV.one,AV.strip1,fillA,fillS,Nat.reduceEqDiff,reduceCtorEq,↓reduceIte,Nat.reduceAdd,Int.reduceNeg,Nat.reduceLeDiff,Int.reduceToNat,Int.reduceEq,Int.reduceLT,Int.reduceLE,Int.reduceAdd]
   exact hQ _ _ _ _ nofun rfl (by simp[tupOf,envOf,AV.strip,AV.strip1,zN,h1,h2,h3])
  by_cases h4:0≤ms
  case neg =>
   simp(disch:=first|omega|assumption) only[h2,h3,h4,steps,st2,pev,rev,oev,optr,ibin,sbin,ishf,bound,mmAll,mm2,mk,mkArgs,AV.cells,AV.boxable,AV.one,AV.strip1,fillA,fillS,Nat.reduceEqDiff,reduceCtorEq,↓reduceIte,Nat.reduceAdd,Int.reduceNeg,Nat.reduceLeDiff,Int.reduceToNat,Int.reduceEq,Int.reduceLT,Int.reduceLE,Int.reduceAdd]
   exact hQ _ _ _ _ nofun rfl (by simp[tupOf,envOf,AV.strip,AV.strip1,zN,h1,h2,h3,h4])
  have w1:IntKind.wrap .i64 (ls+1)=ls+1:=wrap64 (by omega) (by omega)
  have w2:¬ (ls+1<0):=by omega
  have e1:(ls+1).toNat=ls.toNat+1:=by omega
  have e2:=zmi ms (ls.toNat+1) (by omega)
  have hpow:(0:Int)<2 ^ (ls.toNat+1):=by exact_mod_cast Nat.pos_of_ne_zero (by simp)
  have e3:(ms / 2 ^ (ls.toNat+1)=0)=(ms<2 ^ (ls.toNat+1)):=propext ⟨fun h=>by
   by_cases hlt:ms<2 ^ (ls.toNat+1)
   ·exact hlt
   ·have:=(Int.le_ediv_iff_mul_le hpow).2 (show 1*2 ^ (ls.toNat+1)≤ms by omega)
    omega,fun h=>Int.ediv_eq_zero_of_lt h4 h⟩
  simp(disch:=first|omega|assumption) only[h2,h3,h4,w1,w2,e1,e2,e3,steps,st2,pev,rev,oev,optr,ibin,sbin,ishf,bound,mmAll,mm2,mk,mkArgs,AV.cells,AV.boxable,AV.one,AV.strip1,fillA,fillS,Nat.reduceEqDiff,reduceCtorEq,↓reduceIte,Nat.reduceAdd,Int.reduceNeg,Nat.reduceLeDiff,Int.reduceToNat,Int.reduceEq,Int.reduceLT,Int.reduceLE,Int.reduceAdd]
  exact hQ _ _ _ _ nofun rfl (by simp[tupOf,envOf,AV.strip,AV.strip1,zN,h1,h2,h3,h4])
theorem WR.cast {H0 H:Heap} {o0 o:Own} {w B B':Nat} {l0 l tk tk':List Tok} {ok0 r r':Bool} {dp:Int} (h:WR H0 o0 w l0 ok0 dp B r tk H o l) (hB:B≤B') (hr:r=r') (ht:tk=tk'):WR H0 o0 w l0 ok0 dp B' r' tk' H o l:=by
 subst hr;subst ht
 exact⟨h.here,h.st,by have:=h.len;omega,h.eq⟩
theorem WR.after {H0 H1 H:Heap} {o0 o1 o:Own} {w B:Nat} {l0 l tk:List Tok} {ok0 r:Bool} {dp:Int} (h:WR H1 o1 w l0 ok0 dp B r tk H o l) (hs:WStep H0 o0 w H1 o1) {x:AObj} (hw:H1 w=some x):WR H0 o0 w l0 ok0 dp B r tk H o l :=
 ⟨h.here,hs.trans hw h.st,h.len,h.eq⟩
def zaj (n:Nat) (m:Int):Nat→List Tok
 | 0=>[]
 | j+1=>zaS n m j++zaj n m j
theorem zcI (n:Nat) (m:Int):∀ j,zan n m j=zaj n m (j+1)
 | 0=>by simp[zan,zaj]
 | j+1=>by rw[zan,zcI n m j];rfl
theorem and1 {x:Int} (h0:0≤x) (h1:x<64):IntKind.wrap .i64 ((BitVec.ofInt IntKind.i64.bits x &&& BitVec.ofInt IntKind.i64.bits 1).toNat:Int)=x % 2:=by
 have:∀ y:Fin 64,IntKind.wrap .i64 ((BitVec.ofInt IntKind.i64.bits (y.val:Int) &&& BitVec.ofInt IntKind.i64.bits 1).toNat:Int)=(y.val:Int) % 2:=by decide +kernel
 have:=this ⟨x.toNat,by omega⟩
 simp only[Int.toNat_of_nonneg h0] at this
 exact this
theorem zhV (t:TyD) (hs:t.nm.length≤Lim):WC 210 [.agg (cTy t)] 20 (-1000) 1000 (fun _=>zN t) (tTy t):=by
 intro H w o l ok dp h h0 h1 hb
 have hb0:=hb
 simp only[Lim] at hb
 refine ACalls.go ir210 ck210 (Al4 _) fun KP Q hQ=>?_
 obtain⟨nm,ls,ms⟩:=t
 simp only at hs
 have et:cTy ⟨nm,ls,ms⟩=[.str nm,.int .i64 ls,.int .i64 ms]:=rfl
 simp(disch:=first|omega|assumption) only[ir210,et,steps,st2,pev,rev,oev,optr,ibin,sbin,ishf,bound,mmAll,mm2,mk,mkArgs,AV.cells,AV.boxable,AV.one,AV.strip1,fillA,fillS,Nat.reduceEqDiff,reduceCtorEq,↓reduceIte,Nat.reduceAdd,Int.reduceNeg,Nat.reduceLeDiff,Int.reduceToNat,Int.reduceEq,Int.reduceLT,Int.reduceLE,Int.reduceAdd,Io,Im,If,Il,Jt,Jf,AC.rg,Jm,Jl,Ja,Fm,Fl,Fa,Imv,Imb,Iai,Iei,Igi,Isi,Ipf,Ipt,Ilb,Iia,Ilt,Iap,Ink,Iln,Ils,Iad,Iex,Ibx,Ing]
 refine goK_pure (show Pure Tryz.prog 243 [.agg [.str nm,.int .i64 ls,.int .i64 ms]] (.bool (zN ⟨nm,ls,ms⟩)) from zlf ⟨nm,ls,ms⟩ hs) ?_
 simp(disch:=first|omega|assumption) only[steps,st2,pev,rev,oev,optr,ibin,sbin,ishf,bound,mmAll,mm2,mk,mkArgs,AV.cells,AV.boxable,AV.one,AV.strip1,fillA,fillS,Nat.reduceEqDiff,reduceCtorEq,↓reduceIte,Nat.reduceAdd,Int.reduceNeg,Nat.reduceLeDiff,Int.reduceToNat,Int.reduceEq,Int.reduceLT,Int.reduceLE,Int.reduceAdd]
 refine zaZ (yo _) h (by omega) (by omega) (by simp only[Lim];omega) fun o2 l2 H2 h2 h3 h4 h5=>?_
 have hc2:=h2.cell
 cases hok:ok&&zN ⟨nm,ls,ms⟩ with
 | false =>
  rw[hok] at h2 hc2
  simp(disch:=first|omega|assumption) only[hc2,steps,st2,pev,rev,oev,optr,ibin,sbin,ishf,bound,mmAll,mm2,mk,mkArgs,AV.cells,AV.boxable,AV.one,AV.strip1,fillA,fillS,Nat.reduceEqDiff,reduceCtorEq,↓reduceIte,Nat.reduceAdd,Int.reduceNeg,Nat.reduceLeDiff,Int.reduceToNat,Int.reduceEq,Int.reduceLT,Int.reduceLE,Int.reduceAdd]
  exact hQ _ _ H2 H2 [] nofun rfl (Low.refl _) ⟨rfl,o2,l2,by rw[hok];exact h2,h3,by omega,fun e=>by rw[hok] at e;cases e⟩
 | true =>
  rw[hok] at h2 hc2 h5
  have e2:l2=l:=by have:=h5 rfl;simpa using this
  subst e2
  have hrt:zN ⟨nm,ls,ms⟩=true:=by simp only[Al0] at hok;exact hok.2
  have hok1:ok=true:=by simp only[Al0] at hok;exact hok.1
  simp only[zN,Al0,zn] at hrt
  obtain⟨hnm,r1,r2,r3,r4⟩:=hrt
  obtain⟨n,rfl⟩:∃ n:Nat,ls=(n:Int):=⟨ls.toNat,by omega⟩
  have en:(n:Int).toNat=n:=by omega
  rw[en] at r4
  have hn4:n≤4:=by omega
  have hms:ms<64:=by
   have:(2:Int) ^ (n+1)≤2 ^ 5:=by exact_mod_cast Nat.pow_le_pow_right (by decide) (by omega:n+1≤5)
   omega
  have w0:=WR.refl h2
  simp(disch:=first|omega|assumption) only[hc2,steps,st2,pev,rev,oev,optr,ibin,sbin,ishf,bound,mmAll,mm2,mk,mkArgs,AV.cells,AV.boxable,AV.one,AV.strip1,fillA,fillS,Nat.reduceEqDiff,reduceCtorEq,↓reduceIte,Nat.reduceAdd,Int.reduceNeg,Nat.reduceLeDiff,Int.reduceToNat,Int.reduceEq,Int.reduceLT,Int.reduceLE,Int.reduceAdd]
  refine goL_st (fun x:Nat×Own×List Tok=>[(16,.int .i64 x.1)]) (fun x H'=>x.1≤n∧WR H2 o2 w l2 true dp x.1 true (List.replicate x.1 (pk [91])) H' x.2.1 x.2.2) (fun x=>n-x.1) (0,o2,l2) (by simp(disch:=first|omega|assumption) only[steps,st2,pev,rev,oev,optr,ibin,sbin,ishf,bound,mmAll,mm2,mk,mkArgs,AV.cells,AV.boxable,AV.one,AV.strip1,fillA,fillS,Nat.reduceEqDiff,reduceCtorEq,↓reduceIte,Nat.reduceAdd,Int.reduceNeg,Nat.reduceLeDiff,Int.reduceToNat,Int.reduceEq,Int.reduceLT,Int.reduceLE,Int.reduceAdd]) ⟨by simp,w0⟩ ?_
  rintro⟨i,o3,l3⟩ H3 J ⟨hi,w3⟩ hJ
  simp only at hi w3
  by_cases hlt:i<n
  ·have hlt':((i:Int)<n)=True:=eq_true (by omega)
   simp(disch:=first|omega|assumption) only[hlt',steps,st2,pev,rev,oev,optr,ibin,sbin,ishf,bound,mmAll,mm2,mk,mkArgs,AV.cells,AV.boxable,AV.one,AV.strip1,fillA,fillS,Nat.reduceEqDiff,reduceCtorEq,↓reduceIte,Nat.reduceAdd,Int.reduceNeg,Nat.reduceLeDiff,Int.reduceToNat,Int.reduceEq,Int.reduceLT,Int.reduceLE,Int.reduceAdd]
   refine zh (zz [91] _) w3 (by omega) (by omega) (by simp only[Lim];omega) fun o4 l4 H4 w4 _=>?_
   simp(disch:=first|omega|assumption) only[wrap64,steps,st2,pev,rev,oev,optr,ibin,sbin,ishf,bound,mmAll,mm2,mk,mkArgs,AV.cells,AV.boxable,AV.one,AV.strip1,fillA,fillS,Nat.reduceEqDiff,reduceCtorEq,↓reduceIte,Nat.reduceAdd,Int.reduceNeg,Nat.reduceLeDiff,Int.reduceToNat,Int.reduceEq,Int.reduceLT,Int.reduceLE,Int.reduceAdd]
   exact goJ (hJ (i+1,o4,l4) H4 (by simp only;omega) ⟨by simp only;omega,w4.cast (Al4 _) rfl (by rw[List.replicate_succ'])⟩) (by simp(disch:=first|omega|assumption) only[Int.natCast_add,steps,st2,pev,rev,oev,optr,ibin,sbin,ishf,bound,mmAll,mm2,mk,mkArgs,AV.cells,AV.boxable,AV.one,AV.strip1,fillA,fillS,Nat.reduceEqDiff,reduceCtorEq,↓reduceIte,Nat.reduceAdd,Int.reduceNeg,Nat.reduceLeDiff,Int.reduceToNat,Int.reduceEq,Int.reduceLT,Int.reduceLE,Int.reduceAdd])
  ·have hlt':¬ ((i:Int)<n):=by omega
   obtain rfl:i=n:=by omega
   simp(disch:=first|omega|assumption) only[hlt',steps,st2,pev,rev,oev,optr,ibin,sbin,ishf,bound,mmAll,mm2,mk,mkArgs,AV.cells,AV.boxable,AV.one,AV.strip1,fillA,fillS,Nat.reduceEqDiff,reduceCtorEq,↓reduceIte,Nat.reduceAdd,Int.reduceNeg,Nat.reduceLeDiff,Int.reduceToNat,Int.reduceEq,Int.reduceLT,Int.reduceLE,Int.reduceAdd]
   refine zh (zq nm hs) w3 (by omega) (by omega) (by simp only[Lim];omega) fun o4 l4 H4 w4 _=>?_
   rw[hnm] at w4
   simp(disch:=first|omega|assumption) only[steps,st2,pev,rev,oev,optr,ibin,sbin,ishf,bound,mmAll,mm2,mk,mkArgs,AV.cells,AV.boxable,AV.one,AV.strip1,fillA,fillS,Nat.reduceEqDiff,reduceCtorEq,↓reduceIte,Nat.reduceAdd,Int.reduceNeg,Nat.reduceLeDiff,Int.reduceToNat,Int.reduceEq,Int.reduceLT,Int.reduceLE,Int.reduceAdd]
   refine goL_st (fun x:Nat×Own×List Tok×Nat×List Tok=>[(4,.int .i64 ((x.1:Int)-1))]) (fun x H'=>x.1≤i+1∧x.2.2.2.1+2*x.1≤19∧x.2.2.2.2++zaj i ms x.1=tTy ⟨nm,i,ms⟩∧WR H2 o2 w l2 true dp x.2.2.2.1 true x.2.2.2.2 H' x.2.1 x.2.2.1) (fun x=>x.1)
    (i+1,o4,l4,i+1,List.replicate i (pk [91])++[wk nm]) (by simp(disch:=first|omega|assumption) only[Int.natCast_add,Int.add_sub_cancel,steps,st2,pev,rev,oev,optr,ibin,sbin,ishf,bound,mmAll,mm2,mk,mkArgs,AV.cells,AV.boxable,AV.one,AV.strip1,fillA,fillS,Nat.reduceEqDiff,reduceCtorEq,↓reduceIte,Nat.reduceAdd,Int.reduceNeg,Nat.reduceLeDiff,Int.reduceToNat,Int.reduceEq,Int.reduceLT,Int.reduceLE,Int.reduceAdd]) ⟨by simp,by simp only;omega,by simp only[tTy,en,zcI];simp,w4.cast (Al4 _) rfl rfl⟩ ?_
   rintro⟨k,o5,l5,B,tk⟩ H5 J5 ⟨hk,hB,htk,w5⟩ hJ5
   simp only at hk hB htk w5
   cases k with
   | zero =>
    have hz:¬ ((0:Int)≤-1):=by omega
    have w6:=w5.after h3 h2.cell
    simp only[zaj,List.append_nil] at htk
    simp(disch:=first|omega|assumption) only[hz,Int.reduceSub,steps,st2,pev,rev,oev,optr,ibin,sbin,ishf,bound,mmAll,mm2,mk,mkArgs,AV.cells,AV.boxable,AV.one,AV.strip1,fillA,fillS,Nat.reduceEqDiff,reduceCtorEq,↓reduceIte,Nat.reduceAdd,Int.reduceNeg,Nat.reduceLeDiff,Int.reduceToNat,Int.reduceEq,Int.reduceLT,Int.reduceLE,Int.reduceAdd]
    refine hQ _ _ H5 H5 [] nofun rfl (Low.refl _) ⟨rfl,?_⟩
    obtain⟨o',l',g1,g2,g3,g4⟩:=w6.fin (B':=20) rfl (fun _=>htk) (by omega)
    rw[hok]
    exact⟨o',l',by simpa using g1,g2,by omega,fun _=>by simpa using g4 rfl⟩
   | succ j =>
    have e0:((j+1:Nat):Int)-1=(j:Int):=by omega
    have hz:((0:Int)≤j)=True:=eq_true (by omega)
    have hbit:=zmi ms j (by omega)
    have hq0:0≤ms / 2 ^ j:=Int.ediv_nonneg r3 (by exact_mod_cast Nat.zero_le _)
    have hq1:ms / 2 ^ j<64:=by
     have:ms / 2 ^ j≤ms:=Int.ediv_le_self _ r3
     omega
    have ha:=and1 hq0 hq1
    have hj0:¬ ((j:Int)<0):=by omega
    simp only[zaj,zaS] at htk
    by_cases hji:j<i
    ·have hji':((j:Int)<i)=True:=eq_true (by omega)
     rw[if_pos hji] at htk
     simp(disch:=first|omega|assumption) only[e0,hz,hji',steps,st2,pev,rev,oev,optr,ibin,sbin,ishf,bound,mmAll,mm2,mk,mkArgs,AV.cells,AV.boxable,AV.one,AV.strip1,fillA,fillS,Nat.reduceEqDiff,reduceCtorEq,↓reduceIte,Nat.reduceAdd,Int.reduceNeg,Nat.reduceLeDiff,Int.reduceToNat,Int.reduceEq,Int.reduceLT,Int.reduceLE,Int.reduceAdd]
     refine zh (zz [93] _) w5 (by omega) (by omega) (by simp only[Lim];omega) fun o6 l6 H6 w6 _=>?_
     by_cases hbt:ms / 2 ^ j % 2=1
     ·have hbb:zaE ms j=true:=by simp[zaE,hbt]
      rw[hbb] at htk
      simp(disch:=first|omega|assumption) only[hbit,hj0,ha,hbt,steps,st2,pev,rev,oev,optr,ibin,sbin,ishf,bound,mmAll,mm2,mk,mkArgs,AV.cells,AV.boxable,AV.one,AV.strip1,fillA,fillS,Nat.reduceEqDiff,reduceCtorEq,↓reduceIte,Nat.reduceAdd,Int.reduceNeg,Nat.reduceLeDiff,Int.reduceToNat,Int.reduceEq,Int.reduceLT,Int.reduceLE,Int.reduceAdd]
      refine zh (zz [33] _) w6 (by omega) (by omega) (by simp only[Lim];omega) fun o7 l7 H7 w7 _=>?_
      simp(disch:=first|omega|assumption) only[wrap64,steps,st2,pev,rev,oev,optr,ibin,sbin,ishf,bound,mmAll,mm2,mk,mkArgs,AV.cells,AV.boxable,AV.one,AV.strip1,fillA,fillS,Nat.reduceEqDiff,reduceCtorEq,↓reduceIte,Nat.reduceAdd,Int.reduceNeg,Nat.reduceLeDiff,Int.reduceToNat,Int.reduceEq,Int.reduceLT,Int.reduceLE,Int.reduceAdd]
      exact goJ (hJ5 (j,o7,l7,B+1+1,tk++[pk [93]]++[pk [33]]) H7 (Nat.lt_succ_self j) ⟨by simp only;omega,by simp only;omega,by rw[← htk];simp,w7.cast (Al4 _) rfl rfl⟩) (by simp(disch:=first|omega|assumption) only[steps,st2,pev,rev,oev,optr,ibin,sbin,ishf,bound,mmAll,mm2,mk,mkArgs,AV.cells,AV.boxable,AV.one,AV.strip1,fillA,fillS,Nat.reduceEqDiff,reduceCtorEq,↓reduceIte,Nat.reduceAdd,Int.reduceNeg,Nat.reduceLeDiff,Int.reduceToNat,Int.reduceEq,Int.reduceLT,Int.reduceLE,Int.reduceAdd])
     ·have hbb:zaE ms j=false:=by simp[zaE,hbt]
      rw[hbb] at htk
      simp(disch:=first|omega|assumption) only[hbit,hj0,ha,hbt,wrap64,steps,st2,pev,rev,oev,optr,ibin,sbin,ishf,bound,mmAll,mm2,mk,mkArgs,AV.cells,AV.boxable,AV.one,AV.strip1,fillA,fillS,Nat.reduceEqDiff,reduceCtorEq,↓reduceIte,Nat.reduceAdd,Int.reduceNeg,Nat.reduceLeDiff,Int.reduceToNat,Int.reduceEq,Int.reduceLT,Int.reduceLE,Int.reduceAdd]
      exact goJ (hJ5 (j,o6,l6,B+1,tk++[pk [93]]) H6 (Nat.lt_succ_self j) ⟨by simp only;omega,by simp only;omega,by rw[← htk];simp,w6.cast (Al4 _) rfl rfl⟩) (by simp(disch:=first|omega|assumption) only[steps,st2,pev,rev,oev,optr,ibin,sbin,ishf,bound,mmAll,mm2,mk,mkArgs,AV.cells,AV.boxable,AV.one,AV.strip1,fillA,fillS,Nat.reduceEqDiff,reduceCtorEq,↓reduceIte,Nat.reduceAdd,Int.reduceNeg,Nat.reduceLeDiff,Int.reduceToNat,Int.reduceEq,Int.reduceLT,Int.reduceLE,Int.reduceAdd])
    ·have hji':¬ ((j:Int)<i):=by omega
     rw[if_neg hji] at htk
     by_cases hbt:ms / 2 ^ j % 2=1
     ·have hbb:zaE ms j=true:=by simp[zaE,hbt]
      rw[hbb] at htk
      simp(disch:=first|omega|assumption) only[e0,hz,hji',hbit,hj0,ha,hbt,steps,st2,pev,rev,oev,optr,ibin,sbin,ishf,bound,mmAll,mm2,mk,mkArgs,AV.cells,AV.boxable,AV.one,AV.strip1,fillA,fillS,Nat.reduceEqDiff,reduceCtorEq,↓reduceIte,Nat.reduceAdd,Int.reduceNeg,Nat.reduceLeDiff,Int.reduceToNat,Int.reduceEq,Int.reduceLT,Int.reduceLE,Int.reduceAdd]
      refine zh (zz [33] _) w5 (by omega) (by omega) (by simp only[Lim];omega) fun o7 l7 H7 w7 _=>?_
      simp(disch:=first|omega|assumption) only[wrap64,steps,st2,pev,rev,oev,optr,ibin,sbin,ishf,bound,mmAll,mm2,mk,mkArgs,AV.cells,AV.boxable,AV.one,AV.strip1,fillA,fillS,Nat.reduceEqDiff,reduceCtorEq,↓reduceIte,Nat.reduceAdd,Int.reduceNeg,Nat.reduceLeDiff,Int.reduceToNat,Int.reduceEq,Int.reduceLT,Int.reduceLE,Int.reduceAdd]
      exact goJ (hJ5 (j,o7,l7,B+1,tk++[pk [33]]) H7 (Nat.lt_succ_self j) ⟨by simp only;omega,by simp only;omega,by rw[← htk];simp,w7.cast (Al4 _) rfl rfl⟩) (by simp(disch:=first|omega|assumption) only[steps,st2,pev,rev,oev,optr,ibin,sbin,ishf,bound,mmAll,mm2,mk,mkArgs,AV.cells,AV.boxable,AV.one,AV.strip1,fillA,fillS,Nat.reduceEqDiff,reduceCtorEq,↓reduceIte,Nat.reduceAdd,Int.reduceNeg,Nat.reduceLeDiff,Int.reduceToNat,Int.reduceEq,Int.reduceLT,Int.reduceLE,Int.reduceAdd])
     ·have hbb:zaE ms j=false:=by simp[zaE,hbt]
      rw[hbb] at htk
      simp(disch:=first|omega|assumption) only[e0,hz,hji',hbit,hj0,ha,hbt,wrap64,steps,st2,pev,rev,oev,optr,ibin,sbin,ishf,bound,mmAll,mm2,mk,mkArgs,AV.cells,AV.boxable,AV.one,AV.strip1,fillA,fillS,Nat.reduceEqDiff,reduceCtorEq,↓reduceIte,Nat.reduceAdd,Int.reduceNeg,Nat.reduceLeDiff,Int.reduceToNat,Int.reduceEq,Int.reduceLT,Int.reduceLE,Int.reduceAdd]
      exact goJ (hJ5 (j,o5,l5,B,tk) H5 (Nat.lt_succ_self j) ⟨by simp only;omega,by simp only;omega,by rw[← htk];simp,w5⟩) (by simp(disch:=first|omega|assumption) only[steps,st2,pev,rev,oev,optr,ibin,sbin,ishf,bound,mmAll,mm2,mk,mkArgs,AV.cells,AV.boxable,AV.one,AV.strip1,fillA,fillS,Nat.reduceEqDiff,reduceCtorEq,↓reduceIte,Nat.reduceAdd,Int.reduceNeg,Nat.reduceLeDiff,Int.reduceToNat,Int.reduceEq,Int.reduceLT,Int.reduceLE,Int.reduceAdd])
theorem zjp (has:Bool) (v:Val) (hw:wfV v) (hv:4*bV v≤Lim):WC 211 [.bool has,.agg (cV v)] (1+4*bV v) 0 32 (fun dp=>if has then zF dp true v else eqd v zV) (tDf has v):=by
 intro H w o l ok dp h h0 h1 hb
 have hvb:bV v≤Lim:=by simp only[Lim] at hv ⊢;omega
 refine ACalls.go ir211 ck211 (Al4 _) fun KP Q hQ=>?_
 have w0:=WR.refl h
 cases has with
 | false =>
  simp(disch:=first|omega|assumption) only[zf,zd,za,zg,zc,zb,zj,ir211,go_sem]
  refine goK_pure (Pure.low (r:=.bool (eqd v zV)) (by
   have:=znQ v hvb zV
   simpa[AV.strip,Z2,zlX,AV.strip1] using this)) ?_
  simp(disch:=first|omega|assumption) only[go_sem]
  refine zh (yo _) w0 (by omega) (by omega) (by omega) fun o2 l2 H2 w2 _=>?_
  simp(disch:=first|omega|assumption) only[go_sem]
  exact hQ _ _ H2 H2 [] nofun rfl (Low.refl _) ⟨rfl,w2.fin (by simp) (fun _=>by simp[tDf]) (by omega)⟩
 | true =>
  simp(disch:=first|omega|assumption) only[zf,zd,za,zg,zc,zb,zj,ir211,go_sem]
  refine zh (zz [61] _) w0 (by omega) (by omega) (by omega) fun o2 l2 H2 w2 _=>?_
  simp(disch:=first|omega|assumption) only[zf,zd,za,zg,zc,zb,zj,go_sem]
  refine zh (zii v hw hv true) w2 (by omega) (by omega) (by omega) fun o3 l3 H3 w3 _=>?_
  simp(disch:=first|omega|assumption) only[go_sem]
  exact hQ _ _ H3 H3 [] nofun rfl (Low.refl _) ⟨rfl,w3.fin (by simp) (fun _=>by simp[tDf]) (by omega)⟩
theorem znf (fixed:Bool) (m:List Mem) (hw:zcs m) (hm:8*bMs m≤Lim):WC 261 [.bool fixed,.sl .no 6 (cMs m)] (2+6*bMs m) 0 32 (fun dp=>ZW dp fixed m) (YF m):=by
 intro H w o l ok dp h h0 h1 hb
 have hml:=Zv m
 have hcl:=Zj m
 refine ACalls.go ir261 ck261 (Al4 _) fun KP Q hQ=>?_
 have w0:=WR.refl h
 by_cases hz:m.length=0
 ·have hz':((m.length:Int)=0)=True:=eq_true (by omega)
  simp(disch:=first|omega|assumption) only[ir261,hcl,hz',go_sem]
  have em:=Zi.1 hz
  subst em
  exact hQ _ _ H H [] nofun rfl (Low.refl _) ⟨rfl,w0.fin rfl (fun _=>rfl) (by omega)⟩
 ·have hz':¬ ((m.length:Int)=0):=by omega
  simp(disch:=first|omega|assumption) only[ir261,hcl,hz',go_sem]
  refine zh (zz [40] _) w0 (by omega) (by omega) (by omega) fun o2 l2 H2 w2 _=>?_
  simp(disch:=first|omega|assumption) only[hcl,go_sem]
  refine goL_range m 16 (fun x:Own×List Tok=>[]) (fun done rest x H'=>WR H o w l ok dp (1+6*bMs done) (ZW dp fixed done) (pk [40]::yi done) H' x.1 x.2) (o2,l2) (by simp(disch:=first|omega|assumption) only[go_sem]) (w2.cast (by omega) rfl rfl) ?_ ?_
  ·rintro⟨o3,l3⟩ H3 J w3 hlt
   simp only at w3
   simp(disch:=first|omega|assumption) only[hcl,hlt,go_sem]
   refine zh (zz [41] _) w3 (by omega) (by omega) (by omega) fun o4 l4 H4 w4 _=>?_
   simp(disch:=first|omega|assumption) only[go_sem]
   exact hQ _ _ H4 H4 [] nofun rfl (Low.refl _) ⟨rfl,w4.fin (by simp) (fun _=>by unfold YF;rw[if_neg hz];rfl) (by omega)⟩
  ·rintro done x rest ⟨o3,l3⟩ H3 J hd hlt hlt2 w3 hJ
   simp only at w3
   have hg:=Yl hd
   have hbm:=zak done x rest
   rw[← hd] at hbm
   have hmem:x∈m:=by rw[hd];simp
   obtain⟨s,v⟩:=x
   have hwv:=zaJ hw s v hmem
   have hvp:=zbz v
   simp only[bM] at hbm
   have hm':=hm
   simp only[Lim] at hm'
   have hbw:b0 w=b0 w:=rfl
   simp(disch:=first|omega|assumption) only[zf,zd,za,zg,zc,zb,zj,hcl,hlt,hg,go_sem]
   refine goA_intro fun b hb=>?_
   have hbw:b≠w:=fun e=>by subst e;rw[w3.here.cell] at hb;cases hb
   have w4:=w3.alloc (x:=.cells (.str s::cV v)) hb
   have hbc:(H3.upd b (.cells (.str s::cV v))) b=some (.cells (.str s::cV v)):=upd_same ..
   simp(disch:=first|omega|assumption) only[zf,zd,za,zg,zc,zb,zj,go_sem]
   refine zh (zq s (by simp only[Lim];omega)) w4 (by omega) (by omega) (by omega) fun o5 l5 H5 w5 s5=>?_
   have hb5:=s5.box w4.here.own hbc hbw
   simp(disch:=first|omega|assumption) only[zf,zd,za,zg,zc,zb,zj,hb5,go_sem]
   refine zh (zz [58] _) w5 (by omega) (by omega) (by omega) fun o6 l6 H6 w6 s6=>?_
   have hb6:=s6.box w5.here.own hb5 hbw
   simp(disch:=first|omega|assumption) only[zf,zd,za,zg,zc,zb,zj,hb6,go_sem]
   refine zh (zii v hwv (by simp only[Lim];omega) fixed) w6 (by omega) (by omega) (by omega) fun o7 l7 H7 w7 s7=>?_
   simp(disch:=first|omega|assumption) only[wrap64,go_sem]
   exact goJ (hJ (o7,l7) H7 (w7.cast (by rw[zak done (.mk s v) []];simp only[bM,bMs];omega) (by simp[ZW,zb9,yI]) (by rw[zeO];simp[yi,YD,wk,pk]))) (by simp(disch:=first|omega|assumption) only[go_sem])
abbrev pl (v:Val):Prop:=Ys zm v=true
inductive Shape:Val→Prop
 | null:Shape (.mk 0 0 [] [] [])
 | bool (n:Int) (h:n=0∨n=1):Shape (.mk 1 n [] [] [])
 | int (n:Int):Shape (.mk 2 n [] [] [])
 | num (s:List UInt8) (h:zcU s=true):Shape (.mk 3 0 s [] [])
 | text (s:List UInt8):Shape (.mk 4 0 s [] [])
 | word (s:List UInt8) (h:zgc s=false):Shape (.mk 5 0 s [] [])
 | var (s:List UInt8):Shape (.mk 8 0 s [] [])
 | list (l:List Val) (h:YY zm l=true):Shape (.mk 6 0 [] l [])
 | obj (m:List Mem) (h:Y2 zm m=true):Shape (.mk 7 0 [] [] m)
theorem zco {n:Int} {s:List UInt8} {l:List Val} {m:List Mem}:zaD n s l m=true↔n=0∧s=[]∧l=[]∧m=[]:=by
 simp[zaD]
theorem shape:∀ v,pl v→Shape v
 | .mk k n s l m,h=>by
  simp only[pl,Ys] at h
  split at h
  ·rename_i k6
   subst k6
   simp only[Al0,zco] at h
   obtain⟨h1,rfl,rfl,_,rfl⟩:=h
   exact .list l h1
  ·split at h
   ·rename_i k7
    subst k7
    simp only[Al0,zco] at h
    obtain⟨h1,rfl,rfl,rfl,_⟩:=h
    exact .obj m h1
   ·simp only[zD,Al0,zco] at h
    obtain⟨⟨_,_,rfl,rfl⟩,h⟩:=h
    split at h
    ·rename_i k0
     subst k0
     simp only[Al0,zn] at h
     obtain⟨rfl,rfl⟩:=h
     exact .null
    split at h
    ·rename_i k0
     subst k0
     simp only[Al0,ZH,zn] at h
     obtain⟨h,rfl⟩:=h
     exact .bool n h
    split at h
    ·rename_i k0
     subst k0
     simp only[zn] at h
     subst h
     exact .int n
    split at h
    ·rename_i k0
     subst k0
     simp only[Al0,zn] at h
     obtain⟨rfl,h⟩:=h
     exact .num s h
    split at h
    ·rename_i k0
     subst k0
     simp only[Al0,zn] at h
     obtain⟨rfl,h⟩:=h
     exact .text s
    split at h
    ·rename_i k0
     subst k0
     simp only[Al0,zn,Bool.not_eq_true'] at h
     obtain⟨rfl,_,h⟩:=h
     exact .word s h
    split at h
    ·rename_i k0
     subst k0
     simp only[Al0,zn] at h
     obtain⟨rfl,_⟩:=h
     exact .var s
    ·cases h
theorem zkQ (n s l m):zM (.mk 0 n s l m)=[⟨2,[110,117,108,108]⟩]:=by simp[zM]
theorem zjQ (n s l m):zM (.mk 1 n s l m)=[⟨2,boolT (decide (n=1))⟩]:=by simp[zM]
theorem zmb (n s l m):zM (.mk 2 n s l m)=[⟨3,Lib.itoa n⟩]:=by simp[zM]
theorem zmo (n s l m):zM (.mk 3 n s l m)=[⟨Zl s,s⟩]:=by simp[zM]
theorem t_text (n s l m):zM (.mk 4 n s l m)=[⟨5,s⟩]:=by simp[zM]
theorem zkE (n s l m):zM (.mk 5 n s l m)=[⟨2,s⟩]:=by simp[zM]
theorem zmc (n s l m):zM (.mk 8 n s l m)=[⟨1,[36]⟩,⟨2,s⟩]:=by simp[zM]
theorem zkT (n s l m):zM (.mk 6 n s l m)=⟨1,[91]⟩::(Zw l++[⟨1,[93]⟩]):=by simp[zM]
theorem zmg (n s l m):zM (.mk 7 n s l m)=⟨1,[123]⟩::(yi m++[⟨1,[125]⟩]):=by simp[zM]
theorem zfj {s:List UInt8} (h:zcU s=true):(Zl s=4∨Zl s=3)∧∀ n,inR n→Zl s=3→Lib.itoa n≠s:=by
 simp only[zcU,ZH,zn,Al0,Bool.not_eq_true'] at h
 refine⟨h.imp id (·.1),fun n hn h3 e=>?_⟩
 rcases h with h|⟨_,h⟩
 ·omega
 ·rw[Zd,← e,zd6 n hn.1 hn.2,e,h3] at h
  simp[okI] at h
theorem zj2 (v:Val) (h:pl v):∃ t r,zM v=t::r∧t≠⟨1,[93]⟩∧t≠⟨1,[125]⟩:=by
 cases shape v h with
 | null=>exact⟨_,_,zkQ ..,by simp,by simp⟩
 | bool n h=>exact⟨_,_,zjQ ..,by simp,by simp⟩
 | int n=>exact⟨_,_,zmb ..,by simp,by simp⟩
 | num s h =>
  have:=(zfj h).1
  refine⟨_,_,zmo ..,fun e=>?_,fun e=>?_⟩<;>(injection e with e _;omega)
 | text s=>exact⟨_,_,t_text ..,by simp,by simp⟩
 | word s h=>exact⟨_,_,zkE ..,by simp,by simp⟩
 | var s=>exact⟨_,_,zmc ..,by simp,by simp⟩
 | list l h=>exact⟨_,_,zkT ..,by simp,by simp⟩
 | obj m h=>exact⟨_,_,zmg ..,by simp,by simp⟩
theorem y6 (x:Tok) (t:TS):hdT (x::t)=x:=rfl
theorem Z6 (m:List UInt8) (x:Tok) (t:TS):isP m (x::t)=(decide (x.k=1)&&decide (x.s=m)):=rfl
theorem zgk (m:List UInt8) (x:Tok) (t:TS):isW m (x::t)=(decide (x.k=2)&&decide (x.s=m)):=rfl
theorem yj (m n:List UInt8) (t:TS):isP m (pk n::t)=decide (n=m):=by simp[Z6,pk]
theorem zch (m n:List UInt8) (t:TS):isP m (wk n::t)=false:=by simp[Z6,wk]
theorem YW (m n:List UInt8) (t:TS):isW m (wk n::t)=decide (n=m):=by simp[zgk,wk]
theorem zkI (m n:List UInt8) (t:TS):isW m (pk n::t)=false:=by simp[zgk,pk]
theorem yl (m:List UInt8) (t:TS):yp m (pk m::t)=.ok ((),t):=by simp[yp,yj]
theorem z8 (s:List UInt8) (t:TS):zZ (wk s::t)=.ok (s,t):=by simp[zZ,y6,wk]
theorem zaw {α:Type} {tk:α→List Tok} {m:List UInt8} {f:TS→PR α} {F:TS→Prop} (hF2:∀ t,F (pk m::t)):∀(l:List α),(∀ x∈l,∀ t,F (tk x++t))→(∀ x∈l,∀ t,isP m (tk x++t)=false)→(∀ x∈l,∀ t,F t→f (tk x++t)=.ok (x,t)) →
  ∀(n:Nat) (acc:List α) (t:TS),l.length<n→zA m f n acc (l.flatMap tk++pk m::t)=.ok (acc++l,t)
 | [],_,_,_,n+1,acc,t,_=>by simp[zA,yj]
 | x::l,h1,h2,h3,n+1,acc,t,hn=>by
  have e:(x::l).flatMap tk++pk m::t=tk x++(l.flatMap tk++pk m::t):=by simp
  have hF:F (l.flatMap tk++pk m::t):=by
   cases l with
   | nil=>exact hF2 t
   | cons y l=>simp only[List.flatMap_cons,ZF];exact h1 y (by simp) _
  rw[e,zA,h2 x (by simp),h3 x (by simp) _ hF]
  simp only[Al7,if_false,pb]
  rw[zaw hF2 l (fun y hy=>h1 y (by simp[hy])) (fun y hy=>h2 y (by simp[hy])) (fun y hy=>h3 y (by simp[hy])) n _ t (by simpa using hn)]
  simp
theorem ZL {α:Type} {tk:α→List Tok}:∀(l:List α),(∀ x∈l,tk x≠[])→l.length≤(l.flatMap tk).length
 | [],_=>by simp
 | x::l,h=>by
  have h1:=List.length_pos_iff.2 (h x (by simp))
  have h2:=ZL l fun y hy=>h y (by simp[hy])
  simp only[List.flatMap_cons,Al5,Al2];omega
theorem YQ {α:Type} {tk:α→List Tok} {m:List UInt8} {f:TS→PR α} {F:TS→Prop} (hF2:∀ t,F (pk m::t)) (l:List α) (hl:l≠[]) (h1:∀ x∈l,∀ t,F (tk x++t)) (h2:∀ x∈l,∀ t,isP m (tk x++t)=false) (h3:∀ x∈l,∀ t,F t→f (tk x++t)=.ok (x,t))
  (t:TS):yA m f (l.flatMap tk++pk m::t)=.ok (l,t):=by
 cases l with
 | nil=>exact absurd rfl hl
 | cons x l =>
  have e:(x::l).flatMap tk++pk m::t=tk x++(l.flatMap tk++pk m::t):=by simp
  have hF:F (l.flatMap tk++pk m::t):=by
   cases l with
   | nil=>exact hF2 t
   | cons y l=>simp only[List.flatMap_cons,ZF];exact h1 y (by simp) _
  have hne:∀ y∈l,tk y≠[]:=fun y hy h=>by have:=h2 y (by simp[hy]) (pk m::t);rw[h] at this;simp[yj] at this
  have:=ZL l hne
  rw[e,yA,h3 x (by simp) _ hF]
  simp only[pb]
  rw[zaw hF2 l (fun y hy=>h1 y (by simp[hy])) (fun y hy=>h2 y (by simp[hy])) (fun y hy=>h3 y (by simp[hy])) _ _ t (by simp only[Al5];omega)]
  simp
theorem zcQ {α:Type} {tk:α→List Tok} {m:List UInt8} {f:TS→PR α} {F:TS→Prop} (hF1:∀ t,F (pk m::t)):∀(l:List α),(∀ x∈l,∀ t,F t→f (tk x++t)=.ok (x,t)) →
  ∀(n:Nat) (acc:List α) (t:TS),F t→isP m t=false→l.length<n→yd m f n acc (l.flatMap (fun x=>pk m::tk x)++t)=.ok (acc++l,t)
 | [],_,n+1,acc,t,_,ht,_=>by simp[yd,ht]
 | x::l,h3,n+1,acc,t,hFt,ht,hn=>by
  have e:(x::l).flatMap (fun x=>pk m::tk x)++t=pk m::(tk x++(l.flatMap (fun x=>pk m::tk x)++t)):=by simp
  have hF:F (l.flatMap (fun x=>pk m::tk x)++t):=by
   cases l with
   | nil=>exact hFt
   | cons y l=>simp only[List.flatMap_cons,Al6];exact hF1 _
  rw[e,yd,yj]
  simp only[decide_true,if_true,List.tail_cons]
  rw[h3 x (by simp) _ hF]
  simp only[pb]
  rw[zcQ hF1 l (fun y hy=>h3 y (by simp[hy])) n _ t hFt ht (by simpa using hn)]
  simp
theorem zeA (n:Nat) (m:Int) (i:Nat):zaS (n+1) m (i+1)=zaS n (m / 2) i:=by
 have e:zaE m (i+1)=zaE (m / 2) i:=by
  unfold zaE
  rw[Int.pow_succ,Int.mul_comm,← Int.ediv_ediv_of_nonneg (by decide)]
 unfold zaS
 rw[e]
 simp
theorem ze3 (n:Nat) (m:Int):∀ i,zan (n+1) m (i+1)=zan n (m / 2) i++zaS (n+1) m 0
 | 0=>by rw[zan,zan,zan,zeA]
 | i+1=>by rw[zan,ze3 n m i,zeA];simp[zan]
theorem zgf (s:List UInt8):∀(n k:Nat) (m:Int) (t:TS),n≤k→0≤m→m<2 ^ (n+1)→isP [33] t=false→YS k (List.replicate n (pk [91])++(wk s::zan n m n)++t)=.ok (⟨s,n,m⟩,t)
 | 0,k,m,t,_,h0,h1,ht=>by
  have hm:m=0∨m=1:=by omega
  rw[ZC,zb7.eq_def]
  rcases hm with rfl|rfl
  ·simp[zch,z8,pb,zan,zaS,zaE,YZ,ht]
  ·simp[zch,z8,pb,zan,zaS,zaE,YZ,yj]
 | n+1,0,_,_,h,_,_,_=>by omega
 | n+1,k+1,m,t,hk,h0,h1,ht=>by
  have e:List.replicate (n+1) (pk [91])++(wk s::zan (n+1) m (n+1))++t=pk [91]::(List.replicate n (pk [91])++(wk s::zan n (m / 2) n)++(zaS (n+1) m 0++t)):=by
   rw[ze3];simp[List.replicate_succ]
  have e2:zaS (n+1) m 0++t=pk [93]::((if zaE m 0 then [pk [33]] else [])++t):=by simp[zaS]
  rw[e,ZC,zb7.eq_def,yj,zfQ]
  simp only[decide_true,if_true,List.tail_cons]
  rw[zgf s n k (m / 2) _ (by omega) (by omega) (by rw[Int.pow_succ] at h1;omega) (by rw[e2,yj];decide),e2]
  simp only[pb,yl]
  unfold YZ
  have hb:zaE m 0=decide (m % 2=1):=by simp[zaE]
  rw[hb]
  by_cases h2:m % 2=1
  ·simp[h2,yj];omega
  ·simp[h2,ht];omega
theorem zdV:∀ l,Zw l=l.flatMap zM
 | []=>rfl
 | v::r=>by rw[Zw,zdV r];rfl
theorem zbK:∀ l,yi l=l.flatMap YD
 | []=>rfl
 | v::r=>by rw[yi,zbK r];rfl
theorem zbj {may:List UInt8→Bool}:∀ {l:List Val},YY may l=true→∀ v∈l,Ys may v=true
 | _::_,h,v,hv=>by
  simp only[YY,Al0] at h
  exact(List.mem_cons.1 hv).elim (fun e=>e▸h.1) (zbj h.2 v)
theorem zfd {may:List UInt8→Bool}:∀ {l:List Mem},Y2 may l=true→∀ v∈l,zgF may v=true
 | _::_,h,v,hv=>by
  simp only[Y2,Al0] at h
  exact(List.mem_cons.1 hv).elim (fun e=>e▸h.1) (zfd h.2 v)
theorem za2:∀ {l:List Val} {n:Int},n≤yw l n∧∀ v∈l,zG v≤yw l n
 | [],n=>⟨Int.le_refl _,fun v hv=>by cases hv⟩
 | x::l,n=>by
  have h1:=za2 (l:=l) (n:=mm2 true n (zG x))
  have h2:=zfo n (zG x)
  have h3:zG x≤mm2 true n (zG x):=by simp only[mm2,if_true];split<;>omega
  simp only[yw]
  refine⟨by omega,fun v hv=>?_⟩
  rcases List.mem_cons.1 hv with rfl|h
  ·omega
  ·exact h1.2 v h
theorem zaU:∀ {l:List Mem} {n:Int},n≤yv l n∧∀ v∈l,y0 v≤yv l n
 | [],n=>⟨Int.le_refl _,fun v hv=>by cases hv⟩
 | x::l,n=>by
  have h1:=zaU (l:=l) (n:=mm2 true n (y0 x))
  have h2:=zfo n (y0 x)
  have h3:y0 x≤mm2 true n (y0 x):=by simp only[mm2,if_true];split<;>omega
  simp only[yv]
  refine⟨by omega,fun v hv=>?_⟩
  rcases List.mem_cons.1 hv with rfl|h
  ·omega
  ·exact h1.2 v h
mutual
theorem zbI:∀ v acc,acc.length≤(zO v acc).length∧(zO v acc=acc∨acc.length<(zO v acc).length)
 | .mk k n s l m,acc=>by
  have h1:=zaP l acc
  have h2:=zaI m acc
  simp only[zO]
  split
  ·split
   ·exact⟨Al4 _,.inl rfl⟩
   ·simp
  ·split
   ·exact h1
   ·split
    ·exact h2
    ·exact⟨Al4 _,.inl rfl⟩
theorem zaP:∀ l acc,acc.length≤(yN l acc).length∧(yN l acc=acc∨acc.length<(yN l acc).length)
 | [],acc=>⟨Al4 _,.inl rfl⟩
 | v::r,acc=>by
  have h1:=zbI v acc
  have h2:=zaP r (zO v acc)
  simp only[yN]
  refine⟨by omega,?_⟩
  rcases h1.2 with e|h
  ·rw[e] at h2 ⊢;exact h2.2
  ·exact .inr (by omega)
theorem zdA:∀ x acc,acc.length≤(YC x acc).length∧(YC x acc=acc∨acc.length<(YC x acc).length)
 | .mk s v,acc=>by simpa only[YC] using zbI v acc
theorem zaI:∀ l acc,acc.length≤(yO l acc).length∧(yO l acc=acc∨acc.length<(yO l acc).length)
 | [],acc=>⟨Al4 _,.inl rfl⟩
 | v::r,acc=>by
  have h1:=zdA v acc
  have h2:=zaI r (YC v acc)
  simp only[yO]
  refine⟨by omega,?_⟩
  rcases h1.2 with e|h
  ·rw[e] at h2 ⊢;exact h2.2
  ·exact .inr (by omega)
end
theorem zdF:∀ {l:List Val},yN l []=[]→∀ v∈l,zO v []=[]
 | x::l,h,v,hv=>by
  simp only[yN] at h
  have h1:=zbI x []
  have h2:=zaP l (zO x [])
  rw[h] at h2
  have e:zO x []=[]:=by
   rcases h1.2 with e|e
   ·exact e
   ·simp at h2 e;omega
  rcases List.mem_cons.1 hv with rfl|hm
  ·exact e
  ·rw[e] at h;exact zdF h v hm
theorem zdq:∀ {l:List Mem},yO l []=[]→∀ v∈l,YC v []=[]
 | x::l,h,v,hv=>by
  simp only[yO] at h
  have h1:=zdA x []
  have h2:=zaI l (YC x [])
  rw[h] at h2
  have e:YC x []=[]:=by
   rcases h1.2 with e|e
   ·exact e
   ·simp at h2 e;omega
  rcases List.mem_cons.1 hv with rfl|hm
  ·exact e
  ·rw[e] at h;exact zdq h v hm
theorem zf5 (v:Val) (h:pl v) (t:TS):isP [93] (zM v++t)=false:=by
 obtain⟨x,r,e,h1,_⟩:=zj2 v h
 rw[e,Al6,Z6]
 cases hx:decide (x.k=1)&&decide (x.s=[93]) with
 | false=>rfl
 | true =>
  simp only[Al0,zn] at hx
  exact absurd (by cases x;simp_all) h1
theorem zcS {f:TS→PR Val} {s:List UInt8} {v:Val} (hf:∀ t,f (zM v++t)=.ok (v,t)) (t:TS):zX f (YD (.mk s v)++t)=.ok (.mk s v,t):=by
 have e:YD (.mk s v)++t=wk s::pk [58]::(zM v++t):=by simp[YD,wk,pk]
 rw[e,zX,z8]
 simp only[pb,yl,hf]
theorem zj5 (fixed:Bool):∀ v,pl v→wfV v→∀(k:Nat) (t:TS),zG v≤k→(fixed=true→zO v []=[])→yy fixed k (zM v++t)=.ok (v,t):=by
 refine Val.ind fun k n s l m ihl ihm hp hw d t hd hv=>?_
 cases shape _ hp with
 | null=>rw[zkQ,zY,Z8.eq_def];simp[y6,Yb,zV]
 | bool n h =>
  rw[zjQ,zY,Z8.eq_def]
  rcases h with rfl|rfl<;>simp[y6,Yb,boolT]
 | int n =>
  have h:=zdx hw.1
  rw[zmb,zY,Z8.eq_def];simp[y6,zcq,h.1,h.2]
 | num s h =>
  have h1:=(zfj h).1
  have h2:Zd s=false:=by
   simp only[zcU,ZH,zn,Al0,Bool.not_eq_true'] at h
   rcases h with h|h
   ·simp[Zd,h]
   ·exact h.2
  have h3:¬ (Zl s=2):=by omega
  have h4:Zl s=3∨Zl s=4:=by omega
  rw[zmo,zY,Z8.eq_def];simp[y6,zcq,h2,h3,h4]
 | text s=>rw[t_text,zY,Z8.eq_def];simp[y6]
 | word s h =>
  rw[zkE,zY,Z8.eq_def]
  have h1:s≠[110,117,108,108]∧s≠[116,114,117,101]∧s≠[102,97,108,115,101]:=by
   simp only[zgc,Bool.or_eq_false_iff,decide_eq_false_iff_not] at h
   exact⟨h.2.2,h.1,h.2.1⟩
  simp[y6,Yb,h1.1,h1.2.1,h1.2.2]
 | var s =>
  cases fixed with
  | true=>have:=hv rfl;simp[zO,zgz] at this
  | false =>
   rw[zmc,zY,Z8.eq_def]
   have e:=yl [36] (⟨2,s⟩::t)
   have e2:=z8 s t
   simp only[pk,wk] at e e2
   simp[y6,Z6,e,e2,pb]
 | list l h =>
  have hd':yw l 0+1≤d:=by simpa[zG] using hd
  have h0:=(za2 (l:=l) (n:=0)).1
  obtain⟨d,rfl⟩:∃ e,d=e+1:=⟨d-1,by omega⟩
  have hv':fixed=true→yN l []=[]:=fun e=>by simpa[zO] using hv e
  rw[zkT,zY,Z8.eq_def]
  have hm:=zaw (tk:=zM) (m:=[93]) (f:=yy fixed d) (F:=fun _=>True) (fun _=>trivial) l (fun _ _ _=>trivial) (fun x hx t=>zf5 x (zbj h x hx) t)
   (fun x hx t _=>ihl x hx (zbj h x hx) (zdj hw.2.1 x hx) d t (by have:=(za2 (l:=l) (n:=0)).2 x hx;omega) fun e=>zdF (hv' e) x hx)
  have e2:zA [93] (yy fixed d) ((Zw l).length+(t.length+1)+1) [] (Zw l++⟨1,[93]⟩::t)=.ok (l,t):=by
   have e4:=ZL (tk:=zM) l fun x hx e=>by have:=zf5 x (zbj h x hx) (pk [93]::[]);rw[e] at this;simp[yj] at this
   rw[zdV]
   have e5:=hm ((l.flatMap zM).length+(t.length+1)+1) [] t (by omega)
   rw[yR] at e5
   exact e5
  simp[y6,Z6,e2,pb,zgJ]
 | obj m h =>
  have hd':yv m 0+1≤d:=by simpa[zG] using hd
  have h0:=(zaU (l:=m) (n:=0)).1
  obtain⟨d,rfl⟩:∃ e,d=e+1:=⟨d-1,by omega⟩
  have hv':fixed=true→yO m []=[]:=fun e=>by simpa[zO] using hv e
  have hst:∀(x:Mem) (t:TS),isP [125] (YD x++t)=false:=fun x t=>by cases x;simp[YD,Z6]
  rw[zmg,zY,Z8.eq_def]
  have hm:=zaw (tk:=YD) (m:=[125]) (f:=zX (yy fixed d)) (F:=fun _=>True) (fun _=>trivial) m (fun _ _ _=>trivial) (fun x hx t=>hst x t)
   (fun x hx t _=>by
    obtain⟨s,v⟩:=x
    have h1:=zfd h _ hx
    simp only[zgF,Al0] at h1
    exact zcS (fun t=>ihm s v hx h1.2 (zaJ hw.2.2 s v hx) d t (by have:=(zaU (l:=m) (n:=0)).2 _ hx;simp only[y0] at this;omega) fun e=>by simpa[YC] using zdq (hv' e) _ hx) t)
  have e2:zA [125] (zX (yy fixed d)) ((yi m).length+(t.length+1)+1) [] (yi m++⟨1,[125]⟩::t)=.ok (m,t):=by
   have e4:=ZL (tk:=YD) m fun x hx e=>by have:=hst x (pk [125]::[]);rw[e] at this;simp[yj] at this
   rw[zbK]
   have e5:=hm ((m.flatMap YD).length+(t.length+1)+1) [] t (by omega)
   rw[yR] at e5
   exact e5
  simp[y6,Z6,e2,pb,zgJ]
theorem zgh {dp:Int} {fixed:Bool} {v:Val} (h:zF dp fixed v=true):pl v∧dp+zG v≤16∧(fixed=true→zO v []=[]):=by
 simp only[zF,ZQ,Al0,ZH,Bool.not_eq_true',zn] at h
 refine⟨h.1.1,h.2.1,fun e=>?_⟩
 rcases h.2.2 with h|h
 ·rw[h] at e;cases e
 ·exact Zi.1 h
theorem zd7 {dp:Int} {k:Nat} {fixed:Bool} {v:Val} (hk:dp+k=16) (h:zF dp fixed v=true) (hw:wfV v) (t:TS):yy fixed k (zM v++t)=.ok (v,t):=by
 obtain⟨h1,h2,h3⟩:=zgh h
 exact zj5 fixed v h1 hw k t (by omega) h3
theorem zjr {dp:Int} {k:Nat} {fixed:Bool} (hk:dp+k=16) (l:List Mem) (h:ZW dp fixed l=true) (hw:zcs l) (t:TS) (ht:isP [40] t=false):Z9 fixed k (YF l++t)=.ok (l,t):=by
 unfold Z9 YF
 by_cases hl:l.length=0
 ·rw[if_pos hl]
  rw[Zi] at hl
  subst hl
  simp[ht]
 ·rw[if_neg hl]
  have hne:l≠[]:=fun e=>hl (by rw[e];rfl)
  have hh:∀(x:Mem) (t:TS),isP [41] (YD x++t)=false:=fun x t=>by cases x;simp[YD,Z6]
  have e:pk [40]::(yi l++[pk [41]])++t=pk [40]::(l.flatMap YD++pk [41]::t):=by rw[zbK];simp
  rw[e,yj]
  simp only[decide_true,if_true,List.tail_cons]
  refine YQ (F:=fun _=>True) (fun _=>trivial) l hne (fun _ _ _=>trivial) (fun x _ t=>hh x t) (fun x hx t _=>?_) t
  obtain⟨s,v⟩:=x
  have h1:=yf.1 h _ hx
  simp only[zb9,Al0] at h1
  exact zcS (fun t=>zd7 hk h1.2 (zaJ hw s v hx) t) t
theorem zkV {dp:Int} {k:Nat} {fixed:Bool} (hk:dp+k=16) (d:DirD) (h:YH dp fixed d=true) (hw:wfD d) (t:TS) (ht:isP [40] t=false):zcv fixed k (wk d.nm::YF d.args++t)=.ok (d,t):=by
 simp only[YH,Al0] at h
 rw[Al6,zcv,z8]
 simp only[pb,zjr hk d.args h.2 hw t ht]
theorem zgB (l:List DirD):tDs l=l.flatMap fun d=>pk [64]::(wk d.nm::YF d.args):=rfl
theorem zjA {dp:Int} {k:Nat} {fixed:Bool} (hk:dp+k=16) (l:List DirD) (h:Yf dp fixed l=true) (hw:zi1 l) (t:TS) (h1:isP [40] t=false) (h2:isP [64] t=false):zaA fixed k (tDs l++t)=.ok (l,t):=by
 unfold zaA
 rw[zgB]
 have hlen:=ZL (tk:=fun d:DirD=>pk [64]::(wk d.nm::YF d.args)) l fun x _=>by simp
 have:=zcQ (tk:=fun d:DirD=>wk d.nm::YF d.args) (m:=[64]) (f:=zcv fixed k) (F:=fun t=>isP [40] t=false) (fun t=>by rw[yj];decide) l (fun d hd t ht=>zkV hk d (yf.1 h d hd) (hw d hd) t ht) ((l.flatMap fun d=>pk [64]::(wk d.nm::YF d.args)).length+t.length+1) [] t h1 h2 (by omega)
 simpa using this
theorem zj8 (m:List UInt8) (hm:m≠[64]) (l:List DirD) (t:TS) (ht:isP m t=false):isP m (tDs l++t)=false:=by
 cases l with
 | nil=>exact ht
 | cons d l=>simp only[zgB,List.flatMap_cons,Al6,yj];exact decide_eq_false (Ne.symm hm)
theorem zbA (ty:TyD) (h:zN ty=true) (t:TS) (ht:isP [33] t=false):YS 4 (tTy ty++t)=.ok (ty,t):=by
 simp only[zN,Al0,zn] at h
 obtain⟨_,h1,h2,h3,h4⟩:=h
 have:=zgf ty.nm ty.lists.toNat 4 ty.musts t (by omega) h3 h4 ht
 rw[Int.toNat_of_nonneg h1] at this
 exact this
theorem znq {v:Val} (h:eqd v zV=true):v=zV:=by
 by_cases e:v=zV
 ·exact e
 ·rw[zo e] at h;cases h
theorem zfZ (dp:Int) (fixed:Bool) (l:List DirD) (x:DirD):Yf dp fixed (l++[x])=(Yf dp fixed l&&YH dp fixed x):=by simp[Yf]
theorem zjO (l:List DirD) (x:DirD):tDs (l++[x])=tDs l++tD x:=by simp[tDs]
theorem zkG (l:List DirD) (x:DirD):bDs (l++[x])=bDs l+bD x:=by simp[bDs]
theorem zkn (fixed:Bool) (m:List DirD) (hw:zi1 m) (hm:8*bDs m≤Lim):WC 242 [.bool fixed,.sl .no 2 (cDs m)] (8*bDs m) 0 32 (fun dp=>Yf dp fixed m) (tDs m):=by
 intro H w o l ok dp h h0 h1 hb
 have hml:=ziM m
 have hcl:=zc6 m
 have hm':=hm
 simp only[Lim] at hm'
 refine ACalls.go ir242 ck242 (Al4 _) fun KP Q hQ=>?_
 have w0:=WR.refl h
 simp(disch:=first|omega|assumption) only[ir242,hcl,go_sem]
 refine goL_range m 10 (fun x:Own×List Tok=>[]) (fun done rest x H'=>WR H o w l ok dp (8*bDs done) (Yf dp fixed done) (tDs done) H' x.1 x.2) (o,l) (by simp(disch:=first|omega|assumption) only[go_sem]) (w0.cast (by omega) rfl rfl) ?_ ?_
 ·rintro⟨o3,l3⟩ H3 J w3 hlt
  simp only at w3
  simp(disch:=first|omega|assumption) only[hcl,hlt,go_sem]
  exact hQ _ _ H3 H3 [] nofun rfl (Low.refl _) ⟨rfl,w3.fin rfl (fun _=>rfl) (by omega)⟩
 ·rintro done x rest ⟨o3,l3⟩ H3 J hd hlt hlt2 w3 hJ
  simp only at w3
  have hg:=zfN hd
  have hbm:=ziH done x rest
  rw[← hd] at hbm
  have hmem:x∈m:=by rw[hd];simp
  have hwx:=hw x hmem
  obtain⟨s,args⟩:=x
  have hal:=Zv args
  simp only[bD] at hbm
  have ex:cD ⟨s,args⟩=[.str s,.sl .no 6 (cMs args)]:=rfl
  rw[ex] at hg
  simp(disch:=first|omega|assumption) only[hcl,hlt,hg,go_sem]
  refine goA_intro fun b hb=>?_
  have hbw:b≠w:=fun e=>by subst e;rw[w3.here.cell] at hb;cases hb
  have w4:=w3.alloc (x:=.cells [.str s,.sl .no 6 (cMs args)]) hb
  have hbc:(H3.upd b (.cells [.str s,.sl .no 6 (cMs args)])) b=some (.cells [.str s,.sl .no 6 (cMs args)]):=upd_same ..
  simp(disch:=first|omega|assumption) only[go_sem]
  refine zh (zz [64] _) w4 (by omega) (by omega) (by omega) fun o5 l5 H5 w5 s5=>?_
  have hb5:=s5.box w4.here.own hbc hbw
  simp(disch:=first|omega|assumption) only[hb5,go_sem]
  refine zh (zq s (by simp only[Lim];omega)) w5 (by omega) (by omega) (by omega) fun o6 l6 H6 w6 s6=>?_
  have hb6:=s6.box w5.here.own hb5 hbw
  simp(disch:=first|omega|assumption) only[hb6,go_sem]
  refine zh (znf fixed args hwx (by simp only[Lim];omega)) w6 (by omega) (by omega) (by omega) fun o7 l7 H7 w7 s7=>?_
  simp(disch:=first|omega|assumption) only[wrap64,go_sem]
  exact goJ (hJ (o7,l7) H7 (w7.cast (by rw[zkG];simp only[bD];omega) (by rw[zfZ];simp[YH,yI]) (by rw[zjO];simp[tD]))) (by simp(disch:=first|omega|assumption) only[go_sem])
theorem WR.castC {H0 H:Heap} {o0 o:Own} {w B B':Nat} {l0 l tk tk':List Tok} {ok0 r r':Bool} {dp:Int} (h:WR H0 o0 w l0 ok0 dp B r tk H o l) (hB:B≤B') (hr:r=r') (ht:r'=true→tk=tk'):WR H0 o0 w l0 ok0 dp B' r' tk' H o l:=by
 subst hr
 refine⟨h.here,h.st,by have:=h.len;omega,fun e=>?_⟩
 rw[h.eq e,ht (by simp only[Al0] at e;exact e.2)]
theorem zkL (l:List VarD) (x:VarD):bWs (l++[x])=bWs l+bW x:=by simp[bWs]
noncomputable def zia (dp:Int) (x:VarD):Bool:=zm x.nm&&(zN x.t&&(if x.has then zF dp true x.d else eqd x.d zV))
theorem zfm:bV zV=1∧wfV zV:=⟨rfl,zfO,trivial,trivial⟩
theorem zjk (s:List UInt8):bV (Yb s)≤1+s.length∧wfV (Yb s):=by
 unfold Yb
 split
 ·exact⟨by rw[zfm.1];omega,zfm.2⟩
 split
 ·exact⟨by simp only[bV,bVs,bMs,Al3];omega,by simp[inR],trivial,trivial⟩
 split
 ·exact⟨by simp only[bV,bVs,bMs,Al3];omega,zfO,trivial,trivial⟩
 ·exact⟨by simp only[bV,bVs,bMs];omega,zfO,trivial,trivial⟩
theorem y1 {f:TS→PR Val} (hf:GP bV wfV 1 f):GP bM wfM 1 (zX f):=fun t x t' h=>by
 obtain⟨s,t1,h1,h2⟩:=ze h
 obtain⟨_,t2,h3,h4⟩:=ze h2
 obtain⟨v,t3,h5,h6⟩:=ze h4
 cases h6
 have g1:=zK _ _ _ h1
 have g2:=yg _ _ _ _ h3
 have g3:=hf _ _ _ h5
 have w1:=g1.w
 have w2:=g2.w
 have w3:=g3.w
 simp only[b0] at w2
 exact⟨(g3.suf.trans g2.suf).trans g1.suf,by simp only[bM];omega,g3.ok⟩
theorem zkD:∀ l:List Val,bVs l+l.length=sm bV l
 | []=>rfl
 | v::r=>by have:=zkD r;simp only[sm,bVs,Al2,List.map_cons,List.sum_cons] at *;omega
theorem zhR:∀ l:List Mem,bMs l+l.length=sm bM l
 | []=>rfl
 | v::r=>by have:=zhR r;simp only[sm,bMs,Al2,List.map_cons,List.sum_cons] at *;omega
theorem zh7:∀ {l:List Val},(∀ v∈l,wfV v)→zi9 l
 | [],_=>trivial
 | v::r,h=>⟨h v (.head _),zh7 fun x hx=>h x (.tail _ hx)⟩
theorem zfp:∀ {l:List Mem},(∀ v∈l,wfM v)→zcs l
 | [],_=>trivial
 | v::r,h=>⟨h v (.head _),zfp fun x hx=>h x (.tail _ hx)⟩
theorem zeu (fixed:Bool) (k:Nat) (ih:∀ n,k=n+1→GP bV wfV 1 (yy fixed n)):GP bV wfV 1 (yy fixed k):=fun t v t' h=>by
 rw[zY,Z8.eq_def] at h
 split at h
 ·rename_i hk
  cases h
  have h0:=zbD (t:=t) (by omega)
  have h1:=zjk (hdT t).s
  exact⟨h0.1,by omega,h1.2⟩
 split at h
 ·rename_i hk
  cases h
  have h0:=zbD (t:=t) (by omega)
  have h1:=zkF (hdT t).s
  exact⟨h0.1,by omega,h1.2⟩
 split at h
 ·rename_i hk
  cases h
  have h0:=zbD (t:=t) (by omega)
  exact⟨h0.1,by simp only[bV,bVs,bMs];omega,zfO,trivial,trivial⟩
 split at h
 ·rename_i hp
  have h0:=YA hp
  cases k with
  | zero=>cases h
  | succ n =>
   obtain⟨l,t1,h1,h2⟩:=ze h
   cases h2
   have g:=za3 (ih n rfl) _ [] _ _ _ (fun x hx=>by cases hx) h1
   have e:=zkD l
   have e0:sm bV []=0:=rfl
   exact⟨g.1.trans h0.1,by simp only[bV,bMs,Al3];omega,zfO,zh7 g.2.2,trivial⟩
 split at h
 ·rename_i hp
  have h0:=YA hp
  cases k with
  | zero=>cases h
  | succ n =>
   obtain⟨l,t1,h1,h2⟩:=ze h
   cases h2
   have g:=za3 (y1 (ih n rfl)) _ [] _ _ _ (fun x hx=>by cases hx) h1
   have e:=zhR l
   have e0:sm bM []=0:=rfl
   exact⟨g.1.trans h0.1,by simp only[bV,bVs,Al3];omega,zfO,trivial,zfp g.2.2⟩
 split at h
 ·cases h
 ·obtain⟨_,t1,h1,h2⟩:=ze h
  obtain⟨s,t2,h3,h4⟩:=ze h2
  cases h4
  have g1:=yg _ _ _ _ h1
  have g2:=zK _ _ _ h3
  have w1:=g1.w
  have w2:=g2.w
  simp only[b0] at w1
  exact⟨g2.suf.trans g1.suf,by simp only[bV,bVs,bMs];omega,zfO,trivial,trivial⟩
theorem Zs (fixed:Bool):∀ k,GP bV wfV 1 (yy fixed k)
 | 0=>zeu fixed 0 fun n h=>by cases h
 | k+1=>zeu fixed (k+1) fun n h=>by cases h;exact Zs fixed k
theorem zjq (fixed:Bool) (k:Nat):GP bMs zcs 0 (Z9 fixed k):=fun t a t' h=>by
 unfold Z9 at h
 split at h
 ·rename_i hp
  have h0:=YA hp
  have g:=Yv (y1 (Zs fixed k)) _ _ _ h
  have e:=zhR a
  have w:=g.w
  exact⟨g.suf.trans h0.1,by omega,zfp g.ok⟩
 ·cases h
  exact⟨List.suffix_refl t,by simp[bMs],trivial⟩
theorem zdc (fixed:Bool) (k:Nat):GP bD wfD 1 (zcv fixed k):=fun t a t' h=>by
 obtain⟨s,t1,h1,h2⟩:=ze h
 obtain⟨l,t2,h3,h4⟩:=ze h2
 cases h4
 have g1:=zK _ _ _ h1
 have g2:=zjq fixed k _ _ _ h3
 have w1:=g1.w
 have w2:=g2.w
 exact⟨g2.suf.trans g1.suf,by simp only[bD];omega,g2.ok⟩
theorem zmG (l:List DirD):bDs l+l.length=sm bD l:=rfl
theorem zjj (fixed:Bool) (k:Nat):GP bDs zi1 0 (zaA fixed k):=fun t a t' h=>by
 have g:=zbw (zdc fixed k) _ [] _ _ _ (fun x hx=>by cases hx) h
 have e:=zmG a
 have e0:sm bD []=0:=rfl
 exact⟨g.1,by omega,g.2.2⟩
theorem ze7 {n:Int} (h0:0≤n) (h1:n<64):inR n:=by simp only[inR];omega
theorem zis {ty:TyD} (h:zf9 4 ty):inR ty.lists∧inR ty.musts:=by
 obtain⟨h1,h2,h3,h4⟩:=h
 refine⟨ze7 h1 (by omega),ze7 h3 ?_⟩
 have:ty.lists.toNat+1≤5:=by omega
 have h5:(2:Int) ^ (ty.lists.toNat+1)≤2 ^ 5:=by exact_mod_cast Nat.pow_le_pow_right (by decide) this
 omega
theorem zkj (l:List VarD):bWs l+l.length=sm bW l:=rfl
structure FldD where
 nm:List UInt8
 ps:List VarD
 t:TyD
 dirs:List DirD
structure DefD where
 k:Int
 nm:List UInt8
 faces:List (List UInt8)
 flds:List FldD
 parts:List (List UInt8)
 ps:List VarD
structure SchD where
 defs:List DefD
 q:List UInt8
 m:List UInt8
def cL (x:FldD):List AV:=[.str x.nm,.sl .no 10 (cWs x.ps),.str x.t.nm,.int .i64 x.t.lists,.int .i64 x.t.musts,.sl .no 2 (cDs x.dirs)]
def cLs (l:List FldD):List (List AV):=l.map cL
def cE (x:DefD):List AV:=[.int .i64 x.k,.str x.nm,.sl .no 1 (cT x.faces),.sl .no 6 (cLs x.flds),.sl .no 1 (cT x.parts),.sl .no 10 (cWs x.ps)]
def cEs (l:List DefD):List (List AV):=l.map cE
def zbo (s:SchD):List AV:=[.sl .no 6 (cEs s.defs),.str s.q,.str s.m]
theorem zav (l:List FldD):(cLs l).length=l.length:=by simp[cLs]
theorem zc7 (l:List DefD):(cEs l).length=l.length:=by simp[cEs]
theorem zih {l a:List FldD} {x:FldD} {b:List FldD} (h:l=a++x::b):(cLs l).getD a.length []=cL x:=getD_mid' h
theorem zc0 {l a:List DefD} {x:DefD} {b:List DefD} (h:l=a++x::b):(cEs l).getD a.length []=cE x:=getD_mid' h
theorem zaF (x:FldD):(cL x).map AV.strip1=cL x:=rfl
theorem Zh (x:DefD):(cE x).map AV.strip1=cE x:=rfl
theorem zeM (l:List FldD):(cLs l).map (·.map AV.strip1)=cLs l:=by rw[cLs,List.map_map];exact List.map_congr_left fun v _=>zaF v
theorem zmk (nm:List UInt8) (ps:List VarD) (tn:List UInt8) (tl tm:Int) (dirs:List DirD):cL ⟨nm,ps,⟨tn,tl,tm⟩,dirs⟩=[.str nm,.sl .no 10 (cWs ps),.str tn,.int .i64 tl,.int .i64 tm,.sl .no 2 (cDs dirs)]:=rfl
theorem zdu (k:Int) (nm:List UInt8) (faces:List (List UInt8)) (flds:List FldD) (parts:List (List UInt8)) (ps:List VarD):cE ⟨k,nm,faces,flds,parts,ps⟩=[.int .i64 k,.str nm,.sl .no 1 (cT faces),.sl .no 6 (cLs flds),.sl .no 1 (cT parts),.sl .no 10 (cWs ps)]:=rfl
def bT (l:List (List UInt8)):Nat:=(l.map fun s=>1+s.length).sum
def bL (x:FldD):Nat:=1+x.nm.length+bWs x.ps+x.t.nm.length+bDs x.dirs
def bLs (l:List FldD):Nat:=(l.map bL).sum
def bE (x:DefD):Nat:=1+x.nm.length+bT x.faces+bLs x.flds+bT x.parts+bWs x.ps
def bEs (l:List DefD):Nat:=(l.map bE).sum
def zcr (s:SchD):Nat:=bEs s.defs+s.q.length+s.m.length
theorem zaq (l:List (List UInt8)):l.length≤bT l:=za4 (fun x=>by omega) l
theorem zcd (l:List FldD):l.length≤bLs l:=za4 (fun x=>by simp only[bL];omega) l
theorem zig (l:List DefD):l.length≤bEs l:=za4 (fun x=>by simp only[bE];omega) l
theorem zfz (a:List (List UInt8)) (x:List UInt8) (b:List (List UInt8)):bT (a++x::b)=bT a+(1+x.length)+bT b:=zcb ..
theorem zh6 (a:List FldD) (x:FldD) (b:List FldD):bLs (a++x::b)=bLs a+bL x+bLs b:=zcb ..
theorem zfH (a:List DefD) (x:DefD) (b:List DefD):bEs (a++x::b)=bEs a+bE x+bEs b:=zcb ..
def wfL (x:FldD):Prop:=(∀ y∈x.ps,wfW y)∧inR x.t.lists∧inR x.t.musts∧zi1 x.dirs
def wfE (x:DefD):Prop:=(∀ y∈x.flds,wfL y)∧∀ y∈x.ps,wfW y
def zdh (s:SchD):Prop:=∀ x∈s.defs,wfE x
def zx (t:TS):TS:=if (hdT t).k=5 then t.tail else t
def yr (t:TS):PR VarD:=pb (zZ (zx t)) fun s t=>pb (yp [58] t) fun _ t=>pb (YS 4 t) fun ty t =>
 if isP [61] t then pb (yy true 16 t.tail) fun v t=>.ok (⟨s,ty,true,v⟩,t) else .ok (⟨s,ty,false,zV⟩,t)
def yX (t:TS):PR FldD:=pb (zZ (zx t)) fun s t=>pb (if isP [40] t then yA [41] yr t.tail else .ok ([],t)) fun ps t=>pb (yp [58] t) fun _ t=>pb (YS 4 t) fun ty t =>
 pb (zaA true 16 t) fun d t=>.ok (⟨s,ps,ty,d⟩,t)
def ZN (m:List UInt8) (t:TS):PR (List (List UInt8)):=pb (zZ (if isP m t then t.tail else t)) fun s t=>yd m zZ (t.length+1) [s] t
def ZI (t:TS):PR (List UInt8):=if isW [116,114,117,101] (zx t)∨isW [102,97,108,115,101] (zx t)∨isW [110,117,108,108] (zx t) then .error 2 else zZ (zx t)
def zaT (k:Int) (t:TS):PR DefD:=pb (zZ t) fun s t=>pb (if isW [105,109,112,108,101,109,101,110,116,115] t then ZN [38] t.tail else .ok ([],t)) fun fs t=>pb (yp [123] t) fun _ t=>pb (yA [125] yX t) fun l t=>.ok (⟨k,s,fs,l,[],[]⟩,t)
def Y1 (t:TS):PR DefD:=pb (zZ t) fun s t=>pb (yp [123] t) fun _ t=>pb (yA [125] ZI t) fun l t=>.ok (⟨4,s,[],[],l,[]⟩,t)
def ZR (t:TS):PR DefD:=pb (zZ t) fun s t=>pb (yp [61] t) fun _ t=>pb (ZN [124] t) fun l t=>.ok (⟨3,s,[],[],l,[]⟩,t)
def ZK (t:TS):PR DefD:=pb (zZ t) fun s t=>pb (yp [123] t) fun _ t=>pb (yA [125] yr t) fun l t=>.ok (⟨5,s,[],[],[],l⟩,t)
structure SR where
 defs:List DefD
 q:List UInt8
 m:List UInt8
 told:Bool
def zaB (d:SR) (t:TS):PR SR:=pb (yp [123] t) fun _ t=>pb (if isW [113,117,101,114,121] t then .ok ((),t.tail) else .error 2) fun _ t=>pb (yp [58] t) fun _ t=>pb (zZ t) fun q t =>
 pb (if isW [109,117,116,97,116,105,111,110] t then pb (yp [58] t.tail) fun _ t=>zZ t else .ok ([],t)) fun m t=>pb (yp [125] t) fun _ t=>.ok (⟨d.defs,q,m,true⟩,t)
def Zo (d:SR) (x:DefD):SR:=⟨d.defs++[x],d.q,d.m,d.told⟩
def Yk (d:SR) (t:TS):PR SR :=
 if d.told=false∧isW [115,99,104,101,109,97] t then zaB d t.tail
 else if isW [116,121,112,101] t then pb (zaT 1 t.tail) fun x t=>.ok (Zo d x,t)
 else if isW [105,110,116,101,114,102,97,99,101] t then pb (zaT 2 t.tail) fun x t=>.ok (Zo d x,t)
 else if isW [117,110,105,111,110] t then pb (ZR t.tail) fun x t=>.ok (Zo d x,t)
 else if isW [101,110,117,109] t then pb (Y1 t.tail) fun x t=>.ok (Zo d x,t)
 else if isW [105,110,112,117,116] t then pb (ZK t.tail) fun x t=>.ok (Zo d x,t)
 else .error 2
def zy (d:SR) (t:TS):PR SR:=Yk d (zx t)
def Zy:Nat→SR→TS→PR SR
 | 0,_,_=>.error 0
 | n+1,d,t=>if t=[] then .ok (d,t) else pb (zy d t) fun d t=>Zy n d t
def sr0:SR:=⟨[],[],[],false⟩
def zbY (t:TS):PR SR:=pb (zy sr0 t) fun d t=>Zy (t.length+1) d t
def zbL (d:SR):SchD:=if d.told then ⟨d.defs,d.q,d.m⟩ else ⟨d.defs,[81,117,101,114,121],if d.defs.any fun x=>decide (x.nm=[77,117,116,97,116,105,111,110]) then [77,117,116,97,116,105,111,110] else []⟩
def tPa (x:VarD):List Tok:=wk x.nm::pk [58]::(tTy x.t++tDf x.has x.d)
def tPb (l:List VarD):List Tok:=if l.length=0 then [] else pk [40]::(l.flatMap tPa++[pk [41]])
def tL (x:FldD):List Tok:=wk x.nm::(tPb x.ps++pk [58]::(tTy x.t++tDs x.dirs))
def tNs (m:List UInt8):List (List UInt8)→List Tok
 | []=>[]
 | s::r=>wk s::r.flatMap fun s=>[pk m,wk s]
def tE (x:DefD):List Tok :=
 if x.k=1∨x.k=2 then wk (if x.k=1 then [116,121,112,101] else [105,110,116,101,114,102,97,99,101])::wk x.nm::((if x.faces.length=0 then [] else wk [105,109,112,108,101,109,101,110,116,115]::tNs [38] x.faces)++(pk [123]::(x.flds.flatMap tL++[pk [125]])))
 else if x.k=3 then wk [117,110,105,111,110]::wk x.nm::pk [61]::tNs [124] x.parts
 else if x.k=4 then wk [101,110,117,109]::wk x.nm::pk [123]::(x.parts.map wk++[pk [125]])
 else wk [105,110,112,117,116]::wk x.nm::pk [123]::(x.ps.flatMap tPa++[pk [125]])
def tRt (q m:List UInt8):List Tok:=wk [115,99,104,101,109,97]::pk [123]::wk [113,117,101,114,121]::pk [58]::wk q::((if m=[] then [] else [wk [109,117,116,97,116,105,111,110],pk [58],wk m])++[pk [125]])
def Yd (s:SchD):List Tok:=tRt s.q s.m++s.defs.flatMap tE
noncomputable def Zm (x:FldD):Bool:=zm x.nm&&(x.ps.all yW&&(zN x.t&&Yf 0 true x.dirs))
def yK (s:List UInt8):Bool:=decide (s≠[116,114,117,101])&&(decide (s≠[102,97,108,115,101])&&decide (s≠[110,117,108,108]))
noncomputable def zL (x:DefD):Bool :=
 zm x.nm&&(if x.k=1∨x.k=2 then x.faces.all zm&&(x.flds.all Zm&&(decide (x.flds.length≠0)&&(decide (x.parts.length=0)&&decide (x.ps.length=0))))
 else if x.k=3 then x.parts.all zm&&(decide (x.parts.length≠0)&&(decide (x.faces.length=0)&&(decide (x.flds.length=0)&&decide (x.ps.length=0))))
 else if x.k=4 then (x.parts.all zm&&x.parts.all yK)&&(decide (x.parts.length≠0)&&(decide (x.faces.length=0)&&(decide (x.flds.length=0)&&decide (x.ps.length=0))))
 else if x.k=5 then x.ps.all yW&&(decide (x.ps.length≠0)&&(decide (x.faces.length=0)&&(decide (x.flds.length=0)&&decide (x.parts.length=0))))
 else false)
noncomputable def yF (s:SchD):Bool:=s.defs.all zL&&(zm s.q&&(decide (s.m=[])||zm s.m))
def WS (f:FuncId) (args:List AV) (B:Nat) (r:Bool) (tk:List Tok):Prop :=
 ∀(H:Heap) (w:Nat) (o:Own) (l:List Tok) (ok:Bool),WAt H w o l ok 0→l.length+B≤Lim →
  ACalls Tryz.prog f (.agg [.ptr w 0]::args) H (zj6 fun v H'=>v=.tup []∧∃ o' l',WAt H' w o' l' (ok&&r) 0∧WStep H o w H' o'∧l'.length≤l.length+B∧((ok&&r)=true→l'=l++tk))
section
variable {KP:AV→Heap→Prop} {Q:AExit→Env→Heap→Prop} {st:List Fr} {ρ:Env} {H:Heap} {all items:List AItem} {d:Option Nat} {R:List Chk}
theorem Zb {f:FuncId} {args:List AV} {B':Nat} {r':Bool} {tk':List Tok} (hc:WS f args B' r' tk') {H0:Heap} {o0 o:Own} {w B:Nat} {l0 l tk:List Tok} {ok0 r:Bool} (h:WR H0 o0 w l0 ok0 0 B r tk H o l)
  (hb:l0.length+(B+B')≤Lim) (k:∀ o' l' H',WR H0 o0 w l0 ok0 0 (B+B') (r&&r') (tk++tk') H' o' l'→WStep H o w H' o'→goR Tryz.prog KP Q all items st R (ρ.set d (.tup [])) H') :
  goK Tryz.prog KP Q all items st d R ρ f (.agg [.ptr w 0]::args) H:=by
 have hlen:=h.len
 refine goK_ret (hc H w o l _ h.here (by omega)) fun v H' ⟨hv,o',l',h2,h3,h4,h5⟩=>?_
 subst hv
 refine k o' l' H' ⟨by rw[← yI];exact h2,h.st.trans h.here.cell h3,by omega,fun e=>?_⟩ h3
 rw[← yI] at e
 rw[h5 e,h.eq (by simp only[Al0] at e ⊢;exact e.1),ZF]
end
theorem yQ (l:List (List UInt8)) (x:List UInt8):bT (l++[x])=bT l+(1+x.length):=by simp[bT]
theorem zg6 (l:List FldD) (x:FldD):bLs (l++[x])=bLs l+bL x:=by simp[bLs]
theorem zbU (m:List VarD) (hw:∀ y∈m,wfW y) (hm:32*bWs m≤Lim):WS 168 [.sl .no 10 (cWs m)] (32*bWs m) (m.all yW) (m.flatMap tPa):=by
 intro H w o l ok h hb
 have hml:=zbf m
 have hcl:=zam m
 have hm':=hm
 simp only[Lim] at hm'
 refine ACalls.go ir168 ck168 (Al4 _) fun KP Q hQ=>?_
 have w0:=WR.refl h
 simp(disch:=first|omega|assumption) only[ir168,hcl,go_sem]
 refine goL_range m 8 (fun x:Own×List Tok=>[]) (fun done rest x H'=>WR H o w l ok 0 (32*bWs done) (done.all yW) (done.flatMap tPa) H' x.1 x.2) (o,l) (by simp(disch:=first|omega|assumption) only[go_sem]) (w0.cast (by omega) rfl rfl) ?_ ?_
 ·rintro⟨o3,l3⟩ H3 J w3 hlt
  simp only at w3
  simp(disch:=first|omega|assumption) only[hcl,hlt,go_sem]
  exact hQ _ _ H3 H3 [] nofun rfl (Low.refl _) ⟨rfl,w3.fin rfl (fun _=>rfl) (by omega)⟩
 ·rintro done x rest ⟨o5,l5⟩ H5 J5 hd hlt hlt2 w5 hJ5
  simp only at w5
  have hg:=zio hd
  have hbm:=ziu done x rest
  rw[← hd] at hbm
  have hwx:=hw x (by rw[hd];simp)
  obtain⟨vn,⟨tn,tl,tm⟩,vh,vd⟩:=x
  have hwvd:wfV vd:=hwx.2.2
  have hvp:=zbz vd
  have hbx:bW ⟨vn,⟨tn,tl,tm⟩,vh,vd⟩=vn.length+tn.length+bV vd:=rfl
  rw[zil] at hg
  simp only at hg
  simp(disch:=first|omega|assumption) only[zf,zd,za,zg,zc,zb,zj,hcl,hlt,hg,go_sem]
  refine goA_intro fun b hb=>?_
  have hbw:b≠w:=fun e=>by subst e;rw[w5.here.cell] at hb;cases hb
  have w6:=w5.alloc (x:=.cells (.str vn::.str tn::.int .i64 tl::.int .i64 tm::.bool vh::cV vd)) hb
  have hbc:(H5.upd b (.cells (.str vn::.str tn::.int .i64 tl::.int .i64 tm::.bool vh::cV vd))) b=some (.cells (.str vn::.str tn::.int .i64 tl::.int .i64 tm::.bool vh::cV vd)):=upd_same ..
  simp(disch:=first|omega|assumption) only[zf,zd,za,zg,zc,zb,zj,go_sem]
  refine zh (zq vn (by simp only[Lim];omega)) w6 (by omega) (by omega) (by omega) fun o8 l8 H8 w8 s8=>?_
  have hb8:=s8.box w6.here.own hbc hbw
  simp(disch:=first|omega|assumption) only[zf,zd,za,zg,zc,zb,zj,hb8,go_sem]
  refine zh (zz [58] _) w8 (by omega) (by omega) (by omega) fun o9 l9 H9 w9 s9=>?_
  have hb9:=s9.box w8.here.own hb8 hbw
  simp(disch:=first|omega|assumption) only[zf,zd,za,zg,zc,zb,zj,hb9,go_sem]
  refine zh (args:=[.agg [.str tn,.int .i64 tl,.int .i64 tm]]) (show WC _ [.agg [.str tn,.int .i64 tl,.int .i64 tm]] 20 (-1000) 1000 (fun _=>zN ⟨tn,tl,tm⟩) (tTy ⟨tn,tl,tm⟩) from zhV ⟨tn,tl,tm⟩ (by simp only[Lim];omega)) w9 (by omega) (by omega) (by omega) fun oC lC HC wC sC=>?_
  have hbC:=sC.box w9.here.own hb9 hbw
  simp(disch:=first|omega|assumption) only[zf,zd,za,zg,zc,zb,zj,hbC,go_sem]
  refine zh (zjp vh vd hwvd (by simp only[Lim];omega)) wC (by omega) (by omega) (by omega) fun oD lD HD wD sD=>?_
  have er:yW ⟨vn,⟨tn,tl,tm⟩,vh,vd⟩=zia 0 ⟨vn,⟨tn,tl,tm⟩,vh,vd⟩:=rfl
  simp(disch:=first|omega|assumption) only[wrap64,go_sem]
  exact goJ (hJ5 (oD,lD) HD (wD.cast (by rw[zkL];omega) (by simp[er,zia,yI]) (by simp[tPa]))) (by simp(disch:=first|omega|assumption) only[go_sem])
theorem zjX (m:List UInt8) (l:List (List UInt8)) (x:List UInt8):tNs m (l++[x])=tNs m l++if l.length=0 then [wk x] else [pk m,wk x]:=by
 cases l with
 | nil=>rfl
 | cons a r=>simp[tNs]
theorem zbd (m:List UInt8) (a:List (List UInt8)) (hm:2*bT a≤Lim):WS 208 [.str m,.sl .no 1 (cT a)] (2*bT a) (a.all zm) (tNs m a):=by
 intro H w o l ok h hb
 have hml:=zaq a
 have hcl:=yq a
 have hm':=hm
 simp only[Lim] at hm'
 refine ACalls.go ir208 ck208 (Al4 _) fun KP Q hQ=>?_
 have w0:=WR.refl h
 simp(disch:=first|omega|assumption) only[ir208,hcl,go_sem]
 refine goL_range a 10 (fun x:Own×List Tok=>[]) (fun done rest x H'=>WR H o w l ok 0 (2*bT done) (done.all zm) (tNs m done) H' x.1 x.2) (o,l) (by simp(disch:=first|omega|assumption) only[go_sem]) (w0.cast (by omega) rfl rfl) ?_ ?_
 ·rintro⟨o3,l3⟩ H3 J w3 hlt
  simp only at w3
  simp(disch:=first|omega|assumption) only[hcl,hlt,go_sem]
  exact hQ _ _ H3 H3 [] nofun rfl (Low.refl _) ⟨rfl,w3.fin rfl (fun _=>rfl) (by omega)⟩
 ·rintro done x rest ⟨o5,l5⟩ H5 J5 hd hlt hlt2 w5 hJ5
  simp only at w5
  have hg:=zd3 hd
  have hbm:=zfz done x rest
  rw[← hd] at hbm
  have hsn:=zjX m done x
  by_cases h0:done.length=0
  ·have h0':¬ ((0:Int)<(done.length:Int)):=by omega
   rw[if_pos h0] at hsn
   simp(disch:=first|omega|assumption) only[hcl,hlt,hg,h0',go_sem]
   refine zh (zq x (by simp only[Lim];omega)) w5 (by omega) (by omega) (by omega) fun o8 l8 H8 w8 s8=>?_
   simp(disch:=first|omega|assumption) only[wrap64,go_sem]
   exact goJ (hJ5 (o8,l8) H8 (w8.cast (by rw[yQ];omega) (by simp) (by rw[hsn]))) (by simp(disch:=first|omega|assumption) only[go_sem])
  ·have h0':((0:Int)<(done.length:Int))=True:=eq_true (by omega)
   rw[if_neg h0] at hsn
   simp(disch:=first|omega|assumption) only[hcl,hlt,hg,h0',go_sem]
   refine zh (zz m _) w5 (by omega) (by omega) (by omega) fun o6 l6 H6 w6 s6=>?_
   simp(disch:=first|omega|assumption) only[hcl,hlt,hg,go_sem]
   refine zh (zq x (by simp only[Lim];omega)) w6 (by omega) (by omega) (by omega) fun o8 l8 H8 w8 s8=>?_
   simp(disch:=first|omega|assumption) only[wrap64,go_sem]
   exact goJ (hJ5 (o8,l8) H8 (w8.cast (by rw[yQ];omega) (by simp) (by rw[hsn];simp))) (by simp(disch:=first|omega|assumption) only[go_sem])
theorem YX (m:List FldD) (hw:∀ y∈m,wfL y) (hm:32*bLs m≤Lim):WS 209 [.sl .no 6 (cLs m)] (32*bLs m) (m.all Zm) (m.flatMap tL):=by
 intro H w o l ok h hb
 have hml:=zcd m
 have hcl:=zav m
 have hm':=hm
 simp only[Lim] at hm'
 refine ACalls.go ir209 ck209 (Al4 _) fun KP Q hQ=>?_
 have w0:=WR.refl h
 simp(disch:=first|omega|assumption) only[ir209,hcl,go_sem]
 refine goL_range m 8 (fun x:Own×List Tok=>[]) (fun done rest x H'=>WR H o w l ok 0 (32*bLs done) (done.all Zm) (done.flatMap tL) H' x.1 x.2) (o,l) (by simp(disch:=first|omega|assumption) only[go_sem]) (w0.cast (by omega) rfl rfl) ?_ ?_
 ·rintro⟨o3,l3⟩ H3 J w3 hlt
  simp only at w3
  simp(disch:=first|omega|assumption) only[hcl,hlt,go_sem]
  exact hQ _ _ H3 H3 [] nofun rfl (Low.refl _) ⟨rfl,w3.fin rfl (fun _=>rfl) (by omega)⟩
 ·rintro done x rest ⟨o5,l5⟩ H5 J5 hd hlt hlt2 w5 hJ5
  simp only at w5
  have hg:=zih hd
  have hbm:=zh6 done x rest
  rw[← hd] at hbm
  have hwx:=hw x (by rw[hd];simp)
  obtain⟨fn,ps,⟨tn,tl,tm⟩,dirs⟩:=x
  simp only[wfL] at hwx
  have hbx:bL ⟨fn,ps,⟨tn,tl,tm⟩,dirs⟩=1+fn.length+bWs ps+tn.length+bDs dirs:=rfl
  have hpl:=zam ps
  have hpb:=zbf ps
  rw[zmk] at hg
  simp(disch:=first|omega|assumption) only[hcl,hlt,hg,go_sem]
  refine goA_intro fun b hb=>?_
  have hbw:b≠w:=fun e=>by subst e;rw[w5.here.cell] at hb;cases hb
  obtain⟨cs,hcs⟩:∃ cs,cs=[AV.str fn,.sl .no 10 (cWs ps),.str tn,.int .i64 tl,.int .i64 tm,.sl .no 2 (cDs dirs)]:=⟨_,rfl⟩
  have w6:=w5.alloc (x:=.cells cs) hb
  have hbc:(H5.upd b (.cells cs)) b=some (.cells cs):=upd_same ..
  subst hcs
  simp(disch:=first|omega|assumption) only[go_sem]
  refine zh (zq fn (by simp only[Lim];omega)) w6 (by omega) (by omega) (by omega) fun o8 l8 H8 w8 s8=>?_
  have hb8:=s8.box w6.here.own hbc hbw
  by_cases hp0:ps.length=0
  ·have hp0':¬ ((0:Int)<(ps.length:Int)):=by omega
   have hps:=Zi.1 hp0
   simp(disch:=first|omega|assumption) only[hb8,hpl,hp0',go_sem]
   refine zh (zz [58] _) w8 (by omega) (by omega) (by omega) fun oB lB HB wB sB=>?_
   have hbB:=sB.box w8.here.own hb8 hbw
   simp(disch:=first|omega|assumption) only[hbB,go_sem]
   refine zh (args:=[.agg [.str tn,.int .i64 tl,.int .i64 tm]]) (show WC _ [.agg [.str tn,.int .i64 tl,.int .i64 tm]] 20 (-1000) 1000 (fun _=>zN ⟨tn,tl,tm⟩) (tTy ⟨tn,tl,tm⟩) from zhV ⟨tn,tl,tm⟩ (by simp only[Lim];omega)) wB (by omega) (by omega) (by omega) fun oC lC HC wC sC=>?_
   have hbC:=sC.box wB.here.own hbB hbw
   simp(disch:=first|omega|assumption) only[hbC,go_sem]
   refine zh (zkn true dirs hwx.2.2.2 (by simp only[Lim];omega)) wC (by omega) (by omega) (by omega) fun oD lD HD wD sD=>?_
   simp(disch:=first|omega|assumption) only[wrap64,go_sem]
   exact goJ (hJ5 (oD,lD) HD (wD.cast (by rw[zg6];omega) (by simp[Zm,hps,yI]) (by simp[tL,tPb,hps]))) (by simp(disch:=first|omega|assumption) only[go_sem])
  ·have hp0':((0:Int)<(ps.length:Int))=True:=eq_true (by omega)
   have hps:=hp0
   simp(disch:=first|omega|assumption) only[hb8,hpl,hp0',go_sem]
   refine zh (zz [40] _) w8 (by omega) (by omega) (by omega) fun o9 l9 H9 w9 s9=>?_
   have hb9:=s9.box w8.here.own hb8 hbw
   simp(disch:=first|omega|assumption) only[hb9,go_sem]
   refine Zb (zbU ps hwx.1 (by simp only[Lim];omega)) w9 (by omega) fun oE lE HE wE sE=>?_
   have hbE:=sE.box w9.here.own hb9 hbw
   simp(disch:=first|omega|assumption) only[hbE,go_sem]
   refine zh (zz [41] _) wE (by omega) (by omega) (by omega) fun oF lF HF wF sF=>?_
   have hbF:=sF.box wE.here.own hbE hbw
   simp(disch:=first|omega|assumption) only[hbF,go_sem]
   refine zh (zz [58] _) wF (by omega) (by omega) (by omega) fun oB lB HB wB sB=>?_
   have hbB:=sB.box wF.here.own hbF hbw
   simp(disch:=first|omega|assumption) only[hbB,go_sem]
   refine zh (args:=[.agg [.str tn,.int .i64 tl,.int .i64 tm]]) (show WC _ [.agg [.str tn,.int .i64 tl,.int .i64 tm]] 20 (-1000) 1000 (fun _=>zN ⟨tn,tl,tm⟩) (tTy ⟨tn,tl,tm⟩) from zhV ⟨tn,tl,tm⟩ (by simp only[Lim];omega)) wB (by omega) (by omega) (by omega) fun oC lC HC wC sC=>?_
   have hbC:=sC.box wB.here.own hbB hbw
   simp(disch:=first|omega|assumption) only[hbC,go_sem]
   refine zh (zkn true dirs hwx.2.2.2 (by simp only[Lim];omega)) wC (by omega) (by omega) (by omega) fun oD lD HD wD sD=>?_
   simp(disch:=first|omega|assumption) only[wrap64,go_sem]
   exact goJ (hJ5 (oD,lD) HD (wD.cast (by rw[zg6];omega) (by simp[Zm,hps,yI]) (by simp[tL,tPb,hps]))) (by simp(disch:=first|omega|assumption) only[go_sem])
theorem Zz (a b:List Tok):wT (a++b)=wT a+wT b:=by simp[wT]
theorem Yz (s:List UInt8):wK (pk s)=s.length+4:=rfl
theorem YL (s:List UInt8):wK (wk s)=s.length+4:=rfl
theorem zai:wT []=0:=rfl
mutual
theorem zk0:∀ v,wfV v→wT (zM v)+16≤64*bV v
 | .mk k n s l m,⟨hn,hl,hm⟩=>by
  have h1:=zkX l hl
  have h2:=zhi m hm
  have h3:(Lib.itoa n).length≤21:=by
   have e:∀ u:Nat,u<18446744073709551616→(Lib.decDigits u).length≤20:=fun u hu=>by
    rw[Lib.decDigits_length];exact Lib.nDigits_le20 u hu
   unfold Lib.itoa;split
   ·have:=e n.natAbs (by have:=hn.1;omega)
    simp;omega
   ·have:=e n.toNat (by have:=hn.2;omega)
    omega
  have h4:(boolT (decide (n=1))).length≤5:=by unfold boolT;split<;>simp
  simp only[zM,bV]
  repeat' split
  all_goals simp only[zI,Zz,zai,wK,Al2,Al3]
  all_goals omega
theorem zkX:∀ l,zi9 l→wT (Zw l)≤64*bVs l
 | [],_=>by simp[Zw,wT]
 | v::r,⟨h,hr⟩=>by
  have h1:=zk0 v h
  have h2:=zkX r hr
  simp only[Zw,bVs,Zz];omega
theorem znH:∀ x,wfM x→wT (YD x)≤64*bM x
 | .mk s v,h=>by
  have h1:=zk0 v h
  simp only[YD,bM,zI,wK,Al2,Al3];omega
theorem zhi:∀ l,zcs l→wT (yi l)≤64*bMs l
 | [],_=>by simp[yi,wT]
 | v::r,⟨h,hr⟩=>by
  have h1:=znH v h
  have h2:=zhi r hr
  simp only[yi,bMs,Zz];omega
end
theorem zkR (l:List Mem) (h:zcs l):wT (YF l)≤74*bMs l:=by
 have h1:=zhi l h
 have h2:=Zv l
 unfold YF
 split
 ·simp[wT]
 ·simp only[zI,Zz,zai,Yz,Al2,Al3];omega
theorem Y0 {α:Type} {f:α→List Tok} {g:α→Nat} {c:Nat}:∀ l:List α,(∀ x∈l,wT (f x)≤c*g x)→wT (l.flatMap f)≤c*(l.map g).sum
 | [],_=>by simp[wT]
 | x::r,h=>by
  have h1:=h x (by simp)
  have h2:=Y0 r fun y hy=>h y (by simp[hy])
  simp only[List.flatMap_cons,Zz,List.map_cons,List.sum_cons,Nat.mul_add];omega
theorem znw (d:DirD) (h:wfD d):wT (tD d)≤80*bD d:=by
 have h1:=zkR d.args h
 simp only[tD,bD,zI,Yz,YL,Al2,Al3];omega
theorem znm (l:List DirD) (h:zi1 l):wT (tDs l)≤80*bDs l:=Y0 l fun x hx=>znw x (h x hx)
theorem ziA (n:Nat) (m:Int):∀ j,wT (zaj n m j)≤10*j
 | 0=>by simp[zaj,wT]
 | j+1=>by
  have h:=ziA n m j
  have h2:wT (zaS n m j)≤10:=by
   unfold zaS
   repeat' split
   all_goals simp[wT,Yz]
  simp only[zaj,Zz];omega
theorem zkw (t:TyD) (h:zN t=true):wT (tTy t)≤80+t.nm.length:=by
 simp only[zN,Al0,zn] at h
 obtain⟨_,h1,h2,_,_⟩:=h
 have h3:=ziA t.lists.toNat t.musts (t.lists.toNat+1)
 have h4:∀ n,wT (List.replicate n (pk [91]))=5*n:=fun n=>by
  induction n with
  | zero=>rfl
  | succ n ih=>rw[List.replicate_succ,zI,ih,Yz];simp;omega
 simp only[tTy,Zz,zI,YL,h4,zcI]
 omega
end Go.Proofs.YtaielcdfcgpbiaaGreatDoor
